/- Contract of typed.absent: does a slot go without saying? What typed's normal makes, as a plain function. What is asked of a message's slots, in whatever order (chapter 10). What hangs on some blocks alone; trees read from rows of one's own; the cells of a tree of one's own. The steps of typed's normal, in memory. A slot ahead of the inner loop of typed's normal: as it is, or its entries. For the contract of typed's checker.normal. Contract of typed's checker.normal. Contracts of typed.Normal and typed.Is. Plain laws of what typed's normal makes: it is of its message, normal again it is the same, it is no deeper and no greater. -/
import Derived.Test.YthikfifoomfjgaaGreatAwakeP10
import Derived.Test.YthikfifoomfjgaaGreatEntP10
import Derived.Test.YthikfifoomfjgaaGreatTyP10
import Derived.Test.YthikfifoomfjgaaGreatOwnIP10
import Derived.Deep.DeepCutAuto
namespace Go.Proofs.YthikfifoomfjgaaGreat
open Go.RowKit Go.Tr Go.WideMaps Go.Maps Go.Proofs.YthikfifoomfjgaaGreat.PA Go.Proofs.YthikfifoomfjgaaGreatW.PrintWords Go.Proofs.YthikfifoomfjgaaGreatW.PrintLast Go.Proofs.YthikfifoomfjgaaGreatW.PrintMore
set_option maxRecDepth 100000
set_option linter.unusedVariables false
set_option linter.unusedSimpArgs false
/-- Does it go without saying? -/
def gone (f : S47) (x : Slot) : Bool := match x.v with
  | [] => true
  | v :: _ => !f.f4 && (decide (f.f5 = -1) && (decide (f.f6 = 0) && (decide (f.f2 ≠ 9) && (decide (v.n = 0) && decide (v.s.size = 0)))))
set_option maxHeartbeats 4000000 in
theorem ty_absent (L n : Nat) (w : World) (f : S47) (cs : List Value) (x : Slot) (hx : RSlot L 0 w (RMsg L 0 w n) cs x) :
    Calls Tryz.prog 55 #[.agg #[.int .i64 f.f0, .string f.f1, .int .i64 f.f2, .int .i64 f.f3, .bool f.f4, .int .i64 f.f5, .int .i64 f.f6], .agg cs.toArray] w fun e w' => e = .returned (.bool (gone f x)) ∧ Below w.heap.size w w' := by
  obtain ⟨c, d, rfl, -, -, hk, hr⟩ := hx
  obtain ⟨a1, cap1, rfl, -⟩ := hk
  have HR := Lib.hid hr
  obtain ⟨a2, cap2, rfl, -⟩ := hr
  have hb := al2 w (.cells #[.int .i64 f.f0, .string f.f1, .int .i64 f.f2, .int .i64 f.f3, .bool f.f4, .int .i64 f.f5, .int .i64 f.f6] 47) (.cells #[.int .i64 x.no, .slice a1 x.k.length cap1, .slice a2 x.v.length cap2] 35)
  cases hv : x.v with
  | nil =>
    have hg : gone f x = true := by simp [gone, hv]
    rw [hg]
    rw [hv] at hb
    clear HR
    go_enter Tryz.func55, Tryz.ntmps55
    go_wp2
    exact ⟨rfl, _, results_tmp (t := 4) rfl _ _ _, rfl, hb⟩
  | cons v l =>
    have hl : 0 < x.v.length := by rw [hv]; simp
    obtain ⟨b, o, c0, c1, c2, e, -, m0, m1, m2, -, -, -, rv⟩ := HR.out.get3 (R := fun w => RVal L 0 w (RMsg L 0 w n)) (rval_three L 0 n) 0 hl
    cases e
    have hv0 : x.v[0] = v := by simp [hv]
    rw [hv0] at rv
    obtain ⟨c, e, -⟩ := rv
    injection e with e1 e
    injection e with e2 e
    subst e1 e2
    rw [Nat.zero_mul, Nat.add_zero] at m0 m1
    have k0 := (hb.cell (block_lt_of_cell m0)).trans m0
    have k1 := (hb.cell (block_lt_of_cell m1)).trans m1
    have bl := block_lt_of_cell k0
    have hle : x.v.length = l.length + 1 := by rw [hv]; simp
    have hg : gone f x = (!f.f4 && (decide (f.f5 = -1) && (decide (f.f6 = 0) && (decide (f.f2 ≠ 9) && (decide (v.n = 0) && decide (v.s.size = 0)))))) := by simp [gone, hv]
    have hz : decide (((l.length : Int) + 1) = 0) = false := decide_eq_false (by omega)
    have hz2 : ¬ (((l.length : Int) + 1) = 0) := by omega
    have hz3 : (0 : Int) < (l.length : Int) + 1 := by omega
    rw [hg]
    rw [hle] at hb k0 k1 bl
    rw [show (v :: l).length = l.length + 1 from rfl]
    clear hg HR hv hv0 m0 m1 m2 hl hle
    generalize l.length = q at *
    cases h4 : f.f4 with
    | true =>
      rw [h4] at hb k0 k1 bl
      go_enter Tryz.func55, Tryz.ntmps55
      go_wp2
      exact ⟨rfl, _, results_tmp (t := 4) rfl _ _ _, rfl, hb⟩
    | false =>
      rw [h4] at hb k0 k1 bl
      by_cases h5 : f.f5 = -1
      · rw [h5] at hb k0 k1 bl ⊢
        by_cases h6 : f.f6 = 0
        · rw [h6] at hb k0 k1 bl ⊢
          by_cases h2 : f.f2 = 9
          · rw [h2] at hb k0 k1 bl ⊢
            go_enter Tryz.func55, Tryz.ntmps55
            go_wp2
            exact ⟨rfl, _, results_tmp (t := 4) rfl _ _ _, rfl, hb⟩
          · have d2 : ((f.f2 : Int) != 9) = true := by simpa using h2
            by_cases hn : v.n = 0
            · rw [hn] at k0 ⊢
              by_cases hs : v.s.size = 0
              · have hs2 : v.s = ByteArray.empty := size_empty hs
                rw [hs2] at k1
                have dd : decide (f.f2 ≠ 9) = true := decide_eq_true h2
                have dz : decide (v.s.size = 0) = true := decide_eq_true hs
                rw [dd, dz]
                clear hs2 hs h2 dd dz
                go_enter Tryz.func55, Tryz.ntmps55
                go_wp2
                exact ⟨rfl, _, results_tmp (t := 4) rfl _ _ _, rfl, hb⟩
              · have ds : ¬ v.s.toList = [] := fun e => hs (by have : v.s.toList.length = 0 := by rw [e]; rfl
                                                               rw [Lib.toList_data] at this; simpa using this)
                have dd : decide (f.f2 ≠ 9) = true := decide_eq_true h2
                have dz : decide (v.s.size = 0) = false := decide_eq_false hs
                rw [dd, dz]
                have dse : (v.s.toList == ([] : List UInt8)) = false := beq_eq_false_iff_ne.2 ds
                clear hs h2 dd dz
                go_enter Tryz.func55, Tryz.ntmps55
                go_wp2
                exact ⟨rfl, _, results_tmp (t := 4) rfl _ _ _, rfl, hb⟩
            · have dn : decide (v.n = 0) = false := decide_eq_false hn
              have dn2 : ((v.n : Int) == 0) = false := beq_eq_false_iff_ne.2 hn
              rw [dn]
              go_enter Tryz.func55, Tryz.ntmps55
              go_wp2
              exact ⟨rfl, _, results_tmp (t := 4) rfl _ _ _, by simp, hb⟩
        · have d6 : ((f.f6 : Int) == 0) = false := beq_eq_false_iff_ne.2 h6
          have d6' : decide (f.f6 = 0) = false := decide_eq_false h6
          rw [d6']
          clear d6' h6
          go_enter Tryz.func55, Tryz.ntmps55
          go_wp2
          exact ⟨rfl, _, results_tmp (t := 4) rfl _ _ _, by simp, hb⟩
      · have d5 : ((f.f5 : Int) != -1) = true := by simpa using h5
        have d5' : decide (f.f5 = -1) = false := decide_eq_false h5
        rw [d5']
        clear d5' h5
        go_enter Tryz.func55, Tryz.ntmps55
        go_wp2
        exact ⟨rfl, _, results_tmp (t := 4) rfl _ _ _, by simp, hb⟩
end Go.Proofs.YthikfifoomfjgaaGreat
namespace Go.Tr
instance {M : Type} : Inhabited (ValOf M) := ⟨⟨0, ByteArray.empty, []⟩⟩
instance {M : Type} : Inhabited (SlotOf M) := ⟨⟨0, [], []⟩⟩
end Go.Tr
namespace Go.Proofs.YthikfifoomfjgaaGreat
open Go.RowKit Go.Tr Go.WideMaps Go.Maps Go.Proofs.YthikfifoomfjgaaGreat.PA Go.Proofs.YthikfifoomfjgaaGreatW.PrintWords Go.Proofs.YthikfifoomfjgaaGreatW.PrintLast Go.Proofs.YthikfifoomfjgaaGreatW.PrintMore
set_option maxRecDepth 100000
set_option linter.unusedVariables false
set_option linter.unusedSimpArgs false
/-- The places of the last ones of each key, by rising keys. -/
def ixOf (ks : List Key) : List Nat := ((List.range ks.length).filter fun j => decide ((ks[j]?.bind fun k => lastIx ks ks.length k) = some j)).mergeSort fun a b => !keyLt (kth ks b) (kth ks a)
theorem le_trans_key (ks : List Key) (a b c : Nat) (h : (!keyLt (kth ks b) (kth ks a)) = true) (k : (!keyLt (kth ks c) (kth ks b)) = true) : (!keyLt (kth ks c) (kth ks a)) = true := by
  rw [Bool.not_eq_true'] at *
  exact keyLt_ntrans _ _ _ k h
theorem le_total_key (ks : List Key) (a b : Nat) : ((!keyLt (kth ks b) (kth ks a)) || (!keyLt (kth ks a) (kth ks b))) = true := by
  cases h : keyLt (kth ks b) (kth ks a)
  · rfl
  · rw [keyLt_asymm _ _ h]; rfl
theorem ixOf_lasts (ks : List Key) : Lasts ks (ixOf ks) := by
  refine Lasts.perm ⟨(List.nodup_range).filter _, fun j => ?_⟩ (List.mergeSort_perm _ _)
  rw [List.mem_filter, List.mem_range, decide_eq_true_eq]
  constructor
  · rintro ⟨h1, h2⟩
    cases hk : ks[j]? with
    | none => rw [hk] at h2; cases h2
    | some k => rw [hk] at h2; exact ⟨k, rfl, h2⟩
  · rintro ⟨k, h1, h2⟩
    exact ⟨(List.getElem?_eq_some_iff.1 h1).1, by rw [h1]; exact h2⟩
theorem ixOf_sorted (ks : List Key) : (ixOf ks).Pairwise fun a b => keyLt (kth ks a) (kth ks b) = true := by
  refine (ixOf_lasts ks).strict ?_
  have h := List.pairwise_mergeSort (le := fun a b => !keyLt (kth ks b) (kth ks a)) (le_trans_key ks) (le_total_key ks) ((List.range ks.length).filter fun j => decide ((ks[j]?.bind fun k => lastIx ks ks.length k) = some j))
  exact h.imp fun {a b} h => by rw [Bool.not_eq_true'] at h; exact h
/-- There is no other list of these places that rises so. -/
theorem ixOf_eq {ks : List Key} {js : List Nat} (h : Lasts ks js) (hs : js.Pairwise fun a b => keyLt (kth ks a) (kth ks b) = true) : js = ixOf ks := by
  have k := ixOf_lasts ks
  refine List.Perm.eq_of_pairwise (le := fun a b => keyLt (kth ks a) (kth ks b) = true) (fun a b _ _ h1 h2 => ?_) hs (ixOf_sorted ks) ((List.perm_ext_iff_of_nodup h.1 k.1).2 fun j => (h.2 j).trans (k.2 j).symm)
  rw [keyLt_asymm _ _ h1] at h2; cases h2
def keysOf (l : List Val) : List Key := l.map fun x => (x.n, x.s)
/-- A map's entries, the last ones of each key, by rising keys. -/
def entOf (y : Slot) : Slot := ⟨y.no, (ixOf (keysOf y.k)).map fun j => y.k.getD j default, (ixOf (keysOf y.k)).map fun j => y.v.getD j default⟩
/-- A value, its message made normal. -/
def newV (rec : Int → Msg → Msg) (f : S47) (v : Val) : Val := if f.f2 = 9 then ⟨0, "".toUTF8, [rec f.f3 (v.m.headD (.mk []))]⟩ else v
def entSlot (f : S47) (y : Slot) : Slot := if f.f5 = -1 then y else entOf y
/-- What becomes of a slot. -/
def normSlot (S : Sch) (rec : Int → Msg → Msg) (m : Int) (y : Slot) : List Slot := match S.fl m y.no with
  | none => []
  | some f => if gone f y = true then [] else [⟨y.no, (entSlot f y).k, (entSlot f y).v.map (newV rec f)⟩]
def sortNo (l : List Slot) : List Slot := l.mergeSort fun a b => decide (a.no ≤ b.no)
/-- A message without what goes without saying. -/
def norm (S : Sch) : Nat → Int → Msg → Msg
  | 0, _, x => x
  | n + 1, m, x => .mk (sortNo (x.f.flatMap (normSlot S (norm S n) m)))
theorem sortNo_sorted (l : List Slot) : (sortNo l).Pairwise fun a b => a.no ≤ b.no := by
  have h := List.pairwise_mergeSort (le := fun a b : Slot => decide (a.no ≤ b.no)) (fun a b c h k => by simp at *; omega) (fun a b => by simp; omega) l
  exact h.imp fun {a b} h => by simpa using h
theorem nodup_map_inj {α β : Type} {f : α → β} : ∀ {l : List α}, (l.map f).Nodup → ∀ {a b : α}, a ∈ l → b ∈ l → f a = f b → a = b
  | [], _, _, _, h, _, _ => by simp at h
  | x :: l, h, a, b, ha, hb, e => by
    rw [List.map_cons, List.nodup_cons] at h
    rcases List.mem_cons.1 ha with e1 | ha'
    · rcases List.mem_cons.1 hb with e2 | hb'
      · rw [e1, e2]
      · exact absurd (List.mem_map.2 ⟨b, hb', by rw [← e, e1]⟩) h.1
    · rcases List.mem_cons.1 hb with e2 | hb'
      · exact absurd (List.mem_map.2 ⟨a, ha', by rw [e, e2]⟩) h.1
      · exact nodup_map_inj h.2 ha' hb' e
theorem sortNo_eq {l l' : List Slot} (hp : l'.Perm l) (hs : l'.Pairwise fun a b => a.no ≤ b.no) (hd : (l.map fun y => y.no).Nodup) : l' = sortNo l := by
  have hd' : (l'.map fun y => y.no).Nodup := (hp.map _).nodup_iff.2 hd
  refine List.Perm.eq_of_pairwise (le := fun a b : Slot => a.no ≤ b.no) (fun a b ha hb h1 h2 => ?_) hs (sortNo_sorted l) (hp.trans (List.mergeSort_perm _ _).symm)
  have hab : a.no = b.no := by omega
  have hb' : b ∈ l' := hp.mem_iff.2 ((List.mergeSort_perm _ _).mem_iff.1 hb)
  exact nodup_map_inj hd' ha hb' hab
theorem runOk_all (S : Sch) (mo : Int → Msg → Bool) (m : Int) : ∀ (l : List Slot) (nums ones : List Int), runOk S mo m l nums ones = true → (l.map fun y => y.no).Nodup ∧ ∀ y ∈ l, y.no ∉ nums ∧ ∃ f, S.fl m y.no = some f ∧ slotOk mo f y = true
  | [], _, _, _ => ⟨by simp, by simp⟩
  | y :: l, nums, ones, h => by
    rw [runOk] at h
    cases hf : S.fl m y.no with
    | none => rw [hf] at h; cases h
    | some f =>
      rw [hf] at h
      simp only [Bool.and_eq_true, Bool.not_eq_true', decide_eq_false_iff_not] at h
      obtain ⟨h1, -, h3, h4⟩ := h
      obtain ⟨k1, k2⟩ := runOk_all S mo m l _ _ h4
      refine ⟨?_, ?_⟩
      · rw [List.map_cons, List.nodup_cons]
        refine ⟨fun hm => ?_, k1⟩
        obtain ⟨z, hz, e⟩ := List.mem_map.1 hm
        exact (k2 z hz).1 (by rw [e]; simp)
      · intro z hz
        rcases List.mem_cons.1 hz with rfl | hz
        · exact ⟨h1, f, hf, h3⟩
        · obtain ⟨k3, k4⟩ := k2 z hz
          exact ⟨fun hm => k3 (List.mem_cons_of_mem _ hm), k4⟩
theorem normSlot_no {S : Sch} {rec : Int → Msg → Msg} {m : Int} {y z : Slot} (h : z ∈ normSlot S rec m y) : z.no = y.no := by
  unfold normSlot at h
  split at h
  · simp at h
  · split at h
    · simp at h
    · simp at h; rw [h]
theorem normSlots_nodup (S : Sch) (rec : Int → Msg → Msg) (m : Int) : ∀ l : List Slot, (l.map fun y => y.no).Nodup → ((l.flatMap (normSlot S rec m)).map fun y => y.no).Nodup
  | [], _ => by simp
  | y :: l, h => by
    rw [List.map_cons, List.nodup_cons] at h
    rw [List.flatMap_cons, List.map_append, List.nodup_append]
    refine ⟨?_, normSlots_nodup S rec m l h.2, ?_⟩
    · unfold normSlot
      split
      · simp
      · split <;> simp
    · intro a ha b hb e
      subst e
      obtain ⟨z, hz, rfl⟩ := List.mem_map.1 ha
      obtain ⟨u, hu, e⟩ := List.mem_map.1 hb
      obtain ⟨v, hv, hu⟩ := List.mem_flatMap.1 hu
      have e1 := normSlot_no hz
      have e2 := normSlot_no hu
      exact h.1 (List.mem_map.2 ⟨v, hv, by omega⟩)
end Go.Proofs.YthikfifoomfjgaaGreat
namespace Go.Proofs.YthikfifoomfjgaaGreat
open Go.RowKit Go.Tr Go.WideMaps Go.Maps Go.Proofs.YthikfifoomfjgaaGreat.PA Go.Proofs.YthikfifoomfjgaaGreatW.PrintWords Go.Proofs.YthikfifoomfjgaaGreatW.PrintLast Go.Proofs.YthikfifoomfjgaaGreatW.PrintMore
set_option maxRecDepth 100000
set_option linter.unusedVariables false
set_option linter.unusedSimpArgs false
def oneOf (S : Sch) (m : Int) (no : Int) : Int := match S.fl m no with | some f => f.f6 | none => 0
def Apart (S : Sch) (m : Int) (y y' : Slot) : Prop := y.no ≠ y'.no ∧ ¬ (0 < oneOf S m y'.no ∧ oneOf S m y'.no = oneOf S m y.no)
theorem Apart.symm {S : Sch} {m : Int} {y y' : Slot} (h : Apart S m y y') : Apart S m y' y := ⟨fun e => h.1 e.symm, fun hh => h.2 ⟨by rw [← hh.2]; exact hh.1, hh.2.symm⟩⟩
theorem runOk_iff (S : Sch) (mo : Int → Msg → Bool) (m : Int) : ∀ (l : List Slot) (nums ones : List Int), runOk S mo m l nums ones = true ↔ l.Pairwise (Apart S m) ∧ ∀ y ∈ l, y.no ∉ nums ∧ ¬ (0 < oneOf S m y.no ∧ oneOf S m y.no ∈ ones) ∧ ∃ f, S.fl m y.no = some f ∧ slotOk mo f y = true
  | [], _, _ => by simp [runOk]
  | y :: l, nums, ones => by
    rw [runOk]
    cases hf : S.fl m y.no with
    | none =>
      simp only [Bool.false_eq_true, false_iff, not_and, List.pairwise_cons]
      intro _ h
      obtain ⟨-, -, f, h1, -⟩ := h y (by simp)
      rw [hf] at h1; cases h1
    | some f =>
      have ho : oneOf S m y.no = f.f6 := by unfold oneOf; rw [hf]
      simp only [Bool.and_eq_true, Bool.not_eq_true', decide_eq_false_iff_not, runOk_iff S mo m l, List.pairwise_cons, List.mem_cons, forall_eq_or_imp]
      constructor
      · rintro ⟨h1, h2, h3, h4, h5⟩
        have h2' : ¬ (0 < f.f6 ∧ f.f6 ∈ ones) := fun hh => by simp [hh.1, hh.2] at h2
        refine ⟨⟨fun z hz => ?_, h4⟩, ⟨h1, by rw [ho]; exact h2', f, hf, h3⟩, fun z hz => ?_⟩
        · obtain ⟨k1, k2, -⟩ := h5 z hz
          refine ⟨fun e => k1 (.inl e.symm), fun hh => k2 ⟨hh.1, .inl ?_⟩⟩
          rw [← ho]; exact hh.2
        · obtain ⟨k1, k2, k3⟩ := h5 z hz
          exact ⟨fun e => k1 (.inr e), fun hh => k2 ⟨hh.1, .inr hh.2⟩, k3⟩
      · rintro ⟨⟨h1, h2⟩, ⟨h3, h4, f', h5, h6⟩, h7⟩
        rw [hf] at h5
        injection h5 with h5
        subst h5
        rw [ho] at h4
        refine ⟨h3, ?_, h6, h2, fun z hz => ?_⟩
        · cases hd : decide (0 < f.f6)
          · rfl
          · rw [decide_eq_true_eq] at hd
            simp only [Bool.true_and, decide_eq_false_iff_not]
            exact fun hm => h4 ⟨hd, hm⟩
        · obtain ⟨k1, k2, k3⟩ := h7 z hz
          have ap := h1 z hz
          refine ⟨fun e => ?_, fun hh => ?_, k3⟩
          · rcases e with e | e
            · exact ap.1 e.symm
            · exact k1 e
          · rcases hh.2 with e | e
            · exact ap.2 ⟨hh.1, by rw [ho]; exact e⟩
            · exact k2 ⟨hh.1, e⟩
/-- What is asked of a message's slots, in whatever order. -/
def AllOk (S : Sch) (mo : Int → Msg → Bool) (m : Int) (l : List Slot) : Prop := l.Pairwise (Apart S m) ∧ ∀ y ∈ l, ∃ f, S.fl m y.no = some f ∧ slotOk mo f y = true
theorem runOk_all' (S : Sch) (mo : Int → Msg → Bool) (m : Int) (l : List Slot) : runOk S mo m l [] [] = true ↔ AllOk S mo m l := by
  rw [runOk_iff]
  simp [AllOk]
theorem AllOk.perm {S : Sch} {mo : Int → Msg → Bool} {m : Int} {l l' : List Slot} (h : AllOk S mo m l) (hp : l'.Perm l) : AllOk S mo m l' :=
  ⟨(hp.pairwise_iff fun {_ _} h => Apart.symm h).2 h.1, fun y hy => h.2 y (hp.mem_iff.1 hy)⟩
theorem msgOk_iff (S : Sch) (n : Nat) (m : Int) (x : Msg) : msgOk S (n + 1) m x = true ↔ AllOk S (msgOk S n) m x.f ∧ 0 ≤ m ∧ m < S.M.length := by
  rw [msgOk, Bool.and_eq_true, runOk_all']
  simp
end Go.Proofs.YthikfifoomfjgaaGreat
namespace Go.Tr
open Go.RowKit
set_option linter.unusedVariables false
set_option linter.unusedSimpArgs false
/-- What holds as long as these blocks stay as they are. -/
def Fix (F : Nat → Prop) (w : World) (P : World → Prop) : Prop := ∀ w', (∀ k, F k → w'.heap[k]? = w.heap[k]?) → P w'
variable {F F' : Nat → Prop} {w w' : World} {P P' : World → Prop}
theorem Fix.here (h : Fix F w P) : P w := h w fun _ _ => rfl
theorem Fix.keep (h : Fix F w P) (hw : ∀ k, F k → w'.heap[k]? = w.heap[k]?) : Fix F w' P := fun w2 h2 => h w2 fun k hk => (h2 k hk).trans (hw k hk)
theorem Fix.mono (h : Fix F w P) (hF : ∀ k, F k → F' k) : Fix F' w P := fun w2 h2 => h w2 fun k hk => h2 k (hF k hk)
theorem Fix.imp (h : Fix F w P) (hP : ∀ w, P w → P' w) : Fix F w P' := fun w2 h2 => hP _ (h w2 h2)
theorem cell_of_same {w w' : World} {b o : Nat} (h : w'.heap[b]? = w.heap[b]?) : w'.cell? ⟨b, o, none⟩ = w.cell? ⟨b, o, none⟩ := World.cell?_of_block (w := w) (w' := w') h
/-- A row of one's own, each element hanging on blocks of its own. -/
theorem row_fix {α β : Type} [Inhabited α] {L B e k g cap : Nat} (enc : α → List Value) (hk : 0 < k) (he : ∀ x, (enc x).length = k) {d : List α} {xs : List β} (hl : d.length = xs.length) (hL : xs.length ≤ L)
    (h : w.ownsRow B e k (.slice (some ⟨g, 0, none⟩) xs.length cap) xs.length (d.flatMap enc)) (R : World → List Value → β → Prop) (Ft : Nat → Nat → Prop)
    (hF : ∀ t (h1 : t < d.length) (h2 : t < xs.length), Fix (Ft t) w fun w => R w (enc d[t]) xs[t]) :
    Fix (fun q => q = g ∨ ∃ t, t < d.length ∧ Ft t q) w fun w => RowOf L 0 w k (R w) (.slice (some ⟨g, 0, none⟩) xs.length cap) xs := by
  intro w' hw
  have hcap : xs.length ≤ cap ∧ cap ≤ maxLen := by
    rcases h.2 with ⟨h, -⟩ | ⟨g', c, cur, h, -, -, h1, h2, -⟩
    · cases h
    · cases h; exact ⟨h1, h2⟩
  refine ⟨_, cap, rfl, hL, hcap.1, hcap.2, by simp, fun _ => ⟨g, 0, rfl, Nat.zero_le _, fun i hi => ⟨enc d[i], he _, fun j u hj => ?_, hF i (by omega) hi w' fun q hq => hw q (.inr ⟨i, by omega, hq⟩)⟩⟩⟩
  have hj' : j < k := by have := (List.getElem?_eq_some_iff.1 hj).1; rw [he] at this; exact this
  have hm : (i + 1) * k ≤ xs.length * k := Nat.mul_le_mul_right _ hi
  rw [Nat.add_mul] at hm
  rw [cell_of_same (hw g (.inl rfl)), Nat.zero_add, h.cellAt _ (by omega), flatMap_get enc k hk he d _ (by rw [hl]; omega)]
  have e1 : (i * k + j) / k = i := by rw [Nat.mul_comm, Nat.mul_add_div hk, Nat.div_eq_of_lt hj', Nat.add_zero]
  have e2 : (i * k + j) % k = j := by rw [Nat.mul_comm, Nat.mul_add_mod, Nat.mod_eq_of_lt hj']
  rw [e1, e2, getElem!_pos d i (by omega)]
  have hjl : j < (enc d[i]).length := by rw [he]; exact hj'
  rw [getElem!_pos _ j hjl, ← hj, List.getElem?_eq_getElem hjl]
/-- A row of nothing. -/
theorem row_nil_fix {β : Type} (F : Nat → Prop) (w : World) (L k : Nat) (R : World → List Value → β → Prop) : Fix F w fun w => RowOf L 0 w k (R w) (.slice none 0 0) ([] : List β) := fun w' _ => ⟨none, 0, rfl, by simp, by simp, by simp, by simp, by simp⟩
end Go.Tr
namespace Go.Proofs.YthikfifoomfjgaaGreat
open Go.RowKit Go.Tr
set_option linter.unusedVariables false
set_option linter.unusedSimpArgs false
/-- A value of one message, made anew. -/
theorem new_val_fix {F : Nat → Prop} {w : World} {L n b t : Nat} {c : Value} {z : Msg} (hL : 1 ≤ L) (hb : w.heap[b]? = some (.cells #[c] t (0, 0))) (h : Fix F w fun w => RMsg L 0 w n [c] z) :
    Fix (fun q => q = b ∨ F q) w fun w => RVal L 0 w (RMsg L 0 w n) [.int .i64 0, .string "".toUTF8, .slice (some ⟨b, 0, none⟩) 1 1] (⟨0, "".toUTF8, [z]⟩ : Val) := by
  intro w' hw
  refine ⟨_, rfl, by simp, by simp, (show "".toUTF8.size ≤ 140737488355328 by decide), some ⟨b, 0, none⟩, 1, rfl, hL, Nat.le_refl _, by simp [maxLen], by simp, fun _ => ⟨b, 0, rfl, Nat.zero_le _, fun i hi => ?_⟩⟩
  have hi0 : i = 0 := by simp at hi; exact hi
  subst hi0
  refine ⟨[c], rfl, fun j u hj => ?_, h w' fun q hq => hw q (.inr hq)⟩
  have hj0 : j = 0 := by have := (List.getElem?_eq_some_iff.1 hj).1; simpa using this
  subst hj0
  have hc : w'.heap[b]? = some (.cells #[c] t (0, 0)) := (hw b (.inl rfl)).trans hb
  rw [show (0 + 0 * 1 + 0) = 0 from rfl, cell_of_row w' b 0 _ _ (0, 0) hc]
  simpa using hj
theorem slot_fix {F G : Nat → Prop} {w : World} {L n : Nat} {no : Int} {kv vv : Value} {ks vs : List Val} (h1 : -9223372036854775808 ≤ no) (h2 : no ≤ 9223372036854775807) (hk : Fix F w fun w => RowOf L 0 w 3 (RVal L 0 w (RMsg L 0 w n)) kv ks) (hv : Fix G w fun w => RowOf L 0 w 3 (RVal L 0 w (RMsg L 0 w n)) vv vs) :
    Fix (fun q => F q ∨ G q) w fun w => RSlot L 0 w (RMsg L 0 w n) [.int .i64 no, kv, vv] (⟨no, ks, vs⟩ : Slot) :=
  fun w' hw => ⟨_, _, rfl, h1, h2, hk w' fun q hq => hw q (.inl hq), hv w' fun q hq => hw q (.inr hq)⟩
theorem msg_fix {F : Nat → Prop} {w : World} {L n : Nat} {v : Value} {zs : List Slot} (h : Fix F w fun w => RowOf L 0 w 3 (RSlot L 0 w (RMsg L 0 w n)) v zs) : Fix F w fun w => RMsg L 0 w (n + 1) [v] (.mk zs) := h.imp fun w hw => ⟨v, rfl, hw⟩
/-! a tree of one's own -/
theorem oval_fix {L n lo hi : Nat} {w : World} {cs : List Value} {x : Val} (hL : L ≤ maxLen) (h : OVal L w (OMsg L w n) lo hi cs x) : Fix (fun q => lo ≤ q ∧ q < hi) w fun w => RVal L 0 w (RMsg L 0 w n) cs x := fun w' hw =>
  OVal.reads (h.gen (Nat.le_refl _) (Nat.le_refl _) (fun q h1 h2 => hw q ⟨h1, h2⟩) fun l u cs x b1 b2 h => OMsg.gen n (Nat.le_refl _) (Nat.le_refl _) (fun q h1 h2 => hw q ⟨by omega, by omega⟩) h) hL (Nat.zero_le _) fun l u cs x _ _ h => OMsg.reads hL n (Nat.zero_le _) h
theorem orow_fix {L n lo hi : Nat} {w : World} {v : Value} {xs : List Val} (hL : L ≤ maxLen) (h : ORow 39 3 L lo hi w (OVal L w (OMsg L w n)) v xs) : Fix (fun q => lo ≤ q ∧ q < hi) w fun w => RowOf L 0 w 3 (RVal L 0 w (RMsg L 0 w n)) v xs := fun w' hw =>
  (orow_stay (fun q h1 h2 => hw q ⟨h1, h2⟩) h).row hL (Nat.zero_le _) fun l u cs x _ _ _ h => OVal.reads h hL (Nat.zero_le _) fun l u cs x _ _ h => OMsg.reads hL n (Nat.zero_le _) h
/-- Three cells, as a value's. -/
def decV : Value → Value → Value → VC
  | .int _ n, .string s, .slice a m c => (n, s, a, m, c)
  | _, _, _ => default
theorem encV_len (x : VC) : (encV x).length = 3 := rfl
/-- The cells of a row of values of one's own. -/
theorem orow_cells {L n lo hi : Nat} {w : World} {v : Value} {xs : List Val} (h : ORow 39 3 L lo hi w (OVal L w (OMsg L w n)) v xs) (hne : xs ≠ []) :
    ∃ (g : Nat) (cs : List VC) (b : Nat → Nat), v = .slice (some ⟨g, 0, none⟩) xs.length xs.length ∧ w.ownsRow lo 39 3 v xs.length (cs.flatMap encV) ∧ cs.length = xs.length ∧ lo ≤ g ∧ g < b 0 ∧ b xs.length ≤ hi ∧ (∀ t, t < xs.length → b t ≤ b (t + 1)) ∧
      (∀ t (h1 : t < cs.length) (h2 : t < xs.length), OVal L w (OMsg L w n) (b t) (b (t + 1)) (encV cs[t]) xs[t]) := by
  rcases h.2 with ⟨h, -⟩ | ⟨g, ys, b, rfl, ho, hg, hb, hp⟩
  · exact absurd h hne
  have hcell : ∀ t (ht : t < xs.length), ∃ x : VC, ys[t * 3]? = some (.int .i64 x.1) ∧ ys[t * 3 + 1]? = some (.string x.2.1) ∧ ys[t * 3 + 2]? = some (.slice x.2.2.1 x.2.2.2.1 x.2.2.2.2) ∧ OVal L w (OMsg L w n) (b t) (b (t + 1)) (encV x) xs[t] := by
    intro t ht
    obtain ⟨cs, -, h2, h3⟩ := hp.2 t ht ht
    have h3' := h3
    obtain ⟨c, rfl, -, -, -, h4⟩ := h3
    obtain ⟨a, cap, rfl⟩ := h4.2.val
    exact ⟨(xs[t].n, xs[t].s, a, xs[t].m.length, cap), h2 0 _ rfl, h2 1 _ rfl, h2 2 _ rfl, h3'⟩
  have hcell' : ∀ t, ∃ x : VC, ∀ (ht : t < xs.length), ys[t * 3]? = some (.int .i64 x.1) ∧ ys[t * 3 + 1]? = some (.string x.2.1) ∧ ys[t * 3 + 2]? = some (.slice x.2.2.1 x.2.2.2.1 x.2.2.2.2) ∧ OVal L w (OMsg L w n) (b t) (b (t + 1)) (encV x) xs[t] := fun t => by
    by_cases ht : t < xs.length
    · obtain ⟨x, hx⟩ := hcell t ht; exact ⟨x, fun _ => hx⟩
    · exact ⟨default, fun h => absurd h ht⟩
  obtain ⟨f, hf⟩ := Classical.axiomOfChoice hcell'
  have hl : ((List.range xs.length).map f).length = xs.length := by simp
  refine ⟨g, (List.range xs.length).map f, b, rfl, ?_, hl, (ho.lt g rfl).1, hg, hb, hp.1, fun t h1 h2 => ?_⟩
  · have : ((List.range xs.length).map f).flatMap encV = ys := by
      apply List.ext_getElem?
      intro t
      by_cases ht : t < xs.length * 3
      · rw [flatMap_get encV 3 (by omega) encV_len _ t (by rw [hl]; exact ht)]
        have hq : t / 3 < xs.length := by omega
        rw [getElem!_pos _ (t / 3) (by rw [hl]; exact hq)]
        obtain ⟨h0, h1, h2, -⟩ := hf (t / 3) hq
        have e : t = t / 3 * 3 + t % 3 := by omega
        simp only [List.getElem_map, List.getElem_range]
        have hm : t % 3 < 3 := Nat.mod_lt _ (by omega)
        match hr : t % 3, hm with
        | 0, _ => rw [show ys[t]? = ys[t / 3 * 3]? by congr 1; omega, h0]; rfl
        | 1, _ => rw [show ys[t]? = ys[t / 3 * 3 + 1]? by congr 1; omega, h1]; rfl
        | 2, _ => rw [show ys[t]? = ys[t / 3 * 3 + 2]? by congr 1; omega, h2]; rfl
      · have h1 : ys.length = xs.length * 3 := ho.1
        have h2 : (((List.range xs.length).map f).flatMap encV).length = xs.length * 3 := by
          have hh : ∀ l : List VC, (l.flatMap encV).length = l.length * 3 := fun l => by induction l with
            | nil => rfl
            | cons a l ih => rw [List.flatMap_cons, List.length_append, ih, encV_len]; simp; omega
          rw [hh, hl]
        rw [List.getElem?_eq_none (by omega), List.getElem?_eq_none (by omega)]
    rw [this]; exact ho
  · simp only [List.getElem_map, List.getElem_range]
    exact (hf t h2).2.2.2
theorem flatV_len (l : List VC) : (l.flatMap encV).length = l.length * 3 := by
  induction l with
  | nil => rfl
  | cons a l ih => rw [List.flatMap_cons, List.length_append, ih, encV_len]; simp; omega
/-- The cells of a row, one by one. -/
theorem vrow_owned {w : World} {B g cap : Nat} {cs : List VC} {n : Nat} (h : w.ownsRow B 39 3 (.slice (some ⟨g, 0, none⟩) n cap) n (cs.flatMap encV)) : VRow w g cs := fun t ht => by
  have hl := h.1
  rw [flatV_len] at hl
  have key : ∀ j, j < 3 → w.cell? ⟨g, t * 3 + j, none⟩ = (encV cs[t])[j]? := fun j hj => by
    rw [h.cellAt _ (by omega), flatMap_get encV 3 (by omega) encV_len cs _ (by omega)]
    rw [show (t * 3 + j) / 3 = t by omega, show (t * 3 + j) % 3 = j by omega, getElem!_pos cs t ht]
    have hjl : j < (encV cs[t]).length := hj
    rw [getElem!_pos _ j hjl, List.getElem?_eq_getElem hjl]
  exact ⟨key 0 (by omega), key 1 (by omega), key 2 (by omega)⟩
end Go.Proofs.YthikfifoomfjgaaGreat
namespace Go.Tr
open Go.RowKit
set_option linter.unusedVariables false
set_option linter.unusedSimpArgs false
/-- Of what was there only these blocks may have changed. -/
structure Keep (F : Nat → Prop) (w w' : World) : Prop where
  os : w'.os = w.os
  tape : w'.tape = w.tape
  output : w'.output = w.output
  size : w.heap.size ≤ w'.heap.size
  block : ∀ q, q < w.heap.size → ¬ F q → w'.heap[q]? = w.heap[q]?
theorem Keep.refl (F : Nat → Prop) (w : World) : Keep F w w := ⟨rfl, rfl, rfl, Nat.le_refl _, fun _ _ _ => rfl⟩
theorem Keep.trans {F G H : Nat → Prop} {a b c : World} (h : Keep F a b) (k : Keep G b c) (hF : ∀ q, F q → H q) (hG : ∀ q, q < a.heap.size → G q → H q) : Keep H a c :=
  ⟨k.os.trans h.os, k.tape.trans h.tape, k.output.trans h.output, Nat.le_trans h.size k.size, fun q hq hn => (k.block q (by have := h.size; omega) fun e => hn (hG q hq e)).trans (h.block q hq fun e => hn (hF q e))⟩
theorem Keep.mono {F H : Nat → Prop} {a b : World} (h : Keep F a b) (hF : ∀ q, q < a.heap.size → F q → H q) : Keep H a b := ⟨h.os, h.tape, h.output, h.size, fun q hq hn => h.block q hq fun e => hn (hF q hq e)⟩
theorem Keep.of_below {F : Nat → Prop} {a b : World} (h : Below a.heap.size a b) : Keep F a b := ⟨h.os, h.tape, h.output, h.size, fun q hq _ => h.block q hq⟩
theorem Keep.of_grown {F : Nat → Prop} {a b : World} {row : Option Nat} (h : a.grownBy b row) (hF : ∀ q, row = some q → q < a.heap.size → F q) : Keep F a b := ⟨h.os, h.tape, h.output, h.size, fun q hq hn => h.block q hq fun e => hn (hF q e.symm hq)⟩
theorem Keep.of_set (F : Nat → Prop) (w : World) (p : Addr) (u : Value) (hF : F p.block) : Keep F w (w.setCell p u) := .of_grown (grown_set w p u) fun q e _ => by cases e; exact hF
theorem Keep.below {F : Nat → Prop} {w0 a b : World} {B : Nat} (h : Keep F a b) (h0 : Below B w0 a) (hB : B ≤ a.heap.size) (hF : ∀ q, q < B → ¬ F q) : Below B w0 b :=
  h0.trans ⟨h.os, h.tape, h.output, h.size, fun q hq => h.block q (by omega) (hF q hq)⟩
theorem Keep.stay {F : Nat → Prop} {a b : World} {lo hi : Nat} (h : Keep F a b) (hh : hi ≤ a.heap.size) (hF : ∀ q, lo ≤ q → q < hi → ¬ F q) : Stay lo hi a b := fun q h1 h2 => h.block q (by omega) (hF q h1 h2)
theorem Keep.own {F : Nat → Prop} {a b : World} {B e k n : Nat} {v : Value} {ys : List Value} (h : Keep F a b) (ho : a.ownsRow B e k v n ys) (hF : ∀ q, v.ownBlock = some q → ¬ F q) : b.ownsRow B e k v n ys :=
  owns_stay ho (Nat.le_refl _) fun q hq => h.block q (ho.lt q hq).2 (hF q hq)
theorem Keep.fix {F G : Nat → Prop} {a b : World} {P : World → Prop} (h : Keep F a b) (hP : Fix G a P) (hG : ∀ q, G q → q < a.heap.size ∧ ¬ F q) : Fix G b P := hP.keep fun q hq => h.block q (hG q hq).1 (hG q hq).2
end Go.Tr
namespace Go.Proofs.YthikfifoomfjgaaGreat
open Go.RowKit Go.Tr
set_option linter.unusedVariables false
set_option linter.unusedSimpArgs false
/-- A row of values that may be written, its values in blocks of their own, apart. -/
structure VSt (L n : Nat) (w : World) (a z s : Nat) (vs : List Val) (gv cap : Nat) (cs : List VC) (I J : Nat → Nat) : Prop where
  own : w.ownsRow 0 39 3 (.slice (some ⟨gv, 0, none⟩) vs.length cap) vs.length (cs.flatMap encV)
  len : cs.length = vs.length
  row : (a ≤ gv ∧ gv < z) ∨ s ≤ gv
  iv : ∀ t, t < vs.length → a ≤ I t ∧ I t ≤ J t ∧ J t ≤ z ∧ (gv < I t ∨ J t ≤ gv)
  apart : ∀ t u, t < vs.length → u < vs.length → t ≠ u → J t ≤ I u ∨ J u ≤ I t
  val : ∀ t (h1 : t < cs.length) (h2 : t < vs.length), OVal L w (OMsg L w n) (I t) (J t) (encV cs[t]) vs[t]
/-- The first i values are made normal. -/
structure VIn (L n : Nat) (wc : World) (vs : List Val) (gv cap : Nat) (cs : List VC) (I J : Nat → Nat) (rec : Val → Val) (i : Nat) (wr : World) (cs' : List VC) : Prop where
  own : wr.ownsRow 0 39 3 (.slice (some ⟨gv, 0, none⟩) vs.length cap) vs.length (cs'.flatMap encV)
  len : cs'.length = vs.length
  rest : ∀ t, i ≤ t → cs'[t]? = cs[t]?
  new : ∀ t, t < i → ∀ (h1 : t < cs'.length) (h2 : t < vs.length), ∃ F : Nat → Prop, Fix F wr (fun w => RVal L 0 w (RMsg L 0 w n) (encV cs'[t]) (rec vs[t])) ∧ ∀ q, F q → ((I t ≤ q ∧ q < J t) ∨ wc.heap.size ≤ q) ∧ q < wr.heap.size
  keep : Keep (fun q => q = gv ∨ ∃ t, t < i ∧ I t ≤ q ∧ q < J t) wc wr
section
variable {L n : Nat} {wc wr w1 : World} {a z s : Nat} {vs : List Val} {gv cap : Nat} {cs cs' : List VC} {I J : Nat → Nat} {rec : Val → Val} {i : Nat}
theorem VSt.lt (h : VSt L n wc a z s vs gv cap cs I J) : gv < wc.heap.size := (h.own.lt gv rfl).2
theorem VIn.start (h : VSt L n wc a z s vs gv cap cs I J) : VIn L n wc vs gv cap cs I J rec 0 wc cs := ⟨h.own, h.len, fun _ _ => rfl, fun t ht => absurd ht (by omega), Keep.refl _ _⟩
theorem VIn.val (h : VSt L n wc a z s vs gv cap cs I J) (k : VIn L n wc vs gv cap cs I J rec i wr cs') (hz : z ≤ wc.heap.size) {t : Nat} (ht : i ≤ t) (h1 : t < cs'.length) (h2 : t < vs.length) : OVal L wr (OMsg L wr n) (I t) (J t) (encV cs'[t]) vs[t] := by
  have e : cs'[t] = cs[t]'(by rw [h.len]; exact h2) := by
    have := k.rest t ht
    rw [List.getElem?_eq_getElem h1, List.getElem?_eq_getElem (by rw [h.len]; exact h2)] at this
    injection this
  rw [e]
  have iv := h.iv t h2
  refine oval_stay L n _ _ _ _ _ _ (k.keep.stay (by omega) fun q q1 q2 hq => ?_) (h.val t (by rw [h.len]; exact h2) h2)
  rcases hq with rfl | ⟨u, hu, u1, u2⟩
  · omega
  · have := h.apart t u h2 (by omega) (by omega); omega
theorem flat_set {l : List VC} {i : Nat} (hi : i < l.length) (x : VC) : (((l.flatMap encV).set (i * 3) (.int .i64 x.1)).set (i * 3 + 1) (.string x.2.1)).set (i * 3 + 2) (.slice x.2.2.1 x.2.2.2.1 x.2.2.2.2) = (l.set i x).flatMap encV := by
  apply List.ext_getElem?
  intro t
  have hl := flatV_len l
  have hl2 := flatV_len (l.set i x)
  rw [List.length_set] at hl2
  by_cases ht : t < l.length * 3
  · rw [flatMap_get encV 3 (by omega) encV_len (l.set i x) t (by rw [List.length_set]; exact ht)]
    have hq : t / 3 < l.length := by omega
    rw [getElem!_pos _ (t / 3) (by rw [List.length_set]; exact hq), List.getElem_set]
    have old := flatMap_get encV 3 (by omega) encV_len l t ht
    rw [getElem!_pos l (t / 3) hq] at old
    by_cases e : i = t / 3
    · rw [if_pos e]
      have hm : t % 3 < 3 := Nat.mod_lt _ (by omega)
      match hr : t % 3, hm with
      | 0, _ => rw [show t = i * 3 by omega, List.getElem?_set_ne (by omega), List.getElem?_set_ne (by omega), List.getElem?_set_self (by omega)]; rfl
      | 1, _ => rw [show t = i * 3 + 1 by omega, List.getElem?_set_ne (by omega), List.getElem?_set_self (by simp only [List.length_set]; omega)]; rfl
      | 2, _ => rw [show t = i * 3 + 2 by omega, List.getElem?_set_self (by simp only [List.length_set]; omega)]; rfl
    · rw [if_neg e, List.getElem?_set_ne (by omega), List.getElem?_set_ne (by omega), List.getElem?_set_ne (by omega), old]
  · rw [List.getElem?_eq_none (by simp only [List.length_set]; omega), List.getElem?_eq_none (by omega)]
/-- A value that stays as it is. -/
theorem VIn.stay (h : VSt L n wc a z s vs gv cap cs I J) (k : VIn L n wc vs gv cap cs I J rec i wr cs') (hz : z ≤ wc.heap.size) (hL : L ≤ maxLen) (hi : i < vs.length) (hb : Below wr.heap.size wr w1) (hr : rec vs[i] = vs[i]) : VIn L n wc vs gv cap cs I J rec (i + 1) w1 cs' := by
  have hs := hb.size
  refine ⟨owns_below k.own hb, k.len, fun t ht => k.rest t (by omega), fun t ht h1 h2 => ?_, k.keep.trans (.of_below (F := fun _ => False) hb) (fun q hq => ?_) fun q _ hq => hq.elim⟩
  · by_cases e : t = i
    · subst e
      have iv := h.iv t h2
      refine ⟨fun q => I t ≤ q ∧ q < J t, ?_, fun q hq => ⟨.inl hq, by have := k.keep.size; omega⟩⟩
      have := oval_fix hL (k.val h hz (Nat.le_refl _) h1 h2)
      rw [hr]
      exact this.keep fun q hq => hb.block q (by have := k.keep.size; omega)
    · obtain ⟨F, f1, f2⟩ := k.new t (by omega) h1 h2
      exact ⟨F, f1.keep fun q hq => hb.block q (f2 q hq).2, fun q hq => ⟨(f2 q hq).1, by have := (f2 q hq).2; omega⟩⟩
  · rcases hq with rfl | ⟨t, ht, h1⟩
    · exact .inl rfl
    · exact .inr ⟨t, by omega, h1⟩
/-- A value whose message is made normal. -/
theorem VIn.sub (h : VSt L n wc a z s vs gv cap cs I J) (k : VIn L n wc vs gv cap cs I J rec i wr cs') (hz : z ≤ wc.heap.size) (hL : 1 ≤ L) (hi : i < vs.length) (hk : Keep (fun q => I i ≤ q ∧ q < J i) wr w1) {c : Value} {zm : Msg} {F : Nat → Prop} (hF : Fix F w1 fun w => RMsg L 0 w n [c] zm)
    (hq : ∀ q, F q → ((I i ≤ q ∧ q < J i) ∨ wc.heap.size ≤ q) ∧ q < w1.heap.size) (hr : rec vs[i] = ⟨0, "".toUTF8, [zm]⟩) (ty : Nat) :
    VIn L n wc vs gv cap cs I J rec (i + 1) ((((w1.alloc (.cells #[c] ty)).setCell ⟨gv, i * 3, none⟩ (.int .i64 0)).setCell ⟨gv, i * 3 + 1, none⟩ (.string "".toUTF8)).setCell ⟨gv, i * 3 + 2, none⟩ (.slice (some ⟨w1.heap.size, 0, none⟩) 1 1)) (cs'.set i (0, "".toUTF8, some ⟨w1.heap.size, 0, none⟩, 1, 1)) := by
  have iv := h.iv i hi
  have hwr := k.keep.size
  have hw1 := hk.size
  have hgv := h.lt
  have hz1 : (w1.alloc (.cells #[c] ty)).heap.size = w1.heap.size + 1 := by simp
  have ho1 : (w1.alloc (.cells #[c] ty)).ownsRow 0 39 3 (.slice (some ⟨gv, 0, none⟩) vs.length cap) vs.length (cs'.flatMap encV) :=
    (hk.own k.own fun q e hh => by
      have e : q = gv := by simpa [Value.ownBlock] using e.symm
      subst e; omega).alloc _
  have st := owns_stored3 ho1 (i * 3) (.int .i64 0) (.string "".toUTF8) (.slice (some ⟨w1.heap.size, 0, none⟩) 1 1)
  have e9 : (w1.alloc (.cells #[c] ty)).setCells gv (i * 3) [.int .i64 0, .string "".toUTF8, .slice (some ⟨w1.heap.size, 0, none⟩) 1 1] = ((((w1.alloc (.cells #[c] ty)).setCell ⟨gv, i * 3, none⟩ (.int .i64 0)).setCell ⟨gv, i * 3 + 1, none⟩ (.string "".toUTF8)).setCell ⟨gv, i * 3 + 2, none⟩ (.slice (some ⟨w1.heap.size, 0, none⟩) 1 1)) := rfl
  rw [e9] at st
  generalize ((((w1.alloc (.cells #[c] ty)).setCell ⟨gv, i * 3, none⟩ (.int .i64 0)).setCell ⟨gv, i * 3 + 1, none⟩ (.string "".toUTF8)).setCell ⟨gv, i * 3 + 2, none⟩ (.slice (some ⟨w1.heap.size, 0, none⟩) 1 1)) = w9 at st
  have hfl := flat_set (l := cs') (i := i) (by rw [k.len]; exact hi) (0, "".toUTF8, some ⟨w1.heap.size, 0, none⟩, 1, 1)
  have s9 := st.2.size
  have k9 : Keep (fun q => q = gv) (w1.alloc (.cells #[c] ty)) w9 := .of_grown st.2 fun q e _ => by injection e with e; exact e.symm
  have kA : Keep (fun _ => False) w1 (w1.alloc (.cells #[c] ty)) := .of_below (al1 _ _)
  have k19 : Keep (fun q => q = gv) w1 w9 := kA.trans k9 (fun q h => h.elim) fun q _ h => h
  refine ⟨by rw [← hfl]; exact st.1, by simp [k.len], fun t ht => ?_, fun t ht h1 h2 => ?_, ?_⟩
  · rw [List.getElem?_set_ne (by omega)]; exact k.rest t (by omega)
  · by_cases e : t = i
    · subst e
      have hblk : (w1.alloc (.cells #[c] ty)).heap[w1.heap.size]? = some (.cells #[c] ty (0, 0)) := heap_alloc_new _ _
      have f0 := new_val_fix (L := L) (n := n) hL hblk (kA.fix hF fun q hq' => ⟨(hq q hq').2, fun h => h⟩)
      refine ⟨fun q => q = w1.heap.size ∨ F q, ?_, ?_⟩
      · have f1 := k9.fix f0 fun q hq' => by
          rcases hq' with rfl | hq'
          · exact ⟨by omega, by omega⟩
          · have := hq q hq'; exact ⟨by omega, by omega⟩
        rw [hr, List.getElem_set_self]
        exact f1
      · intro q hq'
        rcases hq' with rfl | hq'
        · exact ⟨.inr (by omega), by omega⟩
        · have := hq q hq'; exact ⟨this.1, by omega⟩
    · have ht' : t < i := by omega
      obtain ⟨G, f1, f2⟩ := k.new t ht' (by rw [k.len]; exact h2) h2
      have ivt := h.iv t h2
      have apt := h.apart t i h2 hi e
      rw [List.getElem_set_ne (by omega)]
      refine ⟨G, k19.fix (hk.fix f1 fun q hG => ⟨(f2 q hG).2, fun hh => ?_⟩) fun q hG => ⟨?_, fun hh => ?_⟩, fun q hG => ⟨(f2 q hG).1, ?_⟩⟩
      · have := f2 q hG; omega
      · have := f2 q hG; omega
      · have := f2 q hG; subst hh; omega
      · have := f2 q hG; omega
  · refine (k.keep.trans (hk.trans k19 (H := fun q => q = gv ∨ (I i ≤ q ∧ q < J i)) (fun q hh => .inr hh) fun q _ hh => .inl hh) (fun q hh => ?_) fun q _ hh => ?_)
    · rcases hh with rfl | ⟨t, ht, hh⟩
      · exact .inl rfl
      · exact .inr ⟨t, by omega, hh⟩
    · rcases hh with rfl | hh
      · exact .inl rfl
      · exact .inr ⟨i, by omega, hh⟩
/-- All values made normal: the row, as it reads. -/
theorem VIn.done (h : VSt L n wc a z s vs gv cap cs I J) (k : VIn L n wc vs gv cap cs I J rec vs.length wr cs') (hL : vs.length ≤ L) :
    ∃ F : Nat → Prop, Fix F wr (fun w => RowOf L 0 w 3 (RVal L 0 w (RMsg L 0 w n)) (.slice (some ⟨gv, 0, none⟩) vs.length cap) (vs.map rec)) ∧ ∀ q, F q → (q = gv ∨ (∃ t, t < vs.length ∧ I t ≤ q ∧ q < J t) ∨ wc.heap.size ≤ q) ∧ q < wr.heap.size := by
  have hch : ∀ t, ∃ F : Nat → Prop, ∀ (h1 : t < cs'.length) (h2 : t < vs.length), Fix F wr (fun w => RVal L 0 w (RMsg L 0 w n) (encV cs'[t]) (rec vs[t])) ∧ ∀ q, F q → ((I t ≤ q ∧ q < J t) ∨ wc.heap.size ≤ q) ∧ q < wr.heap.size := fun t => by
    by_cases ht : t < vs.length
    · obtain ⟨F, hF⟩ := k.new t ht (by rw [k.len]; exact ht) ht
      exact ⟨F, fun _ _ => hF⟩
    · exact ⟨fun _ => False, fun _ h => absurd h ht⟩
  obtain ⟨f, hf⟩ := Classical.axiomOfChoice hch
  have hl : (vs.map rec).length = vs.length := by simp
  have h0 := row_fix (L := L) encV (by omega) encV_len (d := cs') (xs := vs.map rec) (by rw [hl, k.len]) (by rw [hl]; exact hL) (by rw [hl]; exact k.own) (fun w cs x => RVal L 0 w (RMsg L 0 w n) cs x) f (fun t h1 h2 => by
    have h2' : t < vs.length := by rw [hl] at h2; exact h2
    have := (hf t h1 h2').1
    simp only [List.getElem_map]
    exact this)
  rw [hl] at h0
  refine ⟨_, h0, fun q hq => ?_⟩
  have hwr := k.keep.size
  have hgv := h.lt
  rcases hq with rfl | ⟨t, ht, hq⟩
  · exact ⟨.inl rfl, by omega⟩
  · rw [k.len] at ht
    obtain ⟨h1, h2⟩ := (hf t (by rw [k.len]; exact ht) ht).2 q hq
    rcases h1 with h1 | h1
    · exact ⟨.inr (.inl ⟨t, ht, h1⟩), h2⟩
    · exact ⟨.inr (.inr h1), h2⟩
end
/-! the outer loop -/
/-- The first k slots are made normal. -/
structure NIn (L n B : Nat) (w : World) (b : Nat → Nat) (zs : List Slot) (k : Nat) (wr : World) (vo : Value) (d : List SC) : Prop where
  own : wr.ownsRow B 35 3 vo d.length (d.flatMap encS)
  len : d.length = zs.length
  new : ∀ t (h1 : t < d.length) (h2 : t < zs.length), ∃ F : Nat → Prop, Fix F wr (fun w => RSlot L 0 w (RMsg L 0 w n) (encS d[t]) zs[t]) ∧ ∀ q, F q → q < wr.heap.size ∧ ((b 0 ≤ q ∧ q < b k) ∨ B ≤ q) ∧ vo.ownBlock ≠ some q
  keep : Keep (fun q => b 0 ≤ q ∧ q < b k) w wr
section
variable {L n B : Nat} {w wr w1 w9 : World} {b : Nat → Nat} {zs : List Slot} {k : Nat} {vo : Value} {d : List SC}
theorem NIn.start (L n B : Nat) (w w1 : World) (b : Nat → Nat) (h : Below w.heap.size w w1) : NIn L n B w b [] 0 w1 (.slice none 0 0) [] :=
  ⟨World.ownsRow_nil _ _ _ _, rfl, fun t h1 => absurd h1 (by simp), .of_below h⟩
/-- New blocks, and writes into the blocks of slot k alone. -/
theorem NIn.pass (h : NIn L n B w b zs k wr vo d) (h0 : b 0 ≤ b k) (h1 : b k ≤ b (k + 1)) (hz : b (k + 1) ≤ B) (hB : B ≤ wr.heap.size) (hw : Keep (fun q => b k ≤ q ∧ q < b (k + 1)) wr w1) : NIn L n B w b zs (k + 1) w1 vo d := by
  have hs := hw.size
  refine ⟨hw.own h.own fun q hq hh => ?_, h.len, fun t t1 t2 => ?_, h.keep.trans hw (fun q hq => by omega) fun q _ hq => by omega⟩
  · have := h.own.lt q hq; omega
  · obtain ⟨F, f1, f2⟩ := h.new t t1 t2
    refine ⟨F, hw.fix f1 fun q hq => ⟨(f2 q hq).1, fun hh => ?_⟩, fun q hq => ?_⟩
    · have := f2 q hq; omega
    · have := f2 q hq; exact ⟨by omega, by omega, this.2.2⟩
/-- One block far from all changes. -/
theorem NIn.set (h : NIn L n B w b zs k wr vo d) {p : Addr} (hp : p.block < B) (hq : w.heap.size ≤ p.block) (hb : b k ≤ p.block) (u : Value) : NIn L n B w b zs k (wr.setCell p u) vo d := by
  have kp : Keep (fun q => q = p.block) wr (wr.setCell p u) := .of_set _ _ _ _ rfl
  refine ⟨kp.own h.own fun q hq' hh => ?_, h.len, fun t t1 t2 => ?_, h.keep.trans kp (fun q hq => hq) fun q hlt hh => by omega⟩
  · have := h.own.lt q hq'; omega
  · obtain ⟨F, f1, f2⟩ := h.new t t1 t2
    refine ⟨F, kp.fix f1 fun q hF => ⟨(f2 q hF).1, fun hh => ?_⟩, fun q hF => ?_⟩
    · have := f2 q hF; omega
    · have := f2 q hF; exact ⟨by have := kp.size; omega, this.2⟩
/-- One more slot. -/
theorem NIn.app (h : NIn L n B w b zs k wr vo d) {x : SC} {y : Slot} {F : Nat → Prop} (hF : Fix F wr fun w => RSlot L 0 w (RMsg L 0 w n) (encS x) y) (hq : ∀ q, F q → q < wr.heap.size ∧ ((b 0 ≤ q ∧ q < b k) ∨ B ≤ q) ∧ vo.ownBlock ≠ some q) (hwB : w.heap.size ≤ B)
    {g cap m : Nat} (hm : m = d.length + 1) (s1 : w9.ownsRow B 35 3 (.slice (some ⟨g, 0, none⟩) m cap) m (d.flatMap encS ++ encS x)) (s2 : wr.grownBy w9 vo.ownBlock) (s3 : vo.ownBlock = some g ∨ g = wr.heap.size) :
    NIn L n B w b (zs ++ [y]) k w9 (.slice (some ⟨g, 0, none⟩) m cap) (d ++ [x]) := by
  subst hm
  have hs := s2.size
  have kp : Keep (fun q => vo.ownBlock = some q) wr w9 := .of_grown s2 fun q e _ => e
  have ne : ∀ q, q < wr.heap.size → vo.ownBlock ≠ some q → (Value.slice (some ⟨g, 0, none⟩) (d.length + 1) cap).ownBlock ≠ some q := fun q h1 h2 e => by
    have e : q = g := by simpa [Value.ownBlock] using e.symm
    subst e
    rcases s3 with s3 | s3
    · exact h2 s3
    · omega
  refine ⟨by simpa using s1, by simp [h.len], fun t t1 t2 => ?_, h.keep.trans kp (fun q hq => hq) fun q hlt hh => ?_⟩
  · by_cases e : t < d.length
    · obtain ⟨G, f1, f2⟩ := h.new t e (by rw [← h.len]; exact e)
      rw [List.getElem_append_left e, List.getElem_append_left (by rw [← h.len]; exact e)]
      exact ⟨G, kp.fix f1 fun q hG => ⟨(f2 q hG).1, (f2 q hG).2.2⟩, fun q hG => ⟨by have := f2 q hG; omega, (f2 q hG).2.1, ne q (f2 q hG).1 (f2 q hG).2.2⟩⟩
    · have e1 : t = d.length := by simp at t1; omega
      subst e1
      have e2 : (zs ++ [y])[d.length] = y := by rw [List.getElem_append_right (by rw [h.len]; exact Nat.le_refl _)]; simp [h.len]
      rw [e2, List.getElem_append_right (Nat.le_refl _)]
      simp only [Nat.sub_self, List.getElem_cons_zero]
      exact ⟨F, kp.fix hF fun q hG => ⟨(hq q hG).1, (hq q hG).2.2⟩, fun q hG => ⟨by have := hq q hG; omega, (hq q hG).2.1, ne q (hq q hG).1 (hq q hG).2.2⟩⟩
  · have := (h.own.lt q hh).1; omega
end
end Go.Proofs.YthikfifoomfjgaaGreat
namespace Go.Proofs.YthikfifoomfjgaaGreat
open Go.RowKit Go.Tr
set_option linter.unusedVariables false
set_option linter.unusedSimpArgs false
/-- A slot's keys, and its values that may be written. -/
def YSt (L n : Nat) (w : World) (a z s : Nat) (y : Slot) (kv vv : Value) : Prop :=
  ∃ (mid gv cap : Nat) (cs : List VC) (I J : Nat → Nat) (FK : Nat → Prop), a ≤ mid ∧ mid ≤ z ∧ vv = .slice (some ⟨gv, 0, none⟩) y.v.length cap ∧ VSt L n w mid z s y.v gv cap cs I J ∧ Fix FK w (fun w => RowOf L 0 w 3 (RVal L 0 w (RMsg L 0 w n)) kv y.k) ∧
    (∀ q, FK q → ((a ≤ q ∧ q < mid) ∨ s ≤ q) ∧ q < w.heap.size ∧ q ≠ gv) ∧ y.v.length ≤ L
theorem YSt.plain {L n a z s : Nat} {w : World} {y : Slot} {no : Int} {kv vv : Value} (hL : L ≤ maxLen) (h : OSlot L w (OMsg L w n) a z [.int .i64 no, kv, vv] y) (hz : z ≤ s) (hs : s ≤ w.heap.size) (hv : y.v ≠ []) : YSt L n w a z s y kv vv := by
  obtain ⟨c, d, mid, e, h1, h2, m1, m2, h3, h4⟩ := h
  cases e
  obtain ⟨g, cs, b, rfl, ho, hl, g1, g2, g3, g4, g5⟩ := orow_cells h4 hv
  have ch := fun t u h1 h2 => chain_le (b := b) (i := y.v.length) g4 t u h1 h2
  refine ⟨mid, g, _, cs, b, fun t => b (t + 1), _, m1, m2, rfl, ⟨owns_lower ho (Nat.zero_le _), hl, .inl ⟨g1, ?_⟩, fun t ht => ?_, fun t u ht hu hne => ?_, g5⟩, orow_fix hL h3, fun q hq => ?_, h4.1⟩
  · have := ch 0 y.v.length (Nat.zero_le _) (Nat.le_refl _); omega
  · have c1 := ch 0 t (Nat.zero_le _) (by omega)
    have c2 := ch t (t + 1) (by omega) (by omega)
    have c3 := ch (t + 1) y.v.length (by omega) (Nat.le_refl _)
    exact ⟨by omega, c2, by omega, .inl (by omega)⟩
  · rcases Nat.lt_or_gt_of_ne hne with hh | hh
    · exact .inl (ch (t + 1) u (by omega) (by omega))
    · exact .inr (ch (u + 1) t (by omega) (by omega))
  · exact ⟨.inl hq, by omega, by omega⟩
/-- The cells of a slot's rows. -/
theorem oslot_rows {L n a z : Nat} {w : World} {y : Slot} {no : Int} {kv vv : Value} (h : OSlot L w (OMsg L w n) a z [.int .i64 no, kv, vv] y) (hk : y.k ≠ []) (hv : y.v ≠ []) :
    ∃ (mid gk gv : Nat) (kc vc : List VC) (bk bv : Nat → Nat), a ≤ mid ∧ mid ≤ z ∧ kv = .slice (some ⟨gk, 0, none⟩) y.k.length y.k.length ∧ vv = .slice (some ⟨gv, 0, none⟩) y.v.length y.v.length ∧ VRow w gk kc ∧ VRow w gv vc ∧ kc.length = y.k.length ∧ vc.length = y.v.length ∧ keysV kc = keysOf y.k ∧ (∀ k ∈ keysV kc, keyFit k) ∧
      a ≤ bk 0 ∧ bk y.k.length ≤ mid ∧ mid ≤ bv 0 ∧ bv y.v.length ≤ z ∧ (∀ t, t < y.k.length → bk t ≤ bk (t + 1)) ∧ (∀ t, t < y.v.length → bv t ≤ bv (t + 1)) ∧
      (∀ t (h1 : t < kc.length) (h2 : t < y.k.length), OVal L w (OMsg L w n) (bk t) (bk (t + 1)) (encV kc[t]) y.k[t]) ∧ (∀ t (h1 : t < vc.length) (h2 : t < y.v.length), OVal L w (OMsg L w n) (bv t) (bv (t + 1)) (encV vc[t]) y.v[t]) ∧ y.k.length ≤ L ∧ y.v.length ≤ L ∧ no = y.no := by
  obtain ⟨c, d, mid, e, h1, h2, m1, m2, h3, h4⟩ := h
  cases e
  obtain ⟨gk, kc, bk, rfl, hok, hlk, k1, k2, k3, k4, k5⟩ := orow_cells h3 hk
  obtain ⟨gv, vc, bv, rfl, hov, hlv, v1, v2, v3, v4, v5⟩ := orow_cells h4 hv
  have key : ∀ t (h1 : t < kc.length) (h2 : t < y.k.length), kc[t].1 = y.k[t].n ∧ kc[t].2.1 = y.k[t].s ∧ keyFit (y.k[t].n, y.k[t].s) := fun t t1 t2 => by
    obtain ⟨c, e, b1, b2, b3, -⟩ := k5 t t1 t2
    simp only [encV] at e
    injection e with e1 e
    injection e with e2 e
    injection e1 with _ e1
    injection e2 with e2
    exact ⟨e1, e2, WalkArith.wf_i64 ⟨by omega, by omega⟩, by show y.k[t].s.size ≤ maxLen; unfold maxLen; omega⟩
  have hkeys : keysV kc = keysOf y.k := by
    apply List.ext_getElem (by simp [keysV, keysOf, hlk])
    intro t t1 t2
    simp only [keysV, keysOf, List.getElem_map]
    have t1' : t < kc.length := by simpa [keysV] using t1
    have := key t t1' (by omega)
    exact Prod.ext this.1 this.2.1
  refine ⟨mid, gk, gv, kc, vc, bk, bv, m1, m2, rfl, rfl, vrow_owned hok, vrow_owned hov, hlk, hlv, hkeys, fun k hk' => ?_, by omega, k3, by omega, v3, k4, v4, k5, v5, h3.1, h4.1, rfl⟩
  rw [hkeys] at hk'
  obtain ⟨v, hv', rfl⟩ := List.mem_map.1 hk'
  obtain ⟨t, ht, rfl⟩ := List.mem_iff_getElem.1 hv'
  exact (key t (by omega) ht).2.2
theorem flatMap_pick (js : List Nat) (l : List VC) : (js.flatMap fun j => encV (l.getD j default)) = (js.map fun j => l.getD j default).flatMap encV := by rw [List.flatMap_map]
theorem YSt.ent {L n a z s : Nat} {w w' : World} {y : Slot} {no : Int} {kv vv : Value} {e : Ending} (hL : L ≤ maxLen) {mid gk gv : Nat} {kc vc : List VC} {bk bv : Nat → Nat} (m1 : a ≤ mid) (m2 : mid ≤ z) (hlk : kc.length = y.k.length) (hlv : vc.length = y.v.length) (hkv : y.k.length = y.v.length) (hkeys : keysV kc = keysOf y.k)
    (k1 : a ≤ bk 0) (k2 : bk y.k.length ≤ mid) (v1 : mid ≤ bv 0) (v2 : bv y.v.length ≤ z) (k4 : ∀ t, t < y.k.length → bk t ≤ bk (t + 1)) (v4 : ∀ t, t < y.v.length → bv t ≤ bv (t + 1))
    (k5 : ∀ t (h1 : t < kc.length) (h2 : t < y.k.length), OVal L w (OMsg L w n) (bk t) (bk (t + 1)) (encV kc[t]) y.k[t]) (v5 : ∀ t (h1 : t < vc.length) (h2 : t < y.v.length), OVal L w (OMsg L w n) (bv t) (bv (t + 1)) (encV vc[t]) y.v[t]) (hlL : y.k.length ≤ L)
    (hz : z ≤ s) (hs : s ≤ w.heap.size) (hp : EntPost w no kc vc e w') : ∃ k1 k2 : Value, e = .returned (.agg #[.int .i64 no, k1, k2]) ∧ (∃ A c, k1 = .slice A (entOf y).k.length c) ∧ YSt L n w' a z s (entOf y) k1 k2 ∧ Below w.heap.size w w' := by
  obtain ⟨js, gk', ck, gv', cv, hla, hst, rfl, ok, ov, hne, hb⟩ := hp
  have hix : js = ixOf (keysOf y.k) := by rw [← hkeys]; exact ixOf_eq hla hst
  have hks : (keysOf y.k).length = y.k.length := by simp [keysOf]
  have hjlt : ∀ j ∈ js, j < y.k.length := fun j hj => by have := hla.lt hj; rw [hkeys, hks] at this; exact this
  have hjl : js.length ≤ y.k.length := by
    have : js ⊆ List.range y.k.length := fun j hj => List.mem_range.2 (hjlt j hj)
    simpa using List.Nodup.length_le_of_subset hla.1 this
  have ek : (entOf y).k = js.map fun j => y.k.getD j default := by rw [hix]; rfl
  have ev : (entOf y).v = js.map fun j => y.v.getD j default := by rw [hix]; rfl
  have ekl : (entOf y).k.length = js.length := by rw [ek]; simp
  have evl : (entOf y).v.length = js.length := by rw [ev]; simp
  have chk := fun t u h1 h2 => chain_le (b := bk) (i := y.k.length) k4 t u h1 h2
  have chv := fun t u h1 h2 => chain_le (b := bv) (i := y.v.length) v4 t u h1 h2
  rw [flatMap_pick] at ok ov
  have hbs := hb.size
  have hgk := ok.lt gk' rfl
  have hgv := ov.lt gv' rfl
  have jget : ∀ t (h : t < js.length), js[t] < y.k.length := fun t h => hjlt _ (List.getElem_mem h)
  refine ⟨_, _, rfl, ⟨_, _, by rw [ekl]⟩, ⟨mid, gv', cv, js.map (fun j => vc.getD j default), fun t => bv (js.getD t 0), fun t => bv (js.getD t 0 + 1), fun q => q = gk' ∨ (a ≤ q ∧ q < mid), m1, m2, by rw [evl], ?_, ?_, fun q hq => ?_, by rw [evl]; omega⟩, hb⟩
  · rw [ev]
    refine ⟨?_, by simp, .inr (by omega), fun t ht => ?_, fun t u ht hu htu => ?_, fun t h1 h2 => ?_⟩
    · have hh : (js.map fun j => y.v.getD j default).length = js.length := by simp
      rw [hh]
      exact owns_lower ov (Nat.zero_le _)
    · have ht' : t < js.length := by simpa using ht
      have e1 : js.getD t 0 = js[t] := by simp [ht']
      have hj := jget t ht'
      have c1 := chv 0 js[t] (Nat.zero_le _) (by omega)
      have c2 := chv js[t] (js[t] + 1) (by omega) (by omega)
      have c3 := chv (js[t] + 1) y.v.length (by omega) (Nat.le_refl _)
      simp only [e1]
      exact ⟨by omega, c2, by omega, .inr (by omega)⟩
    · have ht' : t < js.length := by simpa using ht
      have hu' : u < js.length := by simpa using hu
      have e1 : js.getD t 0 = js[t] := by simp [ht']
      have e2 : js.getD u 0 = js[u] := by simp [hu']
      have hj := jget t ht'
      have hj' := jget u hu'
      have hne' : js[t] ≠ js[u] := by
        have hpw := List.pairwise_iff_getElem.1 hla.1
        rcases Nat.lt_or_gt_of_ne htu with hh | hh
        · exact hpw t u ht' hu' hh
        · exact fun e => hpw u t hu' ht' hh e.symm
      simp only [e1, e2]
      rcases Nat.lt_or_gt_of_ne hne' with hh | hh
      · exact .inl (chv (js[t] + 1) js[u] (by omega) (by omega))
      · exact .inr (chv (js[u] + 1) js[t] (by omega) (by omega))
    · have ht' : t < js.length := by simpa using h2
      have hj := jget t ht'
      have e1 : js.getD t 0 = js[t] := by simp [ht']
      have e2 : vc.getD js[t] default = vc[js[t]]'(by omega) := by simp [show js[t] < vc.length by omega]
      have e3 : y.v.getD js[t] default = y.v[js[t]]'(by omega) := by simp [show js[t] < y.v.length by omega]
      simp only [List.getElem_map, e1, e2, e3]
      exact oval_stay L n _ _ _ _ _ _ (Stay.of_below hb (by have := chv (js[t] + 1) y.v.length (by omega) (Nat.le_refl _); omega)) (v5 js[t] (by omega) (by omega))
  · have h0 := row_fix (L := L) encV (by omega) encV_len (d := js.map fun j => kc.getD j default) (xs := js.map fun j => y.k.getD j default) (by simp) (by simp; omega) (by rw [show (js.map fun j => y.k.getD j default).length = js.length by simp]; exact ok) (fun w cs x => RVal L 0 w (RMsg L 0 w n) cs x) (fun t q => a ≤ q ∧ q < mid) (fun t h1 h2 => by
      have ht' : t < js.length := by simpa using h2
      have hj := jget t ht'
      have e2 : kc.getD js[t] default = kc[js[t]]'(by omega) := by simp [show js[t] < kc.length by omega]
      have e3 : y.k.getD js[t] default = y.k[js[t]]'(by omega) := by simp [show js[t] < y.k.length by omega]
      simp only [List.getElem_map, e2, e3]
      have c1 := chk 0 js[t] (Nat.zero_le _) (by omega)
      have c3 := chk (js[t] + 1) y.k.length (by omega) (Nat.le_refl _)
      exact ((oval_fix hL (k5 js[t] (by omega) (by omega))).keep fun q hq => hb.block q (by omega)).mono fun q hq => by omega)
    rw [show (js.map fun j => y.k.getD j default).length = js.length by simp] at h0
    rw [ek]
    refine h0.mono fun q hq => ?_
    rcases hq with rfl | ⟨t, -, hq⟩
    · exact .inl rfl
    · exact .inr hq
  · rcases hq with rfl | hq
    · exact ⟨.inr (by omega), by omega, by omega⟩
    · exact ⟨.inl hq, by omega, by omega⟩
end Go.Proofs.YthikfifoomfjgaaGreat
namespace Go.Proofs.YthikfifoomfjgaaGreat
open Go.RowKit Go.Tr Go.WideMaps Go.Maps Go.Proofs.YthikfifoomfjgaaGreat.PA Go.Proofs.YthikfifoomfjgaaGreatW.PrintWords Go.Proofs.YthikfifoomfjgaaGreatW.PrintLast Go.Proofs.YthikfifoomfjgaaGreatW.PrintMore
set_option maxRecDepth 100000
set_option linter.unusedVariables false
set_option linter.unusedSimpArgs false
def NormPost (S : Sch) (L n lo hi : Nat) (m : Int) (x : Msg) (w : World) (e : Ending) (w' : World) : Prop :=
  ∃ v, e = .returned (.agg #[v]) ∧ (∃ F : Nat → Prop, Fix F w' (fun w => RMsg L 0 w n [v] (norm S n m x)) ∧ ∀ q, F q → ((lo ≤ q ∧ q < hi) ∨ w.heap.size ≤ q) ∧ q < w'.heap.size) ∧ Keep (fun q => lo ≤ q ∧ q < hi) w w'
def NormC (S : Sch) (L n : Nat) : Prop := ∀ (w0 w : World) (lo hi : Nat) (m : Int) (cs : List Value) (x : Msg), S.At w0 → Below w0.heap.size w0 w → w0.heap.size ≤ lo → hi ≤ w.heap.size → OMsg L w n lo hi cs x → msgOk S n m x = true →
  Calls Tryz.prog 29 #[.agg S.cells, .int .i64 m, .agg cs.toArray] w fun e w' => NormPost S L n lo hi m x w e w'
/-- The slots of a message of one's own. -/
theorem src_rows {L n lo hi : Nat} {w : World} {c : Value} {xs : List Slot} (h : ORow 35 3 L lo hi w (OSlot L w (OMsg L w n)) c xs) : ∃ (g : Nat) (b : Nat → Nat) (a : Option Addr) (cap : Nat), c = .slice a xs.length cap ∧ lo ≤ b 0 ∧ (∀ t, t < xs.length → b t ≤ b (t + 1)) ∧ (xs ≠ [] → b xs.length ≤ hi ∧ g < b 0 ∧ a = some ⟨g, 0, none⟩) ∧
    ∀ k (h : k < xs.length), ∃ ak ck av cv, w.cell? ⟨g, k * 3, none⟩ = some (.int .i64 xs[k].no) ∧ w.cell? ⟨g, k * 3 + 1, none⟩ = some (.slice ak xs[k].k.length ck) ∧ w.cell? ⟨g, k * 3 + 2, none⟩ = some (.slice av xs[k].v.length cv) ∧ OSlot L w (OMsg L w n) (b k) (b (k + 1)) [.int .i64 xs[k].no, .slice ak xs[k].k.length ck, .slice av xs[k].v.length cv] xs[k] := by
  obtain ⟨hl, h⟩ := h
  rcases h with ⟨rfl, rfl⟩ | ⟨g, ys, b, rfl, ho, hg, hb, hp⟩
  · exact ⟨0, fun _ => lo, none, 0, rfl, Nat.le_refl _, by simp, fun h => absurd rfl h, fun k h => absurd h (by simp)⟩
  · refine ⟨g, b, _, _, rfl, by have := (ho.lt g rfl).1; omega, hp.1, fun _ => ⟨hb, hg, rfl⟩, fun k hk => ?_⟩
    obtain ⟨cs, -, h2, h3⟩ := hp.2 k hk hk
    have h3' := h3
    obtain ⟨c, d, mid, rfl, -, -, -, -, h4, h5⟩ := h3
    obtain ⟨ak, ck, rfl⟩ := h4.2.val
    obtain ⟨av, cv, rfl⟩ := h5.2.val
    have key : ∀ j u, ([.int .i64 xs[k].no, .slice ak xs[k].k.length ck, .slice av xs[k].v.length cv] : List Value)[j]? = some u → w.cell? ⟨g, k * 3 + j, none⟩ = some u := fun j u hu => by
      have hj : j < 3 := by have := (List.getElem?_eq_some_iff.1 hu).1; simpa using this
      rw [ho.cellAt _ (by omega)]
      exact h2 j u hu
    exact ⟨ak, ck, av, cv, key 0 _ rfl, key 1 _ rfl, key 2 _ rfl, h3'⟩
theorem VSt.keep {L n : Nat} {w w' : World} {a z s : Nat} {vs : List Val} {gv cap : Nat} {cs : List VC} {I J : Nat → Nat} (h : VSt L n w a z s vs gv cap cs I J) {p : Nat} (hk : Keep (fun q => q = p) w w') (h1 : z ≤ p) (h2 : p < s) (h3 : p < w.heap.size) : VSt L n w' a z s vs gv cap cs I J :=
  ⟨hk.own h.own fun q hq hh => by
    have e : q = gv := by simpa [Value.ownBlock] using hq.symm
    have := h.row; omega, h.len, h.row, h.iv, h.apart, fun t t1 t2 => oval_stay L n _ _ _ _ _ _ (hk.stay (by have := h.iv t t2; omega) fun q q1 q2 hh => by have := h.iv t t2; omega) (h.val t t1 t2)⟩
theorem YSt.keep {L n : Nat} {w w' : World} {a z s : Nat} {y : Slot} {kv vv : Value} (h : YSt L n w a z s y kv vv) {p : Nat} (hk : Keep (fun q => q = p) w w') (h1 : z ≤ p) (h2 : p < s) (h3 : p < w.heap.size) : YSt L n w' a z s y kv vv := by
  obtain ⟨mid, gv, cap, cs, I, J, FK, a1, a2, a3, a4, a5, a6, a7⟩ := h
  exact ⟨mid, gv, cap, cs, I, J, FK, a1, a2, a3, a4.keep hk h1 h2 h3, hk.fix a5 fun q hq => ⟨(a6 q hq).2.1, fun hh => by have := a6 q hq; omega⟩, fun q hq => ⟨(a6 q hq).1, by have := a6 q hq; have := hk.size; omega, (a6 q hq).2.2⟩, a7⟩
theorem VIn.old {L n : Nat} {wc wr : World} {a z s : Nat} {vs : List Val} {gv cap : Nat} {cs cs' : List VC} {I J : Nat → Nat} {rec : Val → Val} {i : Nat} (h : VSt L n wc a z s vs gv cap cs I J) (k : VIn L n wc vs gv cap cs I J rec i wr cs') (hi : i ≤ vs.length) {p : Nat} (h1 : z ≤ p) (h2 : p < s) (h3 : p < wc.heap.size) : wr.heap[p]? = wc.heap[p]? :=
  k.keep.block p h3 fun hh => by
    rcases hh with rfl | ⟨t, ht, hh⟩
    · have := h.row; omega
    · have := h.iv t (by omega); omega
theorem ent_mem {f : S47} {y : Slot} {v : Val} (h : v ∈ (entSlot f y).v) (hl : f.f5 ≠ -1 → y.k.length = y.v.length) : v ∈ y.v := by
  unfold entSlot at h
  split at h
  · exact h
  · rename_i h5
    obtain ⟨j, hj, rfl⟩ := List.mem_map.1 h
    have h1 := (ixOf_lasts (keysOf y.k)).lt hj
    have h2 : j < y.v.length := by rw [← hl h5]; simpa [keysOf] using h1
    simp [h2]
theorem slotOk_vals {mo : Int → Msg → Bool} {f : S47} {y : Slot} (h : slotOk mo f y = true) : (f.f5 ≠ -1 → y.k.length = y.v.length) ∧ ∀ v ∈ y.v, valOk mo f.f2 f.f3 v = true := by
  unfold slotOk at h
  split at h
  · rename_i h5
    simp only [Bool.and_eq_true] at h
    exact ⟨fun hh => absurd h5 hh, fun v hv => List.all_eq_true.1 h.2.2 v hv⟩
  · simp only [Bool.and_eq_true, decide_eq_true_eq] at h
    exact ⟨fun _ => h.1, fun v hv => List.all_eq_true.1 h.2.2 v hv⟩
theorem valOk_sub {mo : Int → Msg → Bool} {ref : Int} {v : Val} (h : valOk mo 9 ref v = true) : ∃ xm, v.m = [xm] ∧ mo ref xm = true := by
  unfold valOk at h
  rw [if_pos rfl] at h
  simp only [Bool.and_eq_true] at h
  obtain ⟨-, -, h⟩ := h
  cases hm : v.m with
  | nil => rw [hm] at h; cases h
  | cons x l =>
    cases l with
    | nil => rw [hm] at h; exact ⟨x, rfl, h⟩
    | cons => rw [hm] at h; cases h
/-- The one message of a value. -/
theorem oval_one {L n lo hi : Nat} {w : World} {x : VC} {v : Val} {xm : Msg} (h : OVal L w (OMsg L w n) lo hi (encV x) v) (hm : v.m = [xm]) : ∃ gm c bl bu, x.2.2 = (some ⟨gm, 0, none⟩, 1, 1) ∧ w.cell? ⟨gm, 0, none⟩ = some c ∧ lo ≤ gm ∧ gm < bl ∧ bl ≤ bu ∧ bu ≤ hi ∧ OMsg L w n bl bu [c] xm := by
  obtain ⟨c, e, -, -, -, h4⟩ := h
  rw [hm] at h4
  rcases h4.2 with ⟨h, -⟩ | ⟨g, ys, b, e2, ho, hg, hb, hp⟩
  · cases h
  · subst e2
    obtain ⟨cs, h1, h2, h3⟩ := hp.2 0 (by simp) (by simp)
    have c01 := hp.1 0 (by simp)
    obtain ⟨c, rfl, -⟩ := omsg_one L n _ _ w cs _ h3
    have hc := h2 0 c rfl
    refine ⟨g, c, b 0, b 1, ?_, ?_, (ho.lt g rfl).1, hg, c01, hb, h3⟩
    · simp only [encV] at e
      injection e with _ e
      injection e with _ e
      injection e with e _
      injection e with e1 e2 e3
      exact Prod.ext e1 (Prod.ext e2 e3)
    · rw [ho.cellAt 0 (by simp)]; exact hc
theorem keepN6 {w w' : World} {b0 b1 b2 b3 b4 : Nat} {u0 u1 u2 u3 u4 u5 : Value} (hb : w'.heap[b0]? = w.heap[b0]? ∧ w'.heap[b1]? = w.heap[b1]? ∧ w'.heap[b2]? = w.heap[b2]? ∧ w'.heap[b3]? = w.heap[b3]? ∧ w'.heap[b4]? = w.heap[b4]?)
    (h : w.cell? ⟨b0, 2, none⟩ = some u0 ∧ w.cell? ⟨b1, 0, none⟩ = some u1 ∧ w.cell? ⟨b1, 1, none⟩ = some u2 ∧ w.cell? ⟨b2, 3, none⟩ = some u3 ∧ w.cell? ⟨b3, 2, none⟩ = some u4 ∧ w.cell? ⟨b4, 0, none⟩ = some u5) :
    w'.cell? ⟨b0, 2, none⟩ = some u0 ∧ w'.cell? ⟨b1, 0, none⟩ = some u1 ∧ w'.cell? ⟨b1, 1, none⟩ = some u2 ∧ w'.cell? ⟨b2, 3, none⟩ = some u3 ∧ w'.cell? ⟨b3, 2, none⟩ = some u4 ∧ w'.cell? ⟨b4, 0, none⟩ = some u5 := by
  obtain ⟨e0, e1, e2, e3, e4⟩ := hb
  obtain ⟨h0, h1, h2, h3, h4, h5⟩ := h
  exact ⟨(cell_of_same e0).trans h0, (cell_of_same e1).trans h1, (cell_of_same e1).trans h2, (cell_of_same e2).trans h3, (cell_of_same e3).trans h4, (cell_of_same e4).trans h5⟩
/-! the end: the slots sorted -/
def All2 {α β : Type} (R : α → β → Prop) : List α → List β → Prop
  | [], [] => True
  | a :: l, b :: m => R a b ∧ All2 R l m
  | _, _ => False
theorem All2.of_get {α β : Type} {R : α → β → Prop} : ∀ {l : List α} {m : List β}, l.length = m.length → (∀ t (h1 : t < l.length) (h2 : t < m.length), R l[t] m[t]) → All2 R l m
  | [], [], _, _ => trivial
  | [], _ :: _, h, _ => by simp at h
  | _ :: _, [], h, _ => by simp at h
  | a :: l, b :: m, h, k => ⟨k 0 (by simp) (by simp), All2.of_get (by simpa using h) fun t h1 h2 => k (t + 1) (by simpa using h1) (by simpa using h2)⟩
theorem All2.get {α β : Type} {R : α → β → Prop} : ∀ {l : List α} {m : List β}, All2 R l m → l.length = m.length ∧ ∀ t (h1 : t < l.length) (h2 : t < m.length), R l[t] m[t]
  | [], [], _ => ⟨rfl, fun t h => absurd h (by simp)⟩
  | [], _ :: _, h => h.elim
  | _ :: _, [], h => h.elim
  | a :: l, b :: m, h => by
    obtain ⟨k1, k2⟩ := h.2.get
    refine ⟨by simp [k1], fun t h1 h2 => ?_⟩
    cases t with
    | zero => exact h.1
    | succ t => exact k2 t (by simpa using h1) (by simpa using h2)
theorem All2.perm {α β : Type} {R : α → β → Prop} {l l' : List α} (hp : l.Perm l') : ∀ {m : List β}, All2 R l m → ∃ m', m'.Perm m ∧ All2 R l' m' := by
  induction hp with
  | nil => intro m h; exact ⟨m, List.Perm.refl _, h⟩
  | cons a _ ih =>
    intro m h
    match m, h with
    | b :: m, h =>
      obtain ⟨m', h1, h2⟩ := ih h.2
      exact ⟨b :: m', h1.cons b, h.1, h2⟩
  | swap a b l =>
    intro m h
    match m, h with
    | c :: d :: m, h => exact ⟨d :: c :: m, List.Perm.swap _ _ _, h.2.1, h.1, h.2.2⟩
  | trans _ _ ih1 ih2 =>
    intro m h
    obtain ⟨m1, p1, h1⟩ := ih1 h
    obtain ⟨m2, p2, h2⟩ := ih2 h1
    exact ⟨m2, p2.trans p1, h2⟩
theorem encS_len (x : SC) : (encS x).length = 3 := rfl
theorem normSlots_len (S : Sch) (rec : Int → Msg → Msg) (m : Int) : ∀ l : List Slot, (l.flatMap (normSlot S rec m)).length ≤ l.length
  | [] => by simp
  | y :: l => by
    rw [List.flatMap_cons, List.length_append, List.length_cons]
    have := normSlots_len S rec m l
    have h1 : (normSlot S rec m y).length ≤ 1 := by
      unfold normSlot
      split
      · simp
      · split <;> simp
    omega
/-- The row of slots, sorted, as it reads. -/
theorem NIn.done {L n B : Nat} {w wr w9 : World} {b : Nat → Nat} {zs : List Slot} {k : Nat} {vo : Value} {d d' : List SC} {g cap : Nat} (h : NIn L n B w b zs k wr vo d) (hvo : vo.ownBlock = some g) (hp : d'.Perm d) (hs : d'.Pairwise fun x y => x.1 ≤ y.1) (ho : w9.ownsRow B 35 3 (.slice (some ⟨g, 0, none⟩) d.length cap) d.length (d'.flatMap encS))
    (hk : Keep (fun q => q = g) wr w9) (hnd : (zs.map fun y => y.no).Nodup) (hzL : zs.length ≤ L) : ∃ F : Nat → Prop, Fix F w9 (fun w => RMsg L 0 w (n + 1) [.slice (some ⟨g, 0, none⟩) d.length cap] (.mk (sortNo zs))) ∧ ∀ q, F q → ((b 0 ≤ q ∧ q < b k) ∨ B ≤ q) ∧ q < w9.heap.size := by
  have hg := ho.lt g rfl
  have hA : All2 (fun (c : SC) (z : Slot) => c.1 = z.no ∧ ∃ F : Nat → Prop, Fix F w9 (fun w => RSlot L 0 w (RMsg L 0 w n) (encS c) z) ∧ ∀ q, F q → ((b 0 ≤ q ∧ q < b k) ∨ B ≤ q) ∧ q < w9.heap.size) d zs := All2.of_get h.len fun t h1 h2 => by
    obtain ⟨F, f1, f2⟩ := h.new t h1 h2
    refine ⟨?_, F, hk.fix f1 fun q hq => ⟨(f2 q hq).1, fun hh => (f2 q hq).2.2 (by rw [hvo, hh])⟩, fun q hq => ⟨(f2 q hq).2.1, by have := f2 q hq; have := hk.size; omega⟩⟩
    obtain ⟨c, e, hh, -⟩ := f1.here
    simp only [encS] at hh
    injection hh with h1 _
    injection h1
  obtain ⟨zs', p1, hA'⟩ := hA.perm hp.symm
  obtain ⟨l1, l2⟩ := hA'.get
  have hdl : d'.length = d.length := hp.length_eq
  have hzs : zs' = sortNo zs := sortNo_eq p1 (List.pairwise_iff_getElem.2 fun i j hi hj hij => by
    have := List.pairwise_iff_getElem.1 hs i j (by omega) (by omega) hij
    have e1 := (l2 i (by omega) hi).1
    have e2 := (l2 j (by omega) hj).1
    omega) hnd
  have hch : ∀ t, ∃ F : Nat → Prop, ∀ (h1 : t < d'.length) (h2 : t < zs'.length), Fix F w9 (fun w => RSlot L 0 w (RMsg L 0 w n) (encS d'[t]) zs'[t]) ∧ ∀ q, F q → ((b 0 ≤ q ∧ q < b k) ∨ B ≤ q) ∧ q < w9.heap.size := fun t => by
    by_cases ht : t < d'.length
    · obtain ⟨-, F, hF⟩ := l2 t ht (by omega)
      exact ⟨F, fun _ _ => hF⟩
    · exact ⟨fun _ => False, fun h _ => absurd h ht⟩
  obtain ⟨f, hf⟩ := Classical.axiomOfChoice hch
  have hl9 : zs'.length = d.length := by omega
  have h0 := row_fix (L := L) encS (by omega) encS_len (d := d') (xs := zs') l1 (by rw [p1.length_eq]; exact hzL) (by rw [hl9]; exact ho) (fun w cs x => RSlot L 0 w (RMsg L 0 w n) cs x) f fun t h1 h2 => (hf t h1 h2).1
  rw [hl9, hzs] at h0
  refine ⟨_, msg_fix h0, fun q hq => ?_⟩
  rcases hq with rfl | ⟨t, ht, hq⟩
  · exact ⟨.inr hg.1, hg.2⟩
  · exact (hf t ht (by omega)).2 q hq
theorem At3.set3 {w : World} {b t : Nat} {c0 c1 c2 d0 d1 d2 : Value} (h : At3 w b t c0 c1 c2) : At3 (((w.setCell ⟨b, 0, none⟩ d0).setCell ⟨b, 1, none⟩ d1).setCell ⟨b, 2, none⟩ d2) b t d0 d1 d2 := by
  have h0 : At3 (w.setCell ⟨b, 0, none⟩ d0) b t d0 c1 c2 := by have := heap_setCell_same w b 0 _ _ d0 h; simpa [At3] using this
  have h1 : At3 ((w.setCell ⟨b, 0, none⟩ d0).setCell ⟨b, 1, none⟩ d1) b t d0 d1 c2 := by have := heap_setCell_same (w.setCell ⟨b, 0, none⟩ d0) b 1 _ _ d1 h0; simpa [At3] using this
  have h2 := heap_setCell_same ((w.setCell ⟨b, 0, none⟩ d0).setCell ⟨b, 1, none⟩ d1) b 2 _ _ d2 h1
  simpa [At3] using h2
theorem keep_set3 (w : World) (b o0 o1 o2 : Nat) (d0 d1 d2 : Value) : Keep (fun q => q = b) w (((w.setCell ⟨b, o0, none⟩ d0).setCell ⟨b, o1, none⟩ d1).setCell ⟨b, o2, none⟩ d2) :=
  ((Keep.of_set (fun q => q = b) w ⟨b, o0, none⟩ d0 rfl).trans (Keep.of_set (fun q => q = b) _ ⟨b, o1, none⟩ d1 rfl) (H := fun q => q = b) (fun _ h => h) fun _ _ h => h).trans (Keep.of_set (fun q => q = b) _ ⟨b, o2, none⟩ d2 rfl) (fun _ h => h) fun _ _ h => h
theorem YSt.slice {L n : Nat} {w : World} {a z s : Nat} {y : Slot} {kv vv : Value} (h : YSt L n w a z s y kv vv) : ∃ A n c, vv = .slice A n c := by
  obtain ⟨mid, gv, cap, cs, I, J, FK, -, -, h, -⟩ := h
  exact ⟨_, _, _, h⟩
theorem rmsg_slice {L B n : Nat} {w : World} {v : Value} {m : Msg} (h : RMsg L B w n [v] m) : ∃ A k c, v = .slice A k c := by
  cases n with
  | zero => exact h.elim
  | succ n =>
    obtain ⟨c, e, h⟩ := h
    injection e with e _
    subst e
    obtain ⟨a, cap, rfl, -⟩ := h
    exact ⟨_, _, _, rfl⟩
theorem cell_alloc {w : World} {p : Addr} {v : Value} (h : w.cell? p = some v) (o : Obj) : (w.alloc o).cell? p = some v := (World.cell?_alloc_some w p o (by rw [h]; rfl)).trans h
theorem cell_set_ne {w : World} {p q : Addr} {v : Value} (h : w.cell? p = some v) (hne : q.block ≠ p.block) (u : Value) : (w.setCell q u).cell? p = some v := (World.cell?_setCell_far w q p u hne).trans h
theorem keepN6a {w : World} {b0 b1 b2 b3 b4 : Nat} {u0 u1 u2 u3 u4 u5 : Value} (o : Obj)
    (h : w.cell? ⟨b0, 2, none⟩ = some u0 ∧ w.cell? ⟨b1, 0, none⟩ = some u1 ∧ w.cell? ⟨b1, 1, none⟩ = some u2 ∧ w.cell? ⟨b2, 3, none⟩ = some u3 ∧ w.cell? ⟨b3, 2, none⟩ = some u4 ∧ w.cell? ⟨b4, 0, none⟩ = some u5) :
    (w.alloc o).cell? ⟨b0, 2, none⟩ = some u0 ∧ (w.alloc o).cell? ⟨b1, 0, none⟩ = some u1 ∧ (w.alloc o).cell? ⟨b1, 1, none⟩ = some u2 ∧ (w.alloc o).cell? ⟨b2, 3, none⟩ = some u3 ∧ (w.alloc o).cell? ⟨b3, 2, none⟩ = some u4 ∧ (w.alloc o).cell? ⟨b4, 0, none⟩ = some u5 :=
  ⟨cell_alloc h.1 o, cell_alloc h.2.1 o, cell_alloc h.2.2.1 o, cell_alloc h.2.2.2.1 o, cell_alloc h.2.2.2.2.1 o, cell_alloc h.2.2.2.2.2 o⟩
theorem keepN6s {w : World} {gv o b0 b1 b2 b3 b4 : Nat} {u u0 u1 u2 u3 u4 u5 : Value} (ne : gv ≠ b0 ∧ gv ≠ b1 ∧ gv ≠ b2 ∧ gv ≠ b3 ∧ gv ≠ b4)
    (h : w.cell? ⟨b0, 2, none⟩ = some u0 ∧ w.cell? ⟨b1, 0, none⟩ = some u1 ∧ w.cell? ⟨b1, 1, none⟩ = some u2 ∧ w.cell? ⟨b2, 3, none⟩ = some u3 ∧ w.cell? ⟨b3, 2, none⟩ = some u4 ∧ w.cell? ⟨b4, 0, none⟩ = some u5) :
    (w.setCell ⟨gv, o, none⟩ u).cell? ⟨b0, 2, none⟩ = some u0 ∧ (w.setCell ⟨gv, o, none⟩ u).cell? ⟨b1, 0, none⟩ = some u1 ∧ (w.setCell ⟨gv, o, none⟩ u).cell? ⟨b1, 1, none⟩ = some u2 ∧ (w.setCell ⟨gv, o, none⟩ u).cell? ⟨b2, 3, none⟩ = some u3 ∧ (w.setCell ⟨gv, o, none⟩ u).cell? ⟨b3, 2, none⟩ = some u4 ∧ (w.setCell ⟨gv, o, none⟩ u).cell? ⟨b4, 0, none⟩ = some u5 :=
  ⟨cell_set_ne h.1 ne.1 u, cell_set_ne h.2.1 ne.2.1 u, cell_set_ne h.2.2.1 ne.2.1 u, cell_set_ne h.2.2.2.1 ne.2.2.1 u, cell_set_ne h.2.2.2.2.1 ne.2.2.2.1 u, cell_set_ne h.2.2.2.2.2 ne.2.2.2.2 u⟩
/-- Where an element of a row of one's own is stored. -/
theorem own_there {w : World} {B g cap n : Nat} {cs : List VC} (h : w.ownsRow B 39 3 (.slice (some ⟨g, 0, none⟩) n cap) n (cs.flatMap encV)) {i : Nat} (hi : i < cs.length) : ∃ a b c, w.cell? ⟨g, i * 3, none⟩ = some a ∧ w.cell? ⟨g, i * 3 + 1, none⟩ = some b ∧ w.cell? ⟨g, i * 3 + 2, none⟩ = some c ∧ (∀ o, w.frozen? ⟨g, o, none⟩ = false) ∧ g < w.heap.size := by
  obtain ⟨h0, h1, h2⟩ := vrow_owned h i hi
  exact ⟨_, _, _, h0, h1, h2, fun o => h.frozenAt o, (h.lt g rfl).2⟩
theorem set_alloc (w : World) (o : Obj) (p : Addr) (u : Value) (h : p.block < w.heap.size) : (w.alloc o).setCell p u = (w.setCell p u).alloc o := by
  unfold World.setCell World.alloc
  congr 1
  show (w.heap.push o).modify p.block _ = (w.heap.modify p.block _).push o
  apply Array.ext_getElem?
  intro i
  simp only [Array.getElem?_modify, Array.getElem?_push, Array.size_modify]
  by_cases e : i = w.heap.size
  · subst e
    rw [if_neg (by omega), if_pos rfl, if_pos rfl]
  · rw [if_neg e, if_neg e]
end Go.Proofs.YthikfifoomfjgaaGreat
namespace Go.Proofs.YthikfifoomfjgaaGreat
open Go.RowKit Go.Tr Go.WideMaps Go.Maps Go.Proofs.YthikfifoomfjgaaGreat.PA Go.Proofs.YthikfifoomfjgaaGreatW.PrintWords Go.Proofs.YthikfifoomfjgaaGreatW.PrintLast Go.Proofs.YthikfifoomfjgaaGreatW.PrintMore
set_option maxRecDepth 100000
set_option linter.unusedVariables false
set_option linter.unusedSimpArgs false
section
attribute [local go_sem] run_store
set_option maxHeartbeats 8000000 in
theorem norm_step (S : Sch) (hF : S.Ok) (n L : Nat) (hL : L ≤ 1048576) (hL1 : 1 ≤ L) (ih : NormC S L n) : NormC S L (n + 1) := by
  intro w0 w lo hi m cs x hS hb0 h0lo hhi hx hok
  obtain ⟨c, rfl, h4⟩ := hx
  have hxl := h4.1
  have hLm : L ≤ maxLen := by unfold maxLen; omega
  have hrun : runOk S (msgOk S n) m x.f [] [] = true := by rw [msgOk, Bool.and_eq_true] at hok; exact hok.1
  obtain ⟨hnd, hall⟩ := runOk_all S (msgOk S n) m x.f [] [] hrun
  obtain ⟨g, b, a1, cap1, rfl, hlb, hch, hne, hsrc⟩ := src_rows h4
  have HS := Lib.hid hsrc
  have HCH := Lib.hid (fun t u h1 h2 => chain_le (b := b) (i := x.f.length) hch t u h1 h2)
  have HND := Lib.hid hnd
  have HALL := Lib.hid fun y hy => (hall y hy).2
  have HNE := Lib.hid hne
  have HBY := Lib.hid (fun w' (hb : Below w0.heap.size w0 w') no => S.by_ w' (hS.below hb) m no)
  have HIH := Lib.hid ih
  have HSA := Lib.hid hS
  have HB0 := Lib.hid hb0
  have hw0 := hb0.size
  clear h4 hrun hnd hall hsrc hch hne ih hS hb0 hok
  unfold Sch.cells at *
  go_enter Tryz.func29, Tryz.ntmps29
  go_wp2_with fail
  obtain ⟨g0, g1, g2, g3⟩ := four10 w (.cells #[.slice S.A0 S.M.length S.c0, .slice S.A1 S.E.length S.c1] 62) (.cells #[.slice a1 x.f.length cap1] 28) (.cells #[.slice none 0 0] 28) (.cells #[.slice none 0 0] 28)
  have G0 := Lib.hid g0
  have G2 := Lib.hid g2
  have G3 := Lib.hid g3
  have HB1 := (((al2 w (.cells #[.slice S.A0 S.M.length S.c0, .slice S.A1 S.E.length S.c1] 62) (.cells #[.slice a1 x.f.length cap1] 28)).nx (al1 _ (.cells #[.slice none 0 0] 28))).nx (al1 _ (.cells #[.slice none 0 0] 28)))
  clear g0 g1 g2 g3
  generalize (((w.alloc (.cells #[.slice S.A0 S.M.length S.c0, .slice S.A1 S.E.length S.c1] 62)).alloc (.cells #[.slice a1 x.f.length cap1] 28)).alloc (.cells #[.slice none 0 0] 28)).alloc (.cells #[.slice none 0 0] 28) = w1 at *
  have N0 := Lib.hid (NIn.start L n (w.heap.size + 1 + 1 + 1 + 1) w w1 b HB1)
  clear HB1
  go_loopw [17] (fun iv wr => ∃ (k : Nat) (vo : Value) (d : List SC), k ≤ x.f.length ∧ iv = .int .i64 k ∧ Hid (NIn L n (w.heap.size + 1 + 1 + 1 + 1) w b ((x.f.take k).flatMap (normSlot S (norm S n) m)) k wr vo d) ∧ Hid (wr.heap[w.heap.size]? = some (.cells #[.slice S.A0 S.M.length S.c0, .slice S.A1 S.E.length S.c1] 62 (0, 0))) ∧ Hid (wr.heap[w.heap.size + 1 + 1]? = some (.cells #[.slice none 0 0] 28 (0, 0))) ∧ Hid (wr.heap[w.heap.size + 1 + 1 + 1]? = some (.cells #[vo] 28 (0, 0)))) (fun iv _ => x.f.length - (intOf iv).toNat)
  case atStart => exact ⟨0, _, _, by omega, rfl, N0, G0, G2, G3⟩
  case round =>
    clear N0 G0 G2 G3
    obtain ⟨k, vo, d, hk, rfl, NI, G0, G2, G3⟩ := hrel
    obtain ⟨wA, rfl⟩ : ∃ wA, wA = wr := ⟨_, rfl⟩
    have z3 := lt_blk10 G3.out
    by_cases hlt : k < x.f.length
    · obtain ⟨ak, ck, av, cv, p0, p1, p2, po⟩ := HS.out k hlt
      have hxne : x.f ≠ [] := fun e => by rw [e] at hlt; simp at hlt
      obtain ⟨hbhi, hgb, rfl⟩ := HNE.out hxne
      have c0k := HCH.out 0 k (Nat.zero_le _) (by omega)
      have ck1 := HCH.out k (k + 1) (by omega) (by omega)
      have ckl := HCH.out (k + 1) x.f.length (by omega) (Nat.le_refl _)
      have hgs : wA.heap[g]? = w.heap[g]? := NI.out.keep.block g (by omega) (by omega)
      have m0 := (cell_of_same (o := k * 3) hgs).trans p0
      have m1 := (cell_of_same (o := k * 3 + 1) hgs).trans p1
      have m2 := (cell_of_same (o := k * 3 + 2) hgs).trans p2
      have PO := Lib.hid (oslot_stay L n _ _ _ _ _ _ (NI.out.keep.stay (lo := b k) (hi := b (k + 1)) (by omega) fun q h1 h2 h3 => by omega) po)
      have bl := block_lt_of_cell m0
      have hBA : Below w0.heap.size w0 wA := NI.out.keep.below HB0.out hw0 fun q h1 h2 => by omega
      have HT := Lib.hid (show (x.f.take (k + 1)).flatMap (normSlot S (norm S n) m) = (x.f.take k).flatMap (normSlot S (norm S n) m) ++ normSlot S (norm S n) m x.f[k] by rw [List.take_succ_eq_append_getElem hlt, List.flatMap_append]; simp)
      obtain ⟨f, hfl, hslot⟩ := HALL.out _ (List.getElem_mem hlt)
      clear p0 p1 p2 po hgs
      generalize x.f[k] = y at *
      have RX := Lib.hid (OSlot.reads PO.out hLm (Nat.zero_le _) fun l u cs x _ _ h => OMsg.reads hLm n (Nat.zero_le _) h)
      have e0 : wA.cell? ⟨w.heap.size, 0, none⟩ = some (.slice S.A0 S.M.length S.c0) := cell_of_row wA w.heap.size 0 _ _ (0, 0) G0.out
      have e1 : wA.cell? ⟨w.heap.size, 1, none⟩ = some (.slice S.A1 S.E.length S.c1) := cell_of_row wA w.heap.size 1 _ _ (0, 0) G0.out
      have le := lt_blk10 G0.out
      have HBA := Lib.hid hBA
      have A9 := Lib.hid (al1 wA (.cells #[.int .i64 y.no, .slice ak y.k.length ck, .slice av y.v.length cv] 35))
      have hc := HBY.out _ (hBA.nx A9.out) y.no
      rw [hfl] at hc
      have HC := Lib.hid hc
      have HFL := Lib.hid hfl
      have PON := Lib.hid (show -9223372036854775808 ≤ y.no ∧ y.no ≤ 9223372036854775807 from by obtain ⟨_, _, _, _, h1, h2, -⟩ := PO.out; exact ⟨h1, h2⟩)
      have HSL := Lib.hid hslot
      clear hc hfl hBA hslot
      go_wp2_with fail
      refine HC.out.mono ?_; rintro e wB ⟨⟨r, hr, rfl⟩, bB⟩
      have hr' : r = (f.f0, f.f1, f.f2, f.f3, f.f4, f.f5, f.f6, true) := hr
      subst hr'
      dsimp only
      have P9 := Lib.hid ((At3.new wA 35 (.int .i64 y.no) (.slice ak y.k.length ck) (.slice av y.v.length cv)).below bB)
      have AC := Lib.hid (al1 wB (.cells #[.int .i64 f.f0, .string f.f1, .int .i64 f.f2, .int .i64 f.f3, .bool f.f4, .int .i64 f.f5, .int .i64 f.f6] 47))
      have HBB := Lib.hid (A9.out.nx bB)
      have HAB := Lib.hid (ty_absent L n _ f _ y ((RX.out.below HBB.out).below AC.out))
      obtain ⟨p0, p1, p2, p3⟩ := P9.out.cells
      have l9 := P9.out.lt
      clear hr bB e0 e1 le m0 m1 m2 bl
      cases hg : gone f y with
      | true =>
        rw [hg] at HAB
        have HN := Lib.hid (show normSlot S (norm S n) m y = [] by unfold normSlot; rw [HFL.out]; simp [hg])
        clear hg
        go_wp2_with (first
          | (with_reducible refine wpList_store_new rfl (.tmp 10) (.tmp 28) rfl rfl rfl (by kernel_rfl) (by simp) (by simp [Value.oneCell']) ?_)
          | (go_at_call 55; (with_reducible refine HAB.out.mono ?_); rintro e wD ⟨rfl, bD⟩))
        have BD := HBB.out.nx (AC.out.nx bD)
        refine ⟨⟨k + 1, vo, d, by omega, rfl, Lib.hid (by rw [HT.out, HN.out, List.append_nil]; exact NI.out.pass c0k ck1 (by omega) (by omega) (.of_below BD)), Lib.hid ((BD.block _ (lt_blk10 G0.out)).trans G0.out), Lib.hid ((BD.block _ (lt_blk10 G2.out)).trans G2.out), Lib.hid ((BD.block _ (lt_blk10 G3.out)).trans G3.out)⟩, ?_⟩
        simp only [intOf, Int.toNat_natCast]
        omega
      | false =>
        rw [hg] at HAB
        have HG := Lib.hid hg
        clear hg
        have hyv : y.v ≠ [] := fun e => by have h := HG.out; unfold gone at h; rw [e] at h; cases h
        obtain ⟨hsl, hsv⟩ := slotOk_vals HSL.out
        have HSV := Lib.hid hsv
        have HSL2 := Lib.hid hsl
        clear hsl hsv
        go_upto_if 35 with (first
          | (with_reducible refine wpList_store_new rfl (.tmp 10) (.tmp 28) rfl rfl rfl (by kernel_rfl) (by simp) (by simp [Value.oneCell']) ?_)
          | (go_at_call 55; (with_reducible refine HAB.out.mono ?_); rintro e wD ⟨rfl, bD⟩; (have FB := Lib.hid ((bD.block wB.heap.size (by simp)).trans (heap_alloc_new wB (.cells #[.int .i64 f.f0, .string f.f1, .int .i64 f.f2, .int .i64 f.f3, .bool f.f4, .int .i64 f.f5, .int .i64 f.f6] 47)))); (have q5 := cell_of_row wD wB.heap.size 5 _ _ (0, 0) FB.out); (have l10 := lt_blk10 FB.out); (have BD := Lib.hid (HBB.out.nx (AC.out.nx bD))); (have Y9 := Lib.hid (P9.out.below (AC.out.nx bD))); clear bD))
        have bAD := BD.out.size
        have POD := Lib.hid (oslot_stay L n _ _ _ _ _ _ (Stay.of_below BD.out (by omega)) PO.out)
        have HBD := Lib.hid (HBA.out.nx BD.out)
        have lyD := Y9.out.lt
        have lBD : wA.heap.size < wB.heap.size := l9
        clear p0 p1 p2 p3 l9
        simp only [List.getElem?_toArray] at q5
        go_cut [] (fun wc => ∃ (kv vv : Value), (∃ A nk ck, kv = .slice A nk ck) ∧ Hid (At3 wc wA.heap.size 35 (.int .i64 y.no) kv vv) ∧ Hid (YSt L n wc (b k) (b (k + 1)) wD.heap.size (entSlot f y) kv vv) ∧ Hid (Below wA.heap.size wA wc) ∧ Hid (wc.heap[wB.heap.size]? = some (.cells #[.int .i64 f.f0, .string f.f1, .int .i64 f.f2, .int .i64 f.f3, .bool f.f4, .int .i64 f.f5, .int .i64 f.f6] 47 (0, 0))) ∧ wD.heap.size ≤ wc.heap.size)
        case first =>
          by_cases h5 : f.f5 = -1
          · have d5 : ((f.f5 : Int) != -1) = false := by simpa using h5
            have HY := Lib.hid (show YSt L n wD (b k) (b (k + 1)) wD.heap.size (entSlot f y) (.slice ak y.k.length ck) (.slice av y.v.length cv) from by
              unfold entSlot; rw [if_pos h5]; exact YSt.plain hLm POD.out (by omega) (Nat.le_refl _) hyv)
            go_wp2_with fail
            go_meet
            exact ⟨_, _, ⟨_, _, _, rfl⟩, Y9, HY, BD, FB, Nat.le_refl _⟩
          · have d5 : ((f.f5 : Int) != -1) = true := by simpa using h5
            have hkv := HSL2.out h5
            have hyk : y.k ≠ [] := fun e => hyv (List.eq_nil_of_length_eq_zero (by rw [← hkv, e]; rfl))
            obtain ⟨mid, gk, gv, kc, vc, bk, bv, i1, i2, ekv, evv, rk, rv, lk, lv, hkeys, hfit, i3, i4, i5, i6, i7, i8, i9, i10, lL, lvL, -⟩ := oslot_rows POD.out hyk hyv
            injection ekv with e1 e2 e3
            injection evv with e4 e5 e6
            subst e1 e3 e4 e6
            have hk0 : 0 < kc.length := by rw [lk]; exact List.length_pos_iff.2 hyk
            have HENT := Lib.hid (show Calls Tryz.prog 56 #[.agg #[.int .i64 y.no, .slice (some ⟨gk, 0, none⟩) y.k.length y.k.length, .slice (some ⟨gv, 0, none⟩) y.v.length y.v.length]] wD fun e w' => EntPost wD y.no kc vc e w' from by
              have h := typed_entries y.no gk gv y.k.length y.k.length kc vc hk0 (by omega) (by omega) hfit wD rk rv
              rw [lk] at h
              rw [← hkv]
              exact h)
            have HYE := Lib.hid (show ∀ e w5, EntPost wD y.no kc vc e w5 → ∃ k1 k2 : Value, e = .returned (.agg #[.int .i64 y.no, k1, k2]) ∧ (∃ A c, k1 = .slice A (entOf y).k.length c) ∧ YSt L n w5 (b k) (b (k + 1)) wD.heap.size (entOf y) k1 k2 ∧ Below wD.heap.size wD w5 from fun e w5 hp =>
              YSt.ent (gk := gk) (gv := gv) (kv := .slice (some ⟨gk, 0, none⟩) y.k.length y.k.length) (vv := .slice (some ⟨gv, 0, none⟩) y.v.length y.v.length) hLm i1 i2 lk lv hkv hkeys i3 i4 i5 i6 i7 i8 i9 i10 lL (by omega) (Nat.le_refl _) hp)
            clear rk rv lk lv hkeys hfit i1 i2 i3 i4 i5 i6 i7 i8 i9 i10 hkv
            obtain ⟨p0, p1, p2, -⟩ := Y9.out.cells
            go_wp2_with (go_at_call 56; (with_reducible refine HENT.out.mono ?_); rintro e w5 hp; (obtain ⟨k1v, k2v, rfl, ⟨A5, c5, rfl⟩, hy5, b5⟩ := HYE.out e w5 hp); (obtain ⟨B5, n5, d5, rfl⟩ := hy5.slice); (have HY5 := Lib.hid hy5); (have Y5 := Lib.hid (Y9.out.below b5)); (have FB5 := Lib.hid ((b5.block _ (lt_blk10 FB.out)).trans FB.out)); (obtain ⟨r0, r1, r2, r3⟩ := Y5.out.cells); (have rf0 := r3 0); (have rf1 := r3 1); (have rf2 := r3 2); (have rl := Y5.out.lt); (have B5h := Lib.hid b5); clear hp hy5 b5 r3)
            go_meet
            have k9 := keep_set3 w5 wA.heap.size 0 1 2 (.int .i64 y.no) (.slice A5 (entOf y).k.length c5) (.slice B5 n5 d5)
            exact ⟨_, _, ⟨_, _, _, rfl⟩, Y5.out.set3, Lib.hid (by unfold entSlot; rw [if_neg h5]; exact HY5.out.keep k9 (by omega) lyD rl), ((((BD.out.nx B5h.out).setCell (by simp) _).setCell (by simp) _).setCell (by simp) _), Lib.hid ((k9.block _ (lt_blk10 FB5.out) (by omega)).trans FB5.out), by have := B5h.out.size; simp [World.setCell]; exact this⟩
        case rest =>
          obtain ⟨kv, vv, ⟨Ak, nk, ck2, rfl⟩, Y9c, YS, BC, FBc, hwc⟩ := hcut
          obtain ⟨mid, gv, cap, cs, I, J, FK, a1', a2', rfl, VS0, FK1, FK2, hvL⟩ := YS.out
          have VS := Lib.hid VS0
          have FKH := Lib.hid FK1
          have FKQ := Lib.hid FK2
          have bAC := BC.out.size
          have hvl := HSL2.out
          have HVV := Lib.hid (fun v hv => HSV.out v (ent_mem (f := f) hv hvl))
          have hgl := VS0.lt
          obtain ⟨p0, p1, p2, p3⟩ := Y9c.out.cells
          have ly := Y9c.out.lt
          clear YS VS0 FK1 FK2 hvl FB Y9 q5 PO POD RX P9
          go_wp2_with fail
          have N0 := Lib.hid (VIn.start (rec := newV (norm S n) f) VS.out)
          clear p0 p1 p2 p3
          go_loopw [41] (fun iv wr => ∃ (i : Nat) (cs' : List VC), i ≤ (entSlot f y).v.length ∧ iv = .int .i64 i ∧ Hid (VIn L n wc (entSlot f y).v gv cap cs I J (newV (norm S n) f) i wr cs')) (fun iv _ => (entSlot f y).v.length - (intOf iv).toNat)
          case atStart => exact ⟨0, _, by omega, rfl, N0⟩
          case round =>
            clear N0
            obtain ⟨i, cs', hi, rfl, VI⟩ := hrel
            obtain ⟨wR, rfl⟩ : ∃ wR, wR = wr := ⟨_, rfl⟩
            have zR := VI.out.keep.size
            have YB := Lib.hid ((VI.out.old VS.out hi (p := wA.heap.size) (by omega) (by omega) ly).trans Y9c.out)
            have FR := Lib.hid ((VI.out.old VS.out hi (p := wB.heap.size) (by omega) (by omega) (lt_blk10 FBc.out)).trans FBc.out)
            have CR := Lib.hid ((VI.out.old VS.out hi (p := w.heap.size) (by omega) (by omega) (by omega)).trans ((BC.out.block _ (lt_blk10 G0.out)).trans G0.out))
            by_cases hlt2 : i < (entSlot f y).v.length
            · have hlc := VI.out.len
              have OV := VI.out.val VS.out (by omega) (Nat.le_refl i) (by rw [hlc]; exact hlt2) hlt2
              obtain ⟨v0, v1, v2⟩ := vrow_owned VI.out.own i (by rw [hlc]; exact hlt2)
              have hvv := HVV.out _ (List.getElem_mem hlt2)
              have hiv := VS.out.iv i hlt2
              have HSTAY := Lib.hid (fun w1 hb hr => VI.out.stay (w1 := w1) VS.out (by omega) hLm hlt2 hb hr)
              have HSUB := Lib.hid (fun w1 hk c zm F hF hq hr => VI.out.sub (w1 := w1) (c := c) (zm := zm) (F := F) VS.out (by omega) hL1 hlt2 hk hF hq hr 28)
              have q2 := cell_of_row wR wB.heap.size 2 _ _ (0, 0) FR.out
              have lf := lt_blk10 FR.out
              have lv := block_lt_of_cell v0
              generalize cs'[i] = xc at v0 v1 v2 OV
              by_cases h2 : f.f2 = 9
              · have d2 : ((f.f2 : Int) == 9) = true := by simpa using h2
                rw [h2] at hvv
                obtain ⟨xm, hxm, hok⟩ := valOk_sub hvv
                obtain ⟨gm, c, bl, bu, ex, mc, j1, j2, j3, j4, om⟩ := oval_one OV hxm
                simp only [ex] at v2
                obtain ⟨ca, cn, cc, rfl⟩ := rmsg_slice (OMsg.reads hLm n (Nat.zero_le _) om)
                have OMH := Lib.hid om
                have lgm := block_lt_of_cell mc
                have HBR := Lib.hid (VI.out.keep.below (HBA.out.nx BC.out) (by omega) fun q q1 hh => by
                  rcases hh with rfl | ⟨t, ht, hh⟩
                  · have := VS.out.row; omega
                  · have := VS.out.iv t (by omega); omega)
                have AV := Lib.hid (al1 wR (.cells #[.int .i64 xc.1, .string xc.2.1, .slice (some ⟨gm, 0, none⟩) 1 1] 39))
                have hcall := HIH.out w0 (wR.alloc (.cells #[.int .i64 xc.1, .string xc.2.1, .slice (some ⟨gm, 0, none⟩) 1 1] 39)).drew bl bu f.f3 [.slice ca cn cc] xm HSA.out (HBR.out.nx AV.out).drew (by omega) (by have := AV.out.size; show bu ≤ (wR.alloc (.cells #[.int .i64 xc.1, .string xc.2.1, .slice (some ⟨gm, 0, none⟩) 1 1] 39)).heap.size; omega) (OMsg.gen n (Nat.le_refl _) (Nat.le_refl _) (Stay.of_below AV.out.drew (by omega)) OMH.out) hok
                unfold Sch.cells at hcall
                have HCALL := Lib.hid hcall
                have e0 : wR.cell? ⟨wA.heap.size, 2, none⟩ = some (.slice (some ⟨gv, 0, none⟩) (entSlot f y).v.length cap) := cell_of_row wR wA.heap.size 2 _ _ (0, 0) YB.out
                have e1 : wR.cell? ⟨w.heap.size, 0, none⟩ = some (.slice S.A0 S.M.length S.c0) := cell_of_row wR w.heap.size 0 _ _ (0, 0) CR.out
                have e2 : wR.cell? ⟨w.heap.size, 1, none⟩ = some (.slice S.A1 S.E.length S.c1) := cell_of_row wR w.heap.size 1 _ _ (0, 0) CR.out
                have e3 : wR.cell? ⟨wB.heap.size, 3, none⟩ = some (.int .i64 f.f3) := cell_of_row wR wB.heap.size 3 _ _ (0, 0) FR.out
                have e4 : (wR.alloc (.cells #[.int .i64 xc.1, .string xc.2.1, .slice (some ⟨gm, 0, none⟩) 1 1] 39)).cell? ⟨wR.heap.size, 2, none⟩ = some (.slice (some ⟨gm, 0, none⟩) 1 1) := cell_of_row _ wR.heap.size 2 _ _ (0, 0) (heap_alloc_new wR (.cells #[.int .i64 xc.1, .string xc.2.1, .slice (some ⟨gm, 0, none⟩) 1 1] 39))
                have hs0 : (wR.alloc (.cells #[.int .i64 xc.1, .string xc.2.1, .slice (some ⟨gm, 0, none⟩) 1 1] 39)).drew.cell? ⟨wA.heap.size, 2, none⟩ = some (.slice (some ⟨gv, 0, none⟩) (entSlot f y).v.length cap) ∧ (wR.alloc (.cells #[.int .i64 xc.1, .string xc.2.1, .slice (some ⟨gm, 0, none⟩) 1 1] 39)).drew.cell? ⟨w.heap.size, 0, none⟩ = some (.slice S.A0 S.M.length S.c0) ∧ (wR.alloc (.cells #[.int .i64 xc.1, .string xc.2.1, .slice (some ⟨gm, 0, none⟩) 1 1] 39)).drew.cell? ⟨w.heap.size, 1, none⟩ = some (.slice S.A1 S.E.length S.c1) ∧ (wR.alloc (.cells #[.int .i64 xc.1, .string xc.2.1, .slice (some ⟨gm, 0, none⟩) 1 1] 39)).drew.cell? ⟨wB.heap.size, 3, none⟩ = some (.int .i64 f.f3) ∧ (wR.alloc (.cells #[.int .i64 xc.1, .string xc.2.1, .slice (some ⟨gm, 0, none⟩) 1 1] 39)).drew.cell? ⟨wR.heap.size, 2, none⟩ = some (.slice (some ⟨gm, 0, none⟩) 1 1) ∧ (wR.alloc (.cells #[.int .i64 xc.1, .string xc.2.1, .slice (some ⟨gm, 0, none⟩) 1 1] 39)).drew.cell? ⟨gm, 0, none⟩ = some (.slice ca cn cc) :=
                  ⟨cell_alloc e0 _, cell_alloc e1 _, cell_alloc e2 _, cell_alloc e3 _, e4, cell_alloc mc _⟩
                have lAR : wA.heap.size < wR.heap.size := block_lt_of_cell e0
                have lBR : wB.heap.size < wR.heap.size := block_lt_of_cell e3
                have lWR : w.heap.size < wR.heap.size := block_lt_of_cell e1
                have zAV : (wR.alloc (.cells #[.int .i64 xc.1, .string xc.2.1, .slice (some ⟨gm, 0, none⟩) 1 1] 39)).drew.heap.size = wR.heap.size + 1 := by show (wR.alloc (.cells #[.int .i64 xc.1, .string xc.2.1, .slice (some ⟨gm, 0, none⟩) 1 1] 39)).heap.size = _; simp
                have HS6 := Lib.hid (fun w5 (k5 : Keep (fun q => bl ≤ q ∧ q < bu) (wR.alloc (.cells #[.int .i64 xc.1, .string xc.2.1, .slice (some ⟨gm, 0, none⟩) 1 1] 39)).drew w5) => keepN6 (w' := w5) ⟨k5.block _ (by omega) (by omega), k5.block _ (by omega) (by omega), k5.block _ (by omega) (by omega), k5.block _ (by omega) (by omega), k5.block _ (by omega) (by omega)⟩ hs0)
                have HVW := Lib.hid (fun w5 (k5 : Keep (fun q => bl ≤ q ∧ q < bu) (wR.alloc (.cells #[.int .i64 xc.1, .string xc.2.1, .slice (some ⟨gm, 0, none⟩) 1 1] 39)).drew w5) => own_there (k5.own (VI.out.own.alloc (.cells #[.int .i64 xc.1, .string xc.2.1, .slice (some ⟨gm, 0, none⟩) 1 1] 39)).drew (fun q hq hh => by
                  have e : q = gv := by simpa [Value.ownBlock] using hq.symm
                  subst e; omega)) (i := i) (by rw [hlc]; exact hlt2))
                have hne : gv ≠ wA.heap.size ∧ gv ≠ w.heap.size ∧ gv ≠ wB.heap.size ∧ gv ≠ wR.heap.size ∧ gv ≠ gm := by have := VS.out.row; omega
                clear hcall OV hvv om e4
                go_upto_region 13 with fail
                have hk := hs0
                go_region_held3 (fun w' => w'.cell? ⟨wA.heap.size, 2, none⟩ = some (.slice (some ⟨gv, 0, none⟩) (entSlot f y).v.length cap) ∧ w'.cell? ⟨w.heap.size, 0, none⟩ = some (.slice S.A0 S.M.length S.c0) ∧ w'.cell? ⟨w.heap.size, 1, none⟩ = some (.slice S.A1 S.E.length S.c1) ∧ w'.cell? ⟨wB.heap.size, 3, none⟩ = some (.int .i64 f.f3) ∧ w'.cell? ⟨wR.heap.size, 2, none⟩ = some (.slice (some ⟨gm, 0, none⟩) 1 1) ∧ w'.cell? ⟨gm, 0, none⟩ = some (.slice ca cn cc))
                  (first | (with_reducible exact hk) | (with_reducible exact keepN6a _ hk) | (with_reducible exact keepN6s hne (keepN6s hne (keepN6s hne (keepN6a _ hk)))) | (go_keep; done))
                  (first | (go_at_call 29; (with_reducible refine HCALL.out.mono ?_); rintro e w5 ⟨v5, rfl, ⟨F5, f51, f52⟩, k5⟩; (obtain ⟨A5, n5, c5, rfl⟩ := rmsg_slice f51.here); (clear hk); (have hk := HS6.out w5 k5); (obtain ⟨t0, t1, t2, r0, r1, r2, r3, rl⟩ := HVW.out w5 k5); (have rf0 := r3 (i * 3)); (have rf1 := r3 (i * 3 + 1)); (have rf2 := r3 (i * 3 + 2)); (have F5h := Lib.hid f51); (have Q5 := Lib.hid f52); (have K5 := Lib.hid k5); clear f51 f52 k5 r3))
                have HR := Lib.hid (show newV (norm S n) f (entSlot f y).v[i] = ⟨0, "".toUTF8, [norm S n f.f3 xm]⟩ by unfold newV; rw [if_pos h2, hxm]; rfl)
                have z5 := K5.out.size
                go_wp2_with fail
                have hin := HSUB.out w5 ((Keep.of_below (F := fun q => I i ≤ q ∧ q < J i) AV.out.drew).trans K5.out (fun q hq => hq) fun q _ hq => by omega) _ _ F5 F5h.out (fun q hq => by have := Q5.out q hq; omega) HR.out
                rw [set_alloc w5 _ _ _ rl, set_alloc _ _ _ _ (by simpa [World.setCell] using rl), set_alloc _ _ _ _ (by simpa [World.setCell] using rl)] at hin
                refine ⟨⟨i + 1, _, by omega, rfl, Lib.hid hin⟩, ?_⟩
                simp only [intOf, Int.toNat_natCast]
                omega
              · have d2 : ((f.f2 : Int) == 9) = false := by simpa using h2
                have HR := Lib.hid (show newV (norm S n) f (entSlot f y).v[i] = (entSlot f y).v[i] by unfold newV; rw [if_neg h2])
                clear OV hvv
                go_wp2_with fail
                refine ⟨⟨i + 1, cs', by omega, rfl, Lib.hid (HSTAY.out _ (al1 _ _) HR.out)⟩, ?_⟩
                simp only [intOf, Int.toNat_natCast]
                omega
            · obtain rfl : i = (entSlot f y).v.length := by omega
              obtain ⟨FV, FV1, FV2⟩ := VI.out.done VS.out hvL
              have FV1h := Lib.hid FV1
              have FV2h := Lib.hid FV2
              have GR3 := Lib.hid ((VI.out.old VS.out (Nat.le_refl _) (p := w.heap.size + 1 + 1 + 1) (by omega) (by omega) (by omega)).trans ((BC.out.block _ (lt_blk10 G3.out)).trans G3.out))
              clear FV1 FV2
              obtain ⟨oA, oc, rfl⟩ := owns_slice NI.out.own
              have hdl : d.length ≤ L := by
                rw [NI.out.len]
                have h1 := normSlots_len S (norm S n) m (x.f.take k)
                rw [List.length_take] at h1
                omega
              have KP := Lib.hid ((Keep.of_below (F := fun q => b k ≤ q ∧ q < b (k + 1)) BC.out).trans VI.out.keep (H := fun q => b k ≤ q ∧ q < b (k + 1)) (fun q hq => hq) fun q q1 hq => by
                rcases hq with rfl | ⟨t, ht, hq⟩
                · have := VS.out.row; omega
                · have := VS.out.iv t ht; omega)
              have zR2 := KP.out.size
              have A15 := Lib.hid (al1 wR (.cells #[.int .i64 y.no, .slice Ak nk ck2, .slice (some ⟨gv, 0, none⟩) (entSlot f y).v.length cap] 35))
              have zA15 := A15.out.size
              have NR := Lib.hid (NI.out.pass c0k ck1 (by omega) (by omega) (w1 := wR.alloc (.cells #[.int .i64 y.no, .slice Ak nk ck2, .slice (some ⟨gv, 0, none⟩) (entSlot f y).v.length cap] 35)) (KP.out.trans (.of_below (F := fun _ => False) A15.out) (fun q hq => hq) fun q _ hq => hq.elim))
              have OWN := Lib.hid NR.out.own
              obtain ⟨i3, hi3, hzi, hsi, hbi⟩ := info_parts (P := Tryz.prog) (e := 35) (z := .agg #[.int .i64 0, .slice none 0 0, .slice none 0 0]) (size := 3) (bytes := 56) (by kernel_rfl)
              have z3' : (Value.agg #[.int .i64 0, .slice none 0 0, .slice none 0 0]).cells.size = 3 := rfl
              have x0 : wR.cell? ⟨w.heap.size + 1 + 1 + 1, 0, none⟩ = some (.slice oA d.length oc) := cell_of_row wR (w.heap.size + 1 + 1 + 1) 0 _ _ (0, 0) GR3.out
              have lx := lt_blk10 GR3.out
              obtain ⟨y0, y1, y2, -⟩ := At3.cells YB.out
              have ly2 : wA.heap.size < wR.heap.size := At3.lt YB.out
              have hbA : w.heap.size + 1 + 1 + 1 + 1 ≤ (wR.alloc (.cells #[.int .i64 y.no, .slice Ak nk ck2, .slice (some ⟨gv, 0, none⟩) (entSlot f y).v.length cap] 35)).heap.size := by omega
              go_wp2_with (first | (at_builtin; (refine wpList_append_lies _ rfl _ _ 26 rfl (w.heap.size + 1 + 1 + 1 + 1) 35 i3 _ 3 56 Tryz.underlying26 hi3 hzi hsi hbi z3' (by omega) (.slice oA d.length oc) d.length _ rfl OWN.out ⟨wR.heap.size, 0, none⟩ 1 1 [.int .i64 y.no, .slice Ak nk ck2, .slice (some ⟨gv, 0, none⟩) (entSlot f y).v.length cap] rfl rfl (World.news_of_block (heap_alloc_new wR (.cells #[.int .i64 y.no, .slice Ak nk ck2, .slice (some ⟨gv, 0, none⟩) (entSlot f y).v.length cap] 35))) (by simp [Value.oneCell']) (by omega) (by unfold maxLen; omega) (by omega) hbA _ rfl ?_); rintro g9 cap9 w9 ho9 hg9 hl9 hlt9; (have GO9 := Lib.hid (fun p (h1 : p < w.heap.size + 1 + 1 + 1 + 1) (h2 : p < (wR.alloc (.cells #[.int .i64 y.no, .slice Ak nk ck2, .slice (some ⟨gv, 0, none⟩) (entSlot f y).v.length cap] 35)).heap.size) => hg9.block p h2 (fun e => by have := (OWN.out.lt p e.symm).1; omega))); (have X3 := Lib.hid ((GO9.out (w.heap.size + 1 + 1 + 1) (by omega) (by omega)).trans ((A15.out.block _ (lt_blk10 GR3.out)).trans GR3.out))); (have x3c := cell_of_row w9 (w.heap.size + 1 + 1 + 1) 0 _ _ (0, 0) X3.out); (have x3f : w9.frozen? ⟨w.heap.size + 1 + 1 + 1, 0, none⟩ = false := (by simp [World.frozen?, X3.out])); (have x3l := lt_blk10 X3.out); (have HO9 := Lib.hid ho9); (have HG9 := Lib.hid hg9); (have HL9 := Lib.hid hl9); clear ho9 hg9 hl9) | fail)
              have HN := Lib.hid (show normSlot S (norm S n) m y = [⟨y.no, (entSlot f y).k, (entSlot f y).v.map (newV (norm S n) f)⟩] by unfold normSlot; rw [HFL.out]; simp [HG.out])
              have hno := PON.out
              have FS := slot_fix (L := L) (n := n) hno.1 hno.2 (VI.out.keep.fix FKH.out fun q hq => ⟨(FKQ.out q hq).2.1, fun hh => by
                have hf := FKQ.out q hq
                rcases hh with rfl | ⟨t, ht, hh⟩
                · exact hf.2.2 rfl
                · have := VS.out.iv t ht; omega⟩) FV1h.out
              have FA := (Keep.of_below (F := fun _ => False) A15.out).fix FS fun q hq => ⟨by
                rcases hq with hq | hq
                · have := FKQ.out q hq; omega
                · exact (FV2h.out q hq).2, fun h => h⟩
              have hob : ∀ q, (Value.slice oA d.length oc).ownBlock = some q → w.heap.size + 1 + 1 + 1 + 1 ≤ q ∧ q < wA.heap.size := fun q hq => NI.out.own.lt q hq
              have N9 := NR.out.app (x := (y.no, (Ak, nk, ck2), (some ⟨gv, 0, none⟩, (entSlot f y).v.length, cap))) FA (fun q hq => by
                have hrow := VS.out.row
                have key : q < wR.heap.size ∧ ((b 0 ≤ q ∧ q < b (k + 1)) ∨ wD.heap.size ≤ q) := by
                  rcases hq with hq | hq
                  · have := FKQ.out q hq; omega
                  · have h2 := FV2h.out q hq
                    rcases h2.1 with e | ⟨t, ht, h3⟩ | h3
                    · refine ⟨h2.2, ?_⟩
                      rw [e]
                      rcases hrow with hr | hr
                      · exact .inl ⟨Nat.le_trans c0k (Nat.le_trans a1' hr.1), Nat.lt_of_lt_of_le hr.2 (Nat.le_refl _)⟩
                      · exact .inr hr
                    · have := VS.out.iv t ht; omega
                    · omega
                refine ⟨by omega, by omega, fun e => ?_⟩
                have := hob q e
                omega) (by omega) rfl HO9.out HG9.out HL9.out
              have N10 := N9.set (p := ⟨w.heap.size + 1 + 1 + 1, 0, none⟩) (by simp) (by show w.heap.size ≤ w.heap.size + 1 + 1 + 1; omega) (by show b (k + 1) ≤ w.heap.size + 1 + 1 + 1; omega) (.slice (some ⟨g9, 0, none⟩) (d.length + 1) cap9)
              have far : ∀ p, p < w.heap.size + 1 + 1 + 1 → wR.heap[p]? = wc.heap[p]? ∧ wc.heap[p]? = wA.heap[p]? → (w9.setCell ⟨w.heap.size + 1 + 1 + 1, 0, none⟩ (.slice (some ⟨g9, 0, none⟩) (d.length + 1) cap9)).heap[p]? = wA.heap[p]? := fun p hp h => by
                have e1 := heap_setCell_other w9 ⟨w.heap.size + 1 + 1 + 1, 0, none⟩ p (.slice (some ⟨g9, 0, none⟩) (d.length + 1) cap9) (by show p ≠ w.heap.size + 1 + 1 + 1; omega)
                exact e1.trans ((GO9.out p (by omega) (by omega)).trans ((A15.out.block p (by omega)).trans (h.1.trans h.2)))
              have old : ∀ p, w.heap.size ≤ p → p < wA.heap.size → wR.heap[p]? = wc.heap[p]? ∧ wc.heap[p]? = wA.heap[p]? := fun p p1 p2 => ⟨VI.out.old VS.out (Nat.le_refl _) (by omega) (by omega) (by omega), BC.out.block p p2⟩
              have G0n := Lib.hid ((far w.heap.size (by omega) (old _ (Nat.le_refl _) (by omega))).trans G0.out)
              have G2n := Lib.hid ((far (w.heap.size + 1 + 1) (by omega) (old _ (by omega) (by omega))).trans G2.out)
              have G3n := Lib.hid (show (w9.setCell ⟨w.heap.size + 1 + 1 + 1, 0, none⟩ (.slice (some ⟨g9, 0, none⟩) (d.length + 1) cap9)).heap[w.heap.size + 1 + 1 + 1]? = some (.cells #[.slice (some ⟨g9, 0, none⟩) (d.length + 1) cap9] 28 (0, 0)) by
                have h := heap_setCell_same w9 (w.heap.size + 1 + 1 + 1) 0 _ _ (.slice (some ⟨g9, 0, none⟩) (d.length + 1) cap9) X3.out
                simpa using h)
              refine ⟨⟨k + 1, _, _, by omega, rfl, Lib.hid (by rw [HT.out, HN.out]; exact N10), G0n, G2n, G3n⟩, ?_⟩
              simp only [intOf, Int.toNat_natCast]
              omega
    · obtain rfl : k = x.f.length := by omega
      have NI2 := Lib.hid (show NIn L n (w.heap.size + 1 + 1 + 1 + 1) w b (x.f.flatMap (normSlot S (norm S n) m)) x.f.length wA vo d by have := NI.out; rwa [List.take_length] at this)
      have HNO := Lib.hid (normSlots_nodup S (norm S n) m x.f HND.out)
      have HZL := Lib.hid (Nat.le_trans (normSlots_len S (norm S n) m x.f) hxl)
      have hdl : d.length ≤ L := by rw [NI2.out.len]; exact HZL.out
      have m3 : wA.cell? ⟨w.heap.size + 1 + 1 + 1, 0, none⟩ = some vo := cell_of_row wA (w.heap.size + 1 + 1 + 1) 0 _ _ (0, 0) G3.out
      have m2 : wA.cell? ⟨w.heap.size + 1 + 1, 0, none⟩ = some (.slice none 0 0) := cell_of_row wA (w.heap.size + 1 + 1) 0 _ _ (0, 0) G2.out
      have f2 : wA.frozen? ⟨w.heap.size + 1 + 1, 0, none⟩ = false := by simp [World.frozen?, G2.out]
      have l2 := lt_blk10 G2.out
      have l3 := lt_blk10 G3.out
      have hbl : x.f = [] ∨ b x.f.length ≤ hi := by
        by_cases e : x.f = []
        · exact .inl e
        · exact .inr (HNE.out e).1
      have HKP := Lib.hid (NI2.out.keep.mono (H := fun q => lo ≤ q ∧ q < hi) fun q q1 hq => by
        rcases hbl with e | e
        · rw [e] at hq; simp at hq; omega
        · omega)
      rcases NI2.out.own.2 with ⟨rfl, hd0⟩ | ⟨go, cap, cur, hvo, -⟩
      · have hzs : x.f.flatMap (normSlot S (norm S n) m) = [] := List.eq_nil_of_length_eq_zero (by rw [← NI2.out.len]; exact hd0)
        have HM := Lib.hid (show norm S (n + 1) m x = .mk [] by rw [norm, hzs]; simp [sortNo])
        clear hzs hbl
        go_wp2_with (go_at_call 57; (with_reducible refine (sort_0 _ _).mono ?_); rintro e w' ⟨rfl, rfl⟩)
        exact bodyPost_ret (v := .agg #[.slice none 0 0]) (results_cell_mid rfl _ _ (w.heap.size + 1 + 1) 0 [_] _ rfl (World.rangeAt_setCells_same wA (w.heap.size + 1 + 1) 0 [_] fun j hj => ⟨by match j, hj with
          | 0, _ => rw [m2]; rfl, by match j, hj with
          | 0, _ => exact f2⟩) Tryz.underlying28 rfl (by kernel_rfl)) rfl (show NormPost S L (n + 1) lo hi m x w _ _ from ⟨_, rfl, ⟨fun _ => False, by rw [HM.out]; exact msg_fix (row_nil_fix _ _ _ _ _), fun q hq => hq.elim⟩, HKP.out.trans (.of_set (fun q => q = w.heap.size + 1 + 1) _ _ _ rfl) (fun q hq => hq) fun q q1 hq => by omega⟩)
      · subst hvo
        have HOW := NI2.out.own
        have hgo := HOW.lt go rfl
        rcases HOW.2 with ⟨hh, -⟩ | ⟨go', cap', cur', hh, -⟩
        · cases hh
        have HSORT := Lib.hid (sort_slots _ go cap d wA HOW (by omega))
        clear HOW hh
        go_wp2_with (go_at_call 57; (with_reducible refine HSORT.out.mono ?_); rintro e w9 ⟨rfl, d', hp9, hs9, ho9, hg9⟩; (have X3 := Lib.hid ((hg9.block (w.heap.size + 1 + 1 + 1) (by omega) (fun e => by cases e; omega)).trans G3.out)); (have X2 := Lib.hid ((hg9.block (w.heap.size + 1 + 1) (by omega) (fun e => by cases e; omega)).trans G2.out)); (have c3 := cell_of_row w9 (w.heap.size + 1 + 1 + 1) 0 _ _ (0, 0) X3.out); (have c2 := cell_of_row w9 (w.heap.size + 1 + 1) 0 _ _ (0, 0) X2.out); (have x2f : w9.frozen? ⟨w.heap.size + 1 + 1, 0, none⟩ = false := (by simp [World.frozen?, X2.out])); (have x2l := lt_blk10 X2.out); (have x3l := lt_blk10 X3.out); (have HP9 := Lib.hid hp9); (have HS9 := Lib.hid hs9); (have HO9 := Lib.hid ho9); (have HG9 := Lib.hid hg9); clear hp9 hs9 ho9 hg9)
        have kg : Keep (fun q => q = go) wA w9 := .of_grown HG9.out fun q e _ => by cases e; rfl
        obtain ⟨F, f1, f2'⟩ := NI2.out.done rfl HP9.out HS9.out HO9.out kg HNO.out HZL.out
        have ks : Keep (fun q => q = w.heap.size + 1 + 1) w9 (w9.setCell ⟨w.heap.size + 1 + 1, 0, none⟩ (.slice (some ⟨go, 0, none⟩) d.length cap)) := .of_set _ _ _ _ rfl
        have hF : ∀ q, F q → ((lo ≤ q ∧ q < hi) ∨ w.heap.size + 1 + 1 + 1 + 1 ≤ q) ∧ q < w9.heap.size := fun q hq => by
          have h := f2' q hq
          rcases hbl with e | e
          · rw [e] at h; simp at h; omega
          · omega
        have z9 := ks.size
        exact bodyPost_ret (v := .agg #[.slice (some ⟨go, 0, none⟩) d.length cap]) (results_cell_mid rfl _ _ (w.heap.size + 1 + 1) 0 [_] _ rfl (World.rangeAt_setCells_same w9 (w.heap.size + 1 + 1) 0 [_] fun j hj => ⟨by match j, hj with
          | 0, _ => rw [c2]; rfl, by match j, hj with
          | 0, _ => exact x2f⟩) Tryz.underlying28 rfl (by kernel_rfl)) rfl (show NormPost S L (n + 1) lo hi m x w _ _ from ⟨_, rfl, ⟨F, ks.fix f1 fun q hq => ⟨(hF q hq).2, fun hh => by have := hF q hq; omega⟩, fun q hq => by have := hF q hq; exact ⟨by omega, Nat.lt_of_lt_of_le this.2 z9⟩⟩, (HKP.out.trans kg (H := fun q => lo ≤ q ∧ q < hi) (fun q hq => hq) fun q q1 hq => by omega).trans ks (fun q hq => hq) fun q q1 hq => by omega⟩)
/-- typed's checker.normal. -/
theorem norm_ok (S : Sch) (hF : S.Ok) (L : Nat) (hL : L ≤ 1048576) (hL1 : 1 ≤ L) : ∀ n, NormC S L n
  | 0 => fun _ _ _ _ _ _ _ _ _ _ _ h => h.elim
  | n + 1 => norm_step S hF n L hL hL1 (norm_ok S hF L hL hL1 n)
end
end Go.Proofs.YthikfifoomfjgaaGreat
namespace Go.Proofs.YthikfifoomfjgaaGreat
open Go.RowKit Go.Tr Go.WideMaps Go.Maps Go.Proofs.YthikfifoomfjgaaGreat.PA Go.Proofs.YthikfifoomfjgaaGreatW.PrintWords Go.Proofs.YthikfifoomfjgaaGreatW.PrintLast Go.Proofs.YthikfifoomfjgaaGreatW.PrintMore
set_option maxRecDepth 100000
set_option linter.unusedVariables false
set_option linter.unusedSimpArgs false
/-- What typed.Normal tells of a message. -/
def nrm (S : Sch) (n : Nat) (m : Int) (x : Msg) : Msg := if mayOk S n m x = true then norm S n m x else .mk []
section
attribute [local go_sem] run_store
set_option maxHeartbeats 4000000 in
/-- typed.Normal. -/
theorem typed_normal (S : Sch) (hF : S.Ok) (hok : okSchema S.M S.E = true) (n : Nat) (w : World) (hS : S.At w) (m : Int) (cs : List Value) (x : Msg) (hx : RMsg 10000 0 w (n + 1) cs x) :
    Calls Tryz.prog 11 #[.agg S.cells, .int .i64 m, .agg cs.toArray] w fun e w' => ∃ v, e = .returned (.tuple #[.agg #[v], .bool (mayOk S (n + 1) m x)]) ∧ RMsg 10000 0 w' (n + 1) [v] (nrm S (n + 1) m x) ∧ Below w.heap.size w w' := by
  obtain ⟨c, rfl, o1⟩ := rmsg_one 10000 0 (n + 1) w cs x hx
  obtain ⟨ca, cn, cc, rfl⟩ := rmsg_slice hx
  have hmm : ∀ w', Below w.heap.size w w' → Calls Tryz.prog 16 #[.agg S.cells, .int .i64 m, .agg #[.slice ca cn cc]] w' fun e w2 => e = .returned (.bool (mayOk S (n + 1) m x)) ∧ Below w'.heap.size w' w2 := fun w' hb => typed_may S hF hok 10000 (n + 1) (by omega) w' (hS.below hb) m [.slice ca cn cc] x (RMsg.below hb (n + 1) hx)
  have HOW := Lib.hid fun w' (hb : Below w.heap.size w w') => value_ownI 10000 0 (by omega) (n + 1) w' [.slice ca cn cc] x (RMsg.below hb (n + 1) hx)
  have HNO := Lib.hid fun w' lo hi cs' (hb : Below w.heap.size w w') (h0 : w.heap.size ≤ lo) (h1 : hi ≤ w'.heap.size) (h : OMsg 10000 w' (n + 1) lo hi cs' x) (hk : msgOk S (n + 1) m x = true) => norm_ok S hF 10000 (by omega) (by omega) (n + 1) w w' lo hi m cs' x hS hb h0 h1 h hk
  clear hS hx
  unfold Sch.cells at *
  have HB := Lib.hid ((al2 w (.cells #[.slice S.A0 S.M.length S.c0, .slice S.A1 S.E.length S.c1] 25) (.cells #[.slice ca cn cc] 28)).nx (al1 _ (.cells #[.slice none 0 0] 28)))
  have cells : ∀ W : World, W = ((w.alloc (.cells #[.slice S.A0 S.M.length S.c0, .slice S.A1 S.E.length S.c1] 25)).alloc (.cells #[.slice ca cn cc] 28)).alloc (.cells #[.slice none 0 0] 28) →
      W.heap[w.heap.size]? = some (.cells #[.slice S.A0 S.M.length S.c0, .slice S.A1 S.E.length S.c1] 25 (0, 0)) ∧ W.heap[w.heap.size + 1]? = some (.cells #[.slice ca cn cc] 28 (0, 0)) ∧ W.heap[w.heap.size + 1 + 1]? = some (.cells #[.slice none 0 0] 28 (0, 0)) := by
    rintro W rfl
    obtain ⟨h0, h1, h2, -⟩ := four10 w (.cells #[.slice S.A0 S.M.length S.c0, .slice S.A1 S.E.length S.c1] 25) (.cells #[.slice ca cn cc] 28) (.cells #[.slice none 0 0] 28) (.cells #[] 28)
    have k := al1 (((w.alloc (.cells #[.slice S.A0 S.M.length S.c0, .slice S.A1 S.E.length S.c1] 25)).alloc (.cells #[.slice ca cn cc] 28)).alloc (.cells #[.slice none 0 0] 28)) (.cells #[] 28)
    exact ⟨(k.block _ (by simp; omega)).symm.trans h0, (k.block _ (by simp)).symm.trans h1, (k.block _ (by simp)).symm.trans h2⟩
  cases hmay : mayOk S (n + 1) m x with
  | false =>
    have HMA2 := Lib.hid (fun w' hb => by have h := hmm w' hb; rw [hmay] at h; exact h)
    have HN : Hid (nrm S (n + 1) m x = .mk []) := Lib.hid (by unfold nrm; rw [hmay]; rfl)
    clear hmm hmay HNO HOW
    go_enter Tryz.func11, Tryz.ntmps11
    go_upto_region 1 with fail
    have HCE := Lib.hid (cells _ rfl)
    clear cells
    generalize ((w.alloc (.cells #[.slice S.A0 S.M.length S.c0, .slice S.A1 S.E.length S.c1] 25)).alloc (.cells #[.slice ca cn cc] 28)).alloc (.cells #[.slice none 0 0] 28) = w1 at *
    obtain ⟨g0, g1, g2⟩ := HCE.out
    have e0 : w1.cell? ⟨w.heap.size, 0, none⟩ = some (.slice S.A0 S.M.length S.c0) := cell_of_row w1 w.heap.size 0 _ _ (0, 0) g0
    have e1 : w1.cell? ⟨w.heap.size, 1, none⟩ = some (.slice S.A1 S.E.length S.c1) := cell_of_row w1 w.heap.size 1 _ _ (0, 0) g0
    have e2 : w1.cell? ⟨w.heap.size + 1, 0, none⟩ = some (.slice ca cn cc) := cell_of_row w1 (w.heap.size + 1) 0 _ _ (0, 0) g1
    have l0 := lt_blk10 g0
    have l1 := lt_blk10 g1
    have G2 := Lib.hid g2
    clear g0 g1 g2
    go_wp2_with (go_at_call 16; (with_reducible refine (HMA2.out _ HB.out).mono ?_); rintro e w2 ⟨rfl, b2⟩; (have K2 := Lib.hid ((b2.block _ (lt_blk10 G2.out)).trans G2.out)); (have kc := cell_of_row w2 (w.heap.size + 1 + 1) 0 _ _ (0, 0) K2.out); (have kf : w2.frozen? ⟨w.heap.size + 1 + 1, 0, none⟩ = false := (by simp [World.frozen?, K2.out])); (have kl := lt_blk10 K2.out); (have B2 := Lib.hid b2); clear b2)
    exact bodyPost_ret (results_cell_tmp_mid rfl _ _ (w.heap.size + 1 + 1) 0 [.slice none 0 0] _ rfl (World.rangeAt_setCells_same w2 (w.heap.size + 1 + 1) 0 [.slice none 0 0] fun j hj => ⟨by match j, hj with
      | 0, _ => rw [kc]; rfl, by match j, hj with
      | 0, _ => exact kf⟩) Tryz.underlying28 rfl (by kernel_rfl)) rfl ⟨_, rfl, by rw [HN.out]; exact nil_msg _ _ _, (HB.out.nx B2.out).setCell (by simp; omega) _⟩
  | true =>
    have HMA2 := Lib.hid (fun w' hb => by have h := hmm w' hb; rw [hmay] at h; exact h)
    have hmsg : msgOk S (n + 1) m x = true := by unfold mayOk at hmay; simp only [Bool.and_eq_true] at hmay; exact hmay.2.2
    have HN : Hid (nrm S (n + 1) m x = norm S (n + 1) m x) := Lib.hid (by unfold nrm; rw [hmay]; rfl)
    have HMS := Lib.hid hmsg
    clear hmm hmay hmsg
    go_enter Tryz.func11, Tryz.ntmps11
    go_upto_region 1 with fail
    have HCE := Lib.hid (cells _ rfl)
    clear cells
    generalize ((w.alloc (.cells #[.slice S.A0 S.M.length S.c0, .slice S.A1 S.E.length S.c1] 25)).alloc (.cells #[.slice ca cn cc] 28)).alloc (.cells #[.slice none 0 0] 28) = w1 at *
    obtain ⟨g0, g1, g2⟩ := HCE.out
    have e0 : w1.cell? ⟨w.heap.size, 0, none⟩ = some (.slice S.A0 S.M.length S.c0) := cell_of_row w1 w.heap.size 0 _ _ (0, 0) g0
    have e1 : w1.cell? ⟨w.heap.size, 1, none⟩ = some (.slice S.A1 S.E.length S.c1) := cell_of_row w1 w.heap.size 1 _ _ (0, 0) g0
    have e2 : w1.cell? ⟨w.heap.size + 1, 0, none⟩ = some (.slice ca cn cc) := cell_of_row w1 (w.heap.size + 1) 0 _ _ (0, 0) g1
    have l0 := lt_blk10 g0
    have l1 := lt_blk10 g1
    clear g0 g1 g2
    go_upto_region 3 with (go_at_call 16; (with_reducible refine (HMA2.out _ HB.out).mono ?_); rintro e w2 ⟨rfl, b2⟩; (have B2 := Lib.hid b2); clear b2)
    have HB2 := Lib.hid (HB.out.nx B2.out)
    obtain ⟨g0, g1, g2⟩ := HCE.out
    have K0 := Lib.hid ((B2.out.block _ (lt_blk10 g0)).trans g0)
    have K1 := Lib.hid ((B2.out.block _ (lt_blk10 g1)).trans g1)
    have K2 := Lib.hid ((B2.out.block _ (lt_blk10 g2)).trans g2)
    clear e0 e1 e2 l0 l1 g0 g1 g2 HCE HB
    have e0 : w2.cell? ⟨w.heap.size, 0, none⟩ = some (.slice S.A0 S.M.length S.c0) := cell_of_row w2 w.heap.size 0 _ _ (0, 0) K0.out
    have e1 : w2.cell? ⟨w.heap.size, 1, none⟩ = some (.slice S.A1 S.E.length S.c1) := cell_of_row w2 w.heap.size 1 _ _ (0, 0) K0.out
    have e2 : w2.cell? ⟨w.heap.size + 1, 0, none⟩ = some (.slice ca cn cc) := cell_of_row w2 (w.heap.size + 1) 0 _ _ (0, 0) K1.out
    have l0 := lt_blk10 K0.out
    have l1 := lt_blk10 K1.out
    have l2 := lt_blk10 K2.out
    have hs0 : w2.cell? ⟨w.heap.size, 0, none⟩ = some (.slice S.A0 S.M.length S.c0) ∧ w2.cell? ⟨w.heap.size, 1, none⟩ = some (.slice S.A1 S.E.length S.c1) ∧ w2.cell? ⟨w.heap.size + 1, 0, none⟩ = some (.slice ca cn cc) := ⟨e0, e1, e2⟩
    have hk := hs0
    go_region_held3 (fun w' => w'.cell? ⟨w.heap.size, 0, none⟩ = some (.slice S.A0 S.M.length S.c0) ∧ w'.cell? ⟨w.heap.size, 1, none⟩ = some (.slice S.A1 S.E.length S.c1) ∧ w'.cell? ⟨w.heap.size + 1, 0, none⟩ = some (.slice ca cn cc))
      (first | exact hk | ((with_reducible refine keep3set ?_ hk); omega) | (go_keep; done))
      (first
        | (go_at_call 30; (with_reducible refine (HOW.out _ ?_).mono ?_); (exact HB2.out.drew); rintro e y1 ⟨ds, rfl, r1, g1⟩; (obtain ⟨v1, rfl, -⟩ := omsg_one 10000 (n + 1) _ _ _ ds x r1); (have R1 := Lib.hid r1); (have D1 := Lib.hid ((Below.refl w2.heap.size w2).drew.nx g1)); clear hk; (have hk := keep3w D1.out rfl hs0); clear g1 r1)
        | (go_at_call 29; (with_reducible refine (HNO.out _ _ _ _ ?_ ?_ ?_ R1.out HMS.out).mono ?_); (exact HB2.out.nx D1.out); (exact Nat.le_trans HB2.out.size (Nat.le_refl _)); (exact Nat.le_refl _); rintro e y2 ⟨v2, rfl, ⟨F, f1, f2⟩, kk⟩; (have D2 := Lib.hid (kk.below D1.out D1.out.size (fun q q1 hq => absurd hq.1 (Nat.not_le.2 q1)))); clear hk; (have hk := keep3w D2.out rfl hs0); (have kh := (D2.out.block _ (lt_blk10 K2.out)).trans K2.out); (obtain ⟨va, vn, vc, rfl⟩ := rmsg_slice f1.here); (have kc : y2.cell? ⟨w.heap.size + 1 + 1, 0, none⟩ = some (.slice none 0 0) := cell_of_row y2 (w.heap.size + 1 + 1) 0 _ _ (0, 0) kh); (have kf : y2.frozen? ⟨w.heap.size + 1 + 1, 0, none⟩ = false := (by simp [World.frozen?, kh])); (have kl := lt_blk10 kh); (have F1 := Lib.hid f1); (have F2 := Lib.hid f2); clear kk kh f1 f2))
    all_goals (
      go_wp2_with fail
      have ks : Keep (fun q => q = w.heap.size + 1 + 1) y2 (y2.setCell ⟨w.heap.size + 1 + 1, 0, none⟩ (.slice va vn vc)) := .of_set _ _ _ _ rfl
      have hr := (ks.fix F1.out fun q hq => ⟨(F2.out q hq).2, fun hh => by
        have h := (F2.out q hq).1
        have z1 := D1.out.size
        have e : w2.drew.heap.size = w2.heap.size := rfl
        omega⟩).here
      exact bodyPost_ret (results_cell_tmp_mid rfl _ _ (w.heap.size + 1 + 1) 0 [.slice va vn vc] _ rfl (World.rangeAt_setCells_same y2 (w.heap.size + 1 + 1) 0 [.slice va vn vc] fun j hj => ⟨by match j, hj with
        | 0, _ => rw [kc]; rfl, by match j, hj with
        | 0, _ => exact kf⟩) Tryz.underlying28 rfl (by kernel_rfl)) rfl ⟨_, rfl, by rw [HN.out]; exact hr, (HB2.out.nx D2.out).setCell (by simp; omega) _⟩)
set_option maxHeartbeats 4000000 in
/-- typed.Is. -/
theorem typed_is (S : Sch) (hF : S.Ok) (hok : okSchema S.M S.E = true) (n : Nat) (w : World) (hS : S.At w) (m : Int) (cs : List Value) (x : Msg) (hx : RMsg 10000 0 w (n + 1) cs x) :
    Calls Tryz.prog 18 #[.agg S.cells, .int .i64 m, .agg cs.toArray] w fun e w' => e = .returned (.bool (mayOk S (n + 1) m x && same (nrm S (n + 1) m x) x)) ∧ Below w.heap.size w w' := by
  obtain ⟨c, rfl, o1⟩ := rmsg_one 10000 0 (n + 1) w cs x hx
  obtain ⟨ca, cn, cc, rfl⟩ := rmsg_slice hx
  have hno : ∀ w', Below w.heap.size w w' → Calls Tryz.prog 11 #[.agg S.cells, .int .i64 m, .agg #[.slice ca cn cc]] w' fun e w2 => ∃ v, e = .returned (.tuple #[.agg #[v], .bool (mayOk S (n + 1) m x)]) ∧ RMsg 10000 0 w2 (n + 1) [v] (nrm S (n + 1) m x) ∧ Below w'.heap.size w' w2 := fun w' hb => typed_normal S hF hok n w' (hS.below hb) m [.slice ca cn cc] x (RMsg.below hb (n + 1) hx)
  have HSA := Lib.hid fun w' (hb : Below w.heap.size w w') v (hv : RMsg 10000 0 w' (n + 1) [v] (nrm S (n + 1) m x)) => value_same 10000 0 (by unfold maxLen; omega) (n + 1) w' [v] [.slice ca cn cc] (nrm S (n + 1) m x) x hv (RMsg.below hb (n + 1) hx)
  clear hS hx
  unfold Sch.cells at *
  have HB := Lib.hid (al2 w (.cells #[.slice S.A0 S.M.length S.c0, .slice S.A1 S.E.length S.c1] 25) (.cells #[.slice ca cn cc] 28))
  cases hmay : mayOk S (n + 1) m x with
  | false =>
    have HNO := Lib.hid (fun w' hb => by have h := hno w' hb; rw [hmay] at h; exact h)
    clear hno hmay
    go_enter Tryz.func18, Tryz.ntmps18
    go_wp2_with fail
    refine (HNO.out _ HB.out).mono ?_; rintro e w1 ⟨v, rfl, hv, b1⟩
    obtain ⟨va, vn, vc, rfl⟩ := rmsg_slice hv
    have k5 : w1.cell? ⟨w.heap.size + 1, 0, none⟩ = some (.slice ca cn cc) := (b1.cell (p := ⟨w.heap.size + 1, 0, none⟩) (by simp)).trans (by simp [go_sem])
    have l5 := block_lt_of_cell k5
    have HB1 := Lib.hid (HB.out.nx b1)
    clear b1 hv
    go_wp2_with fail
    exact ⟨rfl, _, results_tmp (t := 6) rfl _ _ _, rfl, HB1.out.nx (al1 _ _)⟩
  | true =>
    have HNO := Lib.hid (fun w' hb => by have h := hno w' hb; rw [hmay] at h; exact h)
    clear hno hmay
    go_enter Tryz.func18, Tryz.ntmps18
    go_wp2_with fail
    refine (HNO.out _ HB.out).mono ?_; rintro e w1 ⟨v, rfl, hv, b1⟩
    obtain ⟨va, vn, vc, rfl⟩ := rmsg_slice hv
    have k5 : w1.cell? ⟨w.heap.size + 1, 0, none⟩ = some (.slice ca cn cc) := (b1.cell (p := ⟨w.heap.size + 1, 0, none⟩) (by simp)).trans (by simp [go_sem])
    have l5 := block_lt_of_cell k5
    have HB1 := Lib.hid (HB.out.nx b1)
    have A7 := Lib.hid (al1 w1 (.cells #[.slice va vn vc] 28))
    have HC := Lib.hid (HSA.out _ (HB1.out.nx A7.out) _ (RMsg.below A7.out (n + 1) hv))
    clear b1 hv
    go_wp2_with (go_at_call 40; (with_reducible refine HC.out.mono ?_); rintro e w2 ⟨rfl, b2⟩)
    exact ⟨rfl, _, results_tmp (t := 6) rfl _ _ _, rfl, HB1.out.nx (A7.out.nx b2)⟩
end
end Go.Proofs.YthikfifoomfjgaaGreat
namespace Go.Proofs.YthikfifoomfjgaaGreat
open Go.RowKit Go.Tr Go.WideMaps Go.Maps Go.Proofs.YthikfifoomfjgaaGreat.PA Go.Proofs.YthikfifoomfjgaaGreatW.PrintWords Go.Proofs.YthikfifoomfjgaaGreatW.PrintLast Go.Proofs.YthikfifoomfjgaaGreatW.PrintMore
set_option maxRecDepth 100000
set_option linter.unusedVariables false
set_option linter.unusedSimpArgs false
/-! msgOk, whatever the order of the slots -/
theorem sortNo_perm (l : List Slot) : (sortNo l).Perm l := List.mergeSort_perm _ _
theorem sortNo_id {l : List Slot} (hs : l.Pairwise fun a b => a.no ≤ b.no) (hd : (l.map fun y => y.no).Nodup) : sortNo l = l := (sortNo_eq (List.Perm.refl _) hs hd).symm
theorem AllOk.nodup {S : Sch} {mo : Int → Msg → Bool} {m : Int} {l : List Slot} (h : AllOk S mo m l) : (l.map fun y => y.no).Nodup := by
  rw [List.Nodup, List.pairwise_map]
  exact h.1.imp fun {a b} h => h.1
/-! entries -/
theorem keysOf_len (l : List Val) : (keysOf l).length = l.length := by simp [keysOf]
theorem keysOf_get {l : List Val} {j : Nat} (h : j < l.length) : (keysOf l)[j]? = some (l[j].n, l[j].s) := by simp [keysOf, h]
theorem ix_lt {l : List Val} {j : Nat} (h : j ∈ ixOf (keysOf l)) : j < l.length := by have := (ixOf_lasts (keysOf l)).lt h; rwa [keysOf_len] at this
theorem getD_mem {l : List Val} {j : Nat} (h : j < l.length) : l.getD j default ∈ l := by simp [h]
theorem ent_keys (y : Slot) : keysOf (entOf y).k = (ixOf (keysOf y.k)).map fun j => kth (keysOf y.k) j := by
  show keysOf ((ixOf (keysOf y.k)).map fun j => y.k.getD j default) = _
  unfold keysOf
  rw [List.map_map]
  apply List.map_congr_left
  intro j hj
  have h := ix_lt hj
  simp [kth, h]
/-- Keys that rise: each is the last of its own. -/
theorem ixOf_id {ks : List Key} (h : ks.Pairwise fun a b => keyLt a b = true) : ixOf ks = List.range ks.length := by
  have hne : ∀ i j (hi : i < ks.length) (hj : j < ks.length), i < j → keyLt ks[i] ks[j] = true := fun i j hi hj hij => List.pairwise_iff_getElem.1 h i j hi hj hij
  have hl : ∀ j (hj : j < ks.length), lastIx ks ks.length ks[j] = some j := fun j hj => by
    cases e : lastIx ks ks.length ks[j] with
    | none => exact absurd (List.getElem?_eq_getElem hj) (lastIx_none e j hj)
    | some t =>
      obtain ⟨h1, h2, h3⟩ := lastIx_some e
      have e2 : ks[t] = ks[j] := by rw [List.getElem?_eq_getElem h1] at h2; injection h2
      rcases Nat.lt_trichotomy t j with hlt | rfl | hlt
      · have := hne t j h1 hj hlt; rw [e2, keyLt_irrefl] at this; cases this
      · rfl
      · have := hne j t hj h1 hlt; rw [e2, keyLt_irrefl] at this; cases this
  refine (ixOf_eq ⟨List.nodup_range, fun j => ?_⟩ ?_).symm
  · rw [List.mem_range]
    constructor
    · intro hj; exact ⟨ks[j], List.getElem?_eq_getElem hj, hl j hj⟩
    · rintro ⟨k, h1, -⟩; exact (List.getElem?_eq_some_iff.1 h1).1
  · refine List.pairwise_iff_getElem.2 fun i j hi hj hij => ?_
    simp at hi hj ⊢
    rw [kth_lt hi, kth_lt hj]
    exact hne i j hi hj hij
theorem ent_rising (y : Slot) : (keysOf (entOf y).k).Pairwise fun a b => keyLt a b = true := by
  rw [ent_keys, List.pairwise_map]
  exact ixOf_sorted _
theorem map_range_getD {α : Type} [Inhabited α] (l : List α) : (List.range l.length).map (fun j => l.getD j default) = l := by
  apply List.ext_getElem (by simp)
  intro i h1 h2
  simp [h2]
/-- Entries that rise are as they are. -/
theorem ent_id {y : Slot} (h : (keysOf y.k).Pairwise fun a b => keyLt a b = true) (hl : y.k.length = y.v.length) : entOf y = y := by
  have e := ixOf_id h
  rw [keysOf_len] at e
  obtain ⟨no, k, v⟩ := y
  unfold entOf
  simp only at *
  rw [e, map_range_getD, hl, map_range_getD]
theorem ent_len (y : Slot) : (entOf y).k.length = (entOf y).v.length := by simp [entOf]
theorem ent_ne {y : Slot} (h : y.k ≠ []) : (entOf y).v ≠ [] := fun e => by
  have h1 := (ixOf_lasts (keysOf y.k)).ne (by rw [keysOf_len]; exact List.length_pos_iff.2 h)
  have : (ixOf (keysOf y.k)).length = 0 := by have := congrArg List.length e; simpa [entOf] using this
  exact h1 (List.eq_nil_of_length_eq_zero this)
theorem ent_mem_k {y : Slot} {v : Val} (h : v ∈ (entOf y).k) : v ∈ y.k := by
  obtain ⟨j, hj, rfl⟩ := List.mem_map.1 h
  exact getD_mem (ix_lt hj)
theorem ent_mem_v {y : Slot} {v : Val} (hl : y.k.length = y.v.length) (h : v ∈ (entOf y).v) : v ∈ y.v := by
  obtain ⟨j, hj, rfl⟩ := List.mem_map.1 h
  exact getD_mem (by rw [← hl]; exact ix_lt hj)
/-! one slot -/
def normOf (S : Sch) (rec : Int → Msg → Msg) (f : S47) (y : Slot) : Slot := ⟨y.no, (entSlot f y).k, (entSlot f y).v.map (newV rec f)⟩
theorem normSlot_some {S : Sch} {rec : Int → Msg → Msg} {m : Int} {y : Slot} {f : S47} (hf : S.fl m y.no = some f) : normSlot S rec m y = if gone f y = true then [] else [normOf S rec f y] := by
  unfold normSlot; rw [hf]; rfl
theorem slotOk_k {mo : Int → Msg → Bool} {f : S47} {y : Slot} (h : slotOk mo f y = true) : (f.f5 = -1 → y.k = []) ∧ (f.f5 ≠ -1 → y.k.length = y.v.length) := by
  unfold slotOk at h
  split at h
  · rename_i h5
    simp only [Bool.and_eq_true, decide_eq_true_eq] at h
    exact ⟨fun _ => List.eq_nil_of_length_eq_zero h.1, fun hh => absurd h5 hh⟩
  · rename_i h5
    simp only [Bool.and_eq_true, decide_eq_true_eq] at h
    exact ⟨fun hh => absurd hh h5, fun _ => h.1⟩
theorem valOk_new {mo : Int → Msg → Bool} {rec : Int → Msg → Msg} {f : S47} {v : Val} (hr : ∀ u, mo f.f3 u = true → mo f.f3 (rec f.f3 u) = true) (h : valOk mo f.f2 f.f3 v = true) : valOk mo f.f2 f.f3 (newV rec f v) = true := by
  unfold newV
  split
  · rename_i h2
    rw [h2] at h ⊢
    unfold valOk at h ⊢
    rw [if_pos rfl] at h ⊢
    simp only [Bool.and_eq_true] at h
    cases hm : v.m with
    | nil => rw [hm] at h; simp at h
    | cons u l =>
      cases l with
      | cons => rw [hm] at h; simp at h
      | nil =>
        rw [hm] at h
        simp only [List.headD_cons, Bool.and_eq_true]
        exact ⟨rfl, (show decide ("".toUTF8.size = 0) = true by decide), hr u h.2.2⟩
  · exact h
theorem slotOk_norm {S : Sch} {mo : Int → Msg → Bool} {rec : Int → Msg → Msg} {f : S47} {y : Slot} (hr : ∀ u, mo f.f3 u = true → mo f.f3 (rec f.f3 u) = true) (h : slotOk mo f y = true) : slotOk mo f (normOf S rec f y) = true := by
  have hk := slotOk_k h
  unfold slotOk at h ⊢
  by_cases h5 : f.f5 = -1
  · rw [if_pos h5] at h ⊢
    simp only [Bool.and_eq_true, List.all_eq_true] at h ⊢
    unfold normOf entSlot
    rw [if_pos h5]
    refine ⟨h.1, by simpa using h.2.1, fun v hv => ?_⟩
    obtain ⟨u, hu, rfl⟩ := List.mem_map.1 hv
    exact valOk_new hr (h.2.2 u hu)
  · rw [if_neg h5] at h ⊢
    simp only [Bool.and_eq_true, List.all_eq_true, decide_eq_true_eq] at h ⊢
    unfold normOf entSlot
    rw [if_neg h5]
    refine ⟨by simp [ent_len], fun v hv => h.2.1 v (ent_mem_k hv), fun v hv => ?_⟩
    obtain ⟨u, hu, rfl⟩ := List.mem_map.1 hv
    exact valOk_new hr (h.2.2 u (ent_mem_v (hk.2 h5) hu))
theorem gone_norm {S : Sch} {mo : Int → Msg → Bool} {rec : Int → Msg → Msg} {f : S47} {y : Slot} (hok : slotOk mo f y = true) (h : gone f y = false) : gone f (normOf S rec f y) = false := by
  have hk := slotOk_k hok
  have hyv : y.v ≠ [] := fun e => by unfold gone at h; rw [e] at h; cases h
  have hev : (entSlot f y).v ≠ [] := by
    unfold entSlot
    split
    · exact hyv
    · rename_i h5
      exact ent_ne fun e => hyv (List.eq_nil_of_length_eq_zero (by rw [← hk.2 h5, e]; rfl))
  unfold normOf
  by_cases h2 : f.f2 = 9
  · cases hv : (entSlot f y).v with
    | nil => exact absurd hv hev
    | cons v l => simp [gone, h2]
  · by_cases h5 : f.f5 = -1
    · have e : entSlot f y = y := by unfold entSlot; rw [if_pos h5]
      have e2 : y.v.map (newV rec f) = y.v := by
        rw [show newV rec f = id from funext fun v => by unfold newV; rw [if_neg h2]; rfl, List.map_id]
      rw [e, e2]
      exact h
    · cases hv : (entSlot f y).v with
      | nil => exact absurd hv hev
      | cons v l => simp [gone, h5]
theorem norm_norm_slot {S : Sch} {mo : Int → Msg → Bool} {rec : Int → Msg → Msg} {f : S47} {y : Slot} (hr : ∀ u, mo f.f3 u = true → rec f.f3 (rec f.f3 u) = rec f.f3 u) (hok : slotOk mo f y = true) : normOf S rec f (normOf S rec f y) = normOf S rec f y := by
  have hk := slotOk_k hok
  have hvals : ∀ v ∈ (entSlot f y).v, valOk mo f.f2 f.f3 v = true := fun v hv => by
    have hall : ∀ v ∈ y.v, valOk mo f.f2 f.f3 v = true := by
      unfold slotOk at hok
      split at hok
      · simp only [Bool.and_eq_true] at hok; exact fun v hv => List.all_eq_true.1 hok.2.2 v hv
      · simp only [Bool.and_eq_true] at hok; exact fun v hv => List.all_eq_true.1 hok.2.2 v hv
    unfold entSlot at hv
    split at hv
    · exact hall v hv
    · rename_i h5; exact hall v (ent_mem_v (hk.2 h5) hv)
  have hnew : ∀ v ∈ (entSlot f y).v, newV rec f (newV rec f v) = newV rec f v := fun v hv => by
    have h := hvals v hv
    unfold newV
    by_cases h2 : f.f2 = 9
    · simp only [if_pos h2]
      rw [h2] at h
      unfold valOk at h
      rw [if_pos rfl] at h
      simp only [Bool.and_eq_true] at h
      cases hm : v.m with
      | nil => rw [hm] at h; simp at h
      | cons u l =>
        cases l with
        | cons => rw [hm] at h; simp at h
        | nil =>
          rw [hm] at h
          simp only [List.headD_cons]
          rw [hr u h.2.2]
    · simp only [if_neg h2]
  have hent : entSlot f (normOf S rec f y) = normOf S rec f y := by
    unfold entSlot
    split
    · rfl
    · rename_i h5
      refine ent_id ?_ ?_
      · unfold normOf entSlot; rw [if_neg h5]; exact ent_rising y
      · unfold normOf entSlot; rw [if_neg h5]; simp [ent_len]
  rw [show normOf S rec f (normOf S rec f y) = ⟨y.no, (entSlot f (normOf S rec f y)).k, (entSlot f (normOf S rec f y)).v.map (newV rec f)⟩ from rfl, hent]
  unfold normOf
  simp only [List.map_map]
  congr 1
  exact List.map_congr_left fun v hv => hnew v hv
/-! a message -/
theorem flat_apart (S : Sch) (rec : Int → Msg → Msg) (m : Int) : ∀ l : List Slot, l.Pairwise (Apart S m) → (l.flatMap (normSlot S rec m)).Pairwise (Apart S m)
  | [], _ => by simp
  | y :: l, h => by
    obtain ⟨h1, h2⟩ := List.pairwise_cons.1 h
    rw [List.flatMap_cons, List.pairwise_append]
    refine ⟨?_, flat_apart S rec m l h2, fun a ha b hb => ?_⟩
    · unfold normSlot
      split
      · simp
      · split <;> simp
    · obtain ⟨z, hz, hb⟩ := List.mem_flatMap.1 hb
      have e1 := normSlot_no ha
      have e2 := normSlot_no hb
      have := h1 z hz
      unfold Apart at this ⊢
      rw [e1, e2]
      exact this
theorem norm_succ (S : Sch) (n : Nat) (m : Int) (x : Msg) : (norm S (n + 1) m x).f = sortNo (x.f.flatMap (normSlot S (norm S n) m)) := by rw [norm]; rfl
/-- What is normal is of its message. -/
theorem norm_msgOk (S : Sch) : ∀ (n : Nat) (m : Int) (x : Msg), msgOk S n m x = true → msgOk S n m (norm S n m x) = true
  | 0, _, _, h => h
  | n + 1, m, x, h => by
    rw [msgOk_iff] at h ⊢
    refine ⟨?_, h.2⟩
    rw [norm_succ]
    refine AllOk.perm ⟨flat_apart S _ m x.f h.1.1, fun z hz => ?_⟩ (sortNo_perm _)
    obtain ⟨y, hy, hz⟩ := List.mem_flatMap.1 hz
    obtain ⟨f, hf, hok⟩ := h.1.2 y hy
    rw [normSlot_some hf] at hz
    split at hz
    · simp at hz
    · simp only [List.mem_singleton] at hz
      subst hz
      exact ⟨f, hf, slotOk_norm (fun u hu => norm_msgOk S n f.f3 u hu) hok⟩
/-- Normal again it is the same. -/
theorem norm_norm (S : Sch) : ∀ (n : Nat) (m : Int) (x : Msg), msgOk S n m x = true → norm S n m (norm S n m x) = norm S n m x
  | 0, _, _, h => rfl
  | n + 1, m, x, h => by
    have hz := norm_msgOk S (n + 1) m x h
    rw [msgOk_iff] at h hz
    have hk : ∀ z ∈ (norm S (n + 1) m x).f, normSlot S (norm S n) m z = [z] := fun z hz => by
      rw [norm_succ, (sortNo_perm _).mem_iff] at hz
      obtain ⟨y, hy, hz⟩ := List.mem_flatMap.1 hz
      obtain ⟨f, hf, hok⟩ := h.1.2 y hy
      rw [normSlot_some hf] at hz
      split at hz
      · simp at hz
      · rename_i hg
        simp only [List.mem_singleton] at hz
        subst hz
        have hf' : S.fl m (normOf S (norm S n) f y).no = some f := hf
        rw [normSlot_some hf', gone_norm hok (by simpa using hg)]
        rw [norm_norm_slot (fun u hu => norm_norm S n f.f3 u hu) hok]
        rfl
    have e : (norm S (n + 1) m x).f.flatMap (normSlot S (norm S n) m) = (norm S (n + 1) m x).f := by
      have : ∀ l : List Slot, (∀ z ∈ l, normSlot S (norm S n) m z = [z]) → l.flatMap (normSlot S (norm S n) m) = l := fun l hl => by
        induction l with
        | nil => rfl
        | cons a l ih => rw [List.flatMap_cons, hl a (by simp), ih fun z hz => hl z (by simp [hz])]; rfl
      exact this _ hk
    conv => lhs; rw [norm]
    rw [e, sortNo_id (by rw [norm_succ]; exact sortNo_sorted _) hz.1.nodup]
    rw [norm_succ]
    rw [norm]
/-! how deep, how great -/
def valW (v : Val) : Nat := 1 + (v.m.map Msg.size).sum
def slotW (y : Slot) : Nat := (y.k.map valW).sum + (y.v.map valW).sum
theorem sum_flatMap {α β : Type} (f : α → List β) (g : β → Nat) : ∀ l : List α, ((l.flatMap f).map g).sum = (l.map fun a => ((f a).map g).sum).sum
  | [] => rfl
  | a :: l => by rw [List.flatMap_cons, List.map_append, List.sum_append, sum_flatMap f g l]; rfl
theorem sum_vals : ∀ l : List Val, (l.map valW).sum = l.length + ((l.flatMap fun v => v.m).map Msg.size).sum
  | [] => rfl
  | v :: l => by rw [List.map_cons, List.sum_cons, sum_vals l, List.flatMap_cons, List.map_append, List.sum_append, List.length_cons]; unfold valW; omega
theorem size_slots (x : Msg) : x.size = (x.f.map slotW).sum := by
  rw [Msg.size_eq]
  unfold Msg.subs Msg.vals
  have h : ∀ l : List Slot, (l.map slotW).sum = (l.flatMap fun s => s.k ++ s.v).length + (((l.flatMap fun s => s.k ++ s.v).flatMap fun v => v.m).map Msg.size).sum := fun l => by
    rw [← sum_vals]
    induction l with
    | nil => rfl
    | cons a l ih => rw [List.map_cons, List.sum_cons, ih, List.flatMap_cons, List.map_append, List.sum_append, List.map_append, List.sum_append]; unfold slotW; omega
  exact (h x.f).symm
theorem sum_perm {l l' : List Nat} (h : l.Perm l') : l.sum = l'.sum := by
  induction h with
  | nil => rfl
  | cons a _ ih => simp [ih]
  | swap a b l => simp; omega
  | trans _ _ h1 h2 => omega
theorem sum_filter_le (g : Nat → Nat) (p : Nat → Bool) : ∀ l : List Nat, ((l.filter p).map g).sum ≤ (l.map g).sum
  | [] => Nat.le_refl _
  | a :: l => by
    have := sum_filter_le g p l
    rw [List.filter_cons]
    split <;> simp <;> omega
theorem pick_le (ks : List Key) (l : List Val) (hl : ks.length = l.length) (w : Val → Nat) : (((ixOf ks).map fun j => l.getD j default).map w).sum ≤ (l.map w).sum := by
  rw [List.map_map]
  have h1 : ((ixOf ks).map (w ∘ fun j => l.getD j default)).sum ≤ ((List.range ks.length).map (w ∘ fun j => l.getD j default)).sum := by
    unfold ixOf
    rw [sum_perm ((List.mergeSort_perm _ _).map _)]
    exact sum_filter_le _ _ _
  have e : (List.range ks.length).map (w ∘ fun j => l.getD j default) = l.map w := by rw [← List.map_map, hl, map_range_getD]
  rw [e] at h1
  exact h1
theorem sum_map_le {α : Type} {g h : α → Nat} : ∀ {l : List α}, (∀ a ∈ l, g a ≤ h a) → (l.map g).sum ≤ (l.map h).sum
  | [], _ => Nat.le_refl _
  | a :: l, k => by
    have h1 := k a (by simp)
    have h2 := sum_map_le (l := l) fun b hb => k b (by simp [hb])
    simp only [List.map_cons, List.sum_cons]
    omega
/-- The messages of values that are of a kind. -/
theorem newV_w {mo : Int → Msg → Bool} {rec : Int → Msg → Msg} {f : S47} {v : Val} (hr : ∀ u, mo f.f3 u = true → (rec f.f3 u).size ≤ u.size) (h : valOk mo f.f2 f.f3 v = true) : valW (newV rec f v) ≤ valW v := by
  unfold newV
  split
  · rename_i h2
    rw [h2] at h
    unfold valOk at h
    rw [if_pos rfl] at h
    simp only [Bool.and_eq_true] at h
    cases hm : v.m with
    | nil => rw [hm] at h; simp at h
    | cons u l =>
      cases l with
      | cons => rw [hm] at h; simp at h
      | nil =>
        rw [hm] at h
        have := hr u h.2.2
        unfold valW
        rw [hm]
        simp
        exact this
  · exact Nat.le_refl _
theorem slotOk_v {mo : Int → Msg → Bool} {f : S47} {y : Slot} (h : slotOk mo f y = true) : ∀ v ∈ y.v, valOk mo f.f2 f.f3 v = true := by
  unfold slotOk at h
  split at h
  · simp only [Bool.and_eq_true] at h; exact fun v hv => List.all_eq_true.1 h.2.2 v hv
  · simp only [Bool.and_eq_true] at h; exact fun v hv => List.all_eq_true.1 h.2.2 v hv
theorem ent_slot_v {mo : Int → Msg → Bool} {f : S47} {y : Slot} (h : slotOk mo f y = true) {v : Val} (hv : v ∈ (entSlot f y).v) : v ∈ y.v := by
  unfold entSlot at hv
  split at hv
  · exact hv
  · rename_i h5; exact ent_mem_v ((slotOk_k h).2 h5) hv
theorem ent_slot_k {f : S47} {y : Slot} {v : Val} (hv : v ∈ (entSlot f y).k) : v ∈ y.k := by
  unfold entSlot at hv
  split at hv
  · exact hv
  · exact ent_mem_k hv
theorem normOf_w {S : Sch} {mo : Int → Msg → Bool} {rec : Int → Msg → Msg} {f : S47} {y : Slot} (hr : ∀ u, mo f.f3 u = true → (rec f.f3 u).size ≤ u.size) (h : slotOk mo f y = true) : slotW (normOf S rec f y) ≤ slotW y := by
  have hv := slotOk_v h
  have h1 : ((normOf S rec f y).v.map valW).sum ≤ ((entSlot f y).v.map valW).sum := by
    unfold normOf
    rw [List.map_map]
    exact sum_map_le fun v hv' => newV_w hr (hv v (ent_slot_v h hv'))
  have h2 : ((entSlot f y).k.map valW).sum ≤ (y.k.map valW).sum ∧ ((entSlot f y).v.map valW).sum ≤ (y.v.map valW).sum := by
    unfold entSlot
    split
    · exact ⟨Nat.le_refl _, Nat.le_refl _⟩
    · rename_i h5
      exact ⟨pick_le _ _ (keysOf_len _) _, pick_le _ _ (by rw [keysOf_len]; exact (slotOk_k h).2 h5) _⟩
  unfold slotW
  have e : (normOf S rec f y).k = (entSlot f y).k := rfl
  rw [e]
  omega
theorem norm_size (S : Sch) : ∀ (n : Nat) (m : Int) (x : Msg), msgOk S n m x = true → (norm S n m x).size ≤ x.size
  | 0, _, _, _ => Nat.le_refl _
  | n + 1, m, x, h => by
    rw [msgOk_iff] at h
    rw [size_slots, size_slots, norm_succ, sum_perm ((sortNo_perm _).map _), sum_flatMap]
    refine sum_map_le fun y hy => ?_
    obtain ⟨f, hf, hok⟩ := h.1.2 y hy
    rw [normSlot_some hf]
    split
    · simp
    · simp only [List.map_cons, List.map_nil, List.sum_cons, List.sum_nil, Nat.add_zero]
      exact normOf_w (fun u hu => norm_size S n f.f3 u hu) hok
theorem foldl_max_le {k : Nat} : ∀ {l : List Nat} {c : Nat}, (∀ a ∈ l, a ≤ k) → c ≤ k → l.foldl max c ≤ k
  | [], _, _, h => h
  | a :: l, c, h, hc => foldl_max_le (l := l) (fun b hb => h b (by simp [hb])) (by have := h a (by simp); omega)
theorem le_foldl_max0 : ∀ (l : List Nat) (c : Nat), c ≤ l.foldl max c
  | [], c => Nat.le_refl c
  | a :: l, c => Nat.le_trans (Nat.le_max_left c a) (le_foldl_max0 l _)
theorem le_foldl_max : ∀ {l : List Nat} {a c : Nat}, a ∈ l → a ≤ l.foldl max c
  | b :: l, a, c, h => by
    rcases List.mem_cons.1 h with rfl | h
    · exact Nat.le_trans (Nat.le_max_right c a) (le_foldl_max0 l _)
    · exact le_foldl_max (l := l) h
theorem deep_le_of {x z : Msg} (h : ∀ u ∈ z.subs, ∃ v ∈ x.subs, u.deep ≤ v.deep) : z.deep ≤ x.deep := by
  rw [Msg.deep_eq, Msg.deep_eq x]
  refine Nat.succ_le_succ (foldl_max_le (fun a ha => ?_) (Nat.zero_le _))
  obtain ⟨u, hu, rfl⟩ := List.mem_map.1 ha
  obtain ⟨v, hv, hle⟩ := h u hu
  exact Nat.le_trans hle (le_foldl_max (List.mem_map.2 ⟨v, hv, rfl⟩))
theorem mem_subs {x u : Msg} : u ∈ x.subs ↔ ∃ y ∈ x.f, ∃ v, (v ∈ y.k ∨ v ∈ y.v) ∧ u ∈ v.m := by
  unfold Msg.subs Msg.vals
  simp only [List.mem_flatMap, List.mem_append]
  constructor
  · rintro ⟨v, ⟨y, hy, hv⟩, hu⟩; exact ⟨y, hy, v, hv, hu⟩
  · rintro ⟨y, hy, v, hv, hu⟩; exact ⟨v, ⟨y, hy, hv⟩, hu⟩
theorem norm_deep (S : Sch) : ∀ (n : Nat) (m : Int) (x : Msg), msgOk S n m x = true → (norm S n m x).deep ≤ x.deep
  | 0, _, _, _ => Nat.le_refl _
  | n + 1, m, x, h => by
    rw [msgOk_iff] at h
    refine deep_le_of fun u hu => ?_
    obtain ⟨z, hz, v, hv, hu⟩ := mem_subs.1 hu
    rw [norm_succ, (sortNo_perm _).mem_iff] at hz
    obtain ⟨y, hy, hz⟩ := List.mem_flatMap.1 hz
    obtain ⟨f, hf, hok⟩ := h.1.2 y hy
    rw [normSlot_some hf] at hz
    split at hz
    · simp at hz
    simp only [List.mem_singleton] at hz
    subst hz
    rcases hv with hv | hv
    · exact ⟨u, mem_subs.2 ⟨y, hy, v, .inl (ent_slot_k hv), hu⟩, Nat.le_refl _⟩
    · obtain ⟨v0, hv0, rfl⟩ := List.mem_map.1 hv
      have hm0 := ent_slot_v hok hv0
      unfold newV at hu
      split at hu
      · rename_i h2
        have hk := slotOk_v hok v0 hm0
        rw [h2] at hk
        unfold valOk at hk
        rw [if_pos rfl] at hk
        simp only [Bool.and_eq_true] at hk
        cases hm : v0.m with
        | nil => rw [hm] at hk; simp at hk
        | cons u0 l =>
          cases l with
          | cons => rw [hm] at hk; simp at hk
          | nil =>
            rw [hm] at hk hu
            simp only [List.headD_cons, List.mem_singleton] at hu
            subst hu
            exact ⟨u0, mem_subs.2 ⟨y, hy, v0, .inr hm0, by rw [hm]; simp⟩, norm_deep S n f.f3 u0 hk.2.2⟩
      · exact ⟨u, mem_subs.2 ⟨y, hy, v0, .inr hm0, hu⟩, Nat.le_refl _⟩
end Go.Proofs.YthikfifoomfjgaaGreat
