/- Contract of table.By: the first field of a message that has a number, by the plain function of this text; it lays new blocks alone. -/
import Derived.Test.YthikfifoomfjgaaGreatPAx1
import Derived.Shelf.Abstract
import Derived.Test.YthikfifoomfjgaaGreatGLib
namespace Go.Proofs.YthikfifoomfjgaaGreat.PA
open Go.RowKit Go.Proofs.YthikfifoomfjgaaGreatW.PrintWords Go.Proofs.YthikfifoomfjgaaGreatW.PrintLast Go.Proofs.YthikfifoomfjgaaGreatW.PrintMore
set_option linter.unusedVariables false
set_option linter.unusedSimpArgs false
def idxOf {α : Type} (p : α → Bool) (xs : List α) : Int := match xs.findIdx? p with
  | some i => i
  | none => -1
theorem idxOf_at {α : Type} (p : α → Bool) (xs : List α) (k : Nat) (hk : k < xs.length) (h : p xs[k] = true) (hb : ∀ j (hj : j < xs.length), j < k → p xs[j] = false) : idxOf p xs = k := by
  unfold idxOf
  rw [List.findIdx?_eq_some_iff_getElem.2 ⟨hk, h, fun j hj => by simp [hb j (by omega) hj]⟩]
theorem idxOf_none {α : Type} (p : α → Bool) (xs : List α) (hb : ∀ j (hj : j < xs.length), p xs[j] = false) : idxOf p xs = -1 := by
  unfold idxOf
  rw [List.findIdx?_eq_none_iff.2 fun x hx => by obtain ⟨j, hj, rfl⟩ := List.mem_iff_getElem.1 hx; exact hb j hj]
theorem idxOf_cases {α : Type} (p : α → Bool) (xs : List α) :
    (idxOf p xs = -1 ∧ ∀ j (hj : j < xs.length), p xs[j] = false) ∨ ∃ k, ∃ hk : k < xs.length, idxOf p xs = (k : Int) ∧ p xs[k] = true ∧ ∀ j (hj : j < xs.length), j < k → p xs[j] = false := by
  unfold idxOf
  cases h : xs.findIdx? p with
  | none =>
    refine .inl ⟨rfl, fun j hj => ?_⟩
    exact List.findIdx?_eq_none_iff.1 h _ (List.getElem_mem hj)
  | some k =>
    obtain ⟨hk, h1, h2⟩ := List.findIdx?_eq_some_iff_getElem.1 h
    exact .inr ⟨k, hk, rfl, h1, fun j hj hjk => by simpa using h2 j hjk⟩
def c47 (x : S47) : Array Value := #[.int .i64 x.f0, .string x.f1, .int .i64 x.f2, .int .i64 x.f3, .bool x.f4, .int .i64 x.f5, .int .i64 x.f6]
set_option maxHeartbeats 1000000 in
theorem indexFunc_field (p : S47 → Bool) (g : Nat) (caps : Array Value) (eg : ∀ args w, (callFunc g args).run Tryz.prog w = .ok (.enter g args) w)
    (Ok : World → Prop) (hOk : ∀ w w', Ok w → Below w.heap.size w w' → Ok w')
    (hg : ∀ w x, Ok w → Calls Tryz.prog g (#[.agg #[.int .i64 x.f0, .string x.f1, .int .i64 x.f2, .int .i64 x.f3, .bool x.f4, .int .i64 x.f5, .int .i64 x.f6]] ++ caps) w fun e w' => e = .returned (.bool (p x)) ∧ Below w.heap.size w w')
    (w : World) (A : Option Addr) (c : Nat) (xs : List S47) (hx : Kd.C k47 w A xs.length xs) (hok : Ok w) :
    Calls Tryz.prog 117 #[.slice A xs.length c, .func (.func g) #[] caps] w fun e w' => e = .returned (.int .i64 (idxOf p xs)) ∧ Below w.heap.size w w' := by
  have HX := Lib.hid (fun wr (hb : Below w.heap.size w wr) => Kd.C_below hx hb)
  have HG := Lib.hid hg
  have HO := Lib.hid fun wr (hb : Below w.heap.size w wr) => hOk w wr hok hb
  clear hg
  have hlen : xs.length ≤ 9223372036854775807 := hx.2.1
  clear hx
  go_enter Tryz.func117, Tryz.ntmps117
  go_wp2
  go_loopw [8] (fun i wr => ∃ k : Nat, k ≤ xs.length ∧ i = .int .i64 k ∧ Below w.heap.size w wr ∧ Hid (∀ j (h1 : j < xs.length), j < k → p xs[j] = false)) (fun i _ => xs.length - (intOf i).toNat)
  case atStart => exact ⟨0, by omega, rfl, Below.refl _ _, (fun j h1 h => absurd h (by omega))⟩
  case round =>
    obtain ⟨k, hk, rfl, hb, hall⟩ := hrel
    by_cases hlt : k < xs.length
    · obtain ⟨ad, e0, m0, m1, m2, m3, m4, m5, m6⟩ := at_T47 (HX.out wr hb) k (by omega) (by omega)
      subst e0
      have eg' : rd_T47 xs (k : Int) = xs[k] := by simp [rd_T47, hlt]
      rw [eg'] at m0 m1 m2 m3 m4 m5 m6
      clear eg'
      simp only [Int.toNat_natCast] at m0 m1 m2 m3 m4 m5 m6
      have HC := Lib.hid (fun w' (hb' : Below wr.heap.size wr w') => HG.out w' xs[k] (hOk _ _ (HO.out wr hb) hb'))
      cases hq : p xs[k] with
      | false =>
        have hnew : ∀ j (h1 : j < xs.length), j < k + 1 → p xs[j] = false := by
          intro j h1 hj
          rcases Nat.lt_or_ge j k with h | h
          · exact hall.out j h1 h
          · have : j = k := by omega
            subst this; exact hq
        have HN := Lib.hid hnew
        rw [hq] at HC
        clear hnew hq
        go_wp2
        refine (HC.out _ (Below.refl _ _)).mono ?_; rintro e w' ⟨rfl, b'⟩
        go_wp2
        refine ⟨⟨k + 1, by omega, rfl, hb.nx b', HN.out⟩, ?_⟩
        simp only [intOf, Int.toNat_natCast]
        omega
      | true =>
        have HN := Lib.hid (idxOf_at p xs k hlt hq hall.out)
        rw [hq] at HC
        clear hq
        go_wp2
        refine (HC.out _ (Below.refl _ _)).mono ?_; rintro e w' ⟨rfl, b'⟩
        go_wp2
        exact ⟨rfl, _, results_tmp (t := 4) rfl _ _ _, by rw [HN.out]; rfl, hb.nx b'⟩
    · have hkl : k = xs.length := by omega
      have HN := Lib.hid (idxOf_none p xs fun j h1 => hall.out j h1 (by omega))
      subst hkl
      go_wp2
      exact ⟨rfl, _, results_tmp (t := 4) rfl _ _ _, by rw [HN.out]; rfl, hb⟩
/-- A cell that holds a number. -/
def IntAt (b : Nat) (x : Int) (w : World) : Prop := w.cell? ⟨b, 0, none⟩ = some (.int .i64 x)
theorem intAt_below (b : Nat) (x : Int) (w w' : World) (h : IntAt b x w) (hb : Below w.heap.size w w') : IntAt b x w' := (hb.cell (World.block_lt_of_cell? w _ h)).trans h
def isNo (no : Int) (x : S47) : Bool := decide (x.f0 = no)
theorem by_1 (b : Nat) (no : Int) (w : World) (x : S47) (hok : IntAt b no w) :
    Calls Tryz.prog 91 (#[.agg #[.int .i64 x.f0, .string x.f1, .int .i64 x.f2, .int .i64 x.f3, .bool x.f4, .int .i64 x.f5, .int .i64 x.f6]] ++ #[.pointer (some ⟨b, 0, none⟩)]) w fun e w' => e = .returned (.bool (isNo no x)) ∧ Below w.heap.size w w' := by
  have hc := hok
  unfold IntAt at hc
  have bl := World.block_lt_of_cell? w _ hc
  clear hok
  show Calls Tryz.prog 91 #[.agg #[.int .i64 x.f0, .string x.f1, .int .i64 x.f2, .int .i64 x.f3, .bool x.f4, .int .i64 x.f5, .int .i64 x.f6], .pointer (some ⟨b, 0, none⟩)] w _
  go_enter Tryz.func91, Tryz.ntmps91
  go_wp2
  exact ⟨rfl, _, results_tmp (t := 3) rfl _ _ _, rfl, al1 _ _⟩
/-- The field of a message of which something is so. -/
def fieldAt (l : List S58) (m : Int) (p : S47 → Bool) : Option S47 := if 0 ≤ m ∧ m < l.length then (rd_T58 l m).f1.find? p else none
def fieldIs (o : Option S47) : Int × ByteArray × Int × Int × Bool × Int × Int × Bool := match o with
  | some x => (x.f0, x.f1, x.f2, x.f3, x.f4, x.f5, x.f6, true)
  | none => (0, (⟨#[]⟩ : ByteArray), 0, 0, false, 0, 0, false)
theorem field_out {l : List S58} {m : Int} {p : S47 → Bool} (h : ¬ (0 ≤ m ∧ m < l.length)) : fieldAt l m p = none := if_neg h
theorem field_none {l : List S58} {m : Int} {p : S47 → Bool} (h : ∀ j (hj : j < (rd_T58 l m).f1.length), p (rd_T58 l m).f1[j] = false) : fieldAt l m p = none := by
  unfold fieldAt
  split
  · rw [List.find?_eq_none]
    intro x hx
    obtain ⟨j, hj, rfl⟩ := List.mem_iff_getElem.1 hx
    simp [h j hj]
  · rfl
theorem field_some {l : List S58} {m : Int} {p : S47 → Bool} (hm : 0 ≤ m ∧ m < l.length) {k : Nat} (hk : k < (rd_T58 l m).f1.length) (h : p (rd_T58 l m).f1[k] = true) (hb : ∀ j (hj : j < (rd_T58 l m).f1.length), j < k → p (rd_T58 l m).f1[j] = false) : fieldAt l m p = some (rd_T58 l m).f1[k] := by
  unfold fieldAt
  rw [if_pos hm, List.find?_eq_some_iff_getElem.2 ⟨h, k, hk, rfl, fun j hj => by simp [hb j (by omega) hj]⟩]
section
attribute [local go_sem] run_store
set_option maxHeartbeats 2000000 in
set_option maxRecDepth 100000 in
/-- table.find: is: whatever function value that answers by a plain test. -/
theorem table_find (p : S47 → Bool) (g : Nat) (caps : Array Value) (eg : ∀ args w, (callFunc g args).run Tryz.prog w = .ok (.enter g args) w)
    (Ok : World → Prop) (hOk : ∀ w w', Ok w → Below w.heap.size w w' → Ok w')
    (hg : ∀ w x, Ok w → Calls Tryz.prog g (#[.agg #[.int .i64 x.f0, .string x.f1, .int .i64 x.f2, .int .i64 x.f3, .bool x.f4, .int .i64 x.f5, .int .i64 x.f6]] ++ caps) w fun e w' => e = .returned (.bool (p x)) ∧ Below w.heap.size w w')
    (A0_0 : Option Addr) (c0_0 : Nat) (l0_0 : List (S58)) (A0_1 : Option Addr) (c0_1 : Nat) (n0_1 : Nat) (a1 : Int) (r1 : Int) (r2 : ByteArray) (r3 : Int) (r4 : Int) (r5 : Bool) (r6 : Int) (r7 : Int) (r8 : Bool) (w : World) (hr0_0 : Kd.C k58 w A0_0 l0_0.length l0_0) (hok : Ok w)
    (h : fieldIs (fieldAt l0_0 a1 p) = (r1, r2, r3, r4, r5, r6, r7, r8)) :
    Calls Tryz.prog 90 #[.agg #[.slice A0_0 l0_0.length c0_0, .slice A0_1 n0_1 c0_1], .int .i64 a1, .func (.func g) #[] caps] w fun e w' => e = .returned (.tuple #[.agg #[.int .i64 r1, .string r2, .int .i64 r3, .int .i64 r4, .bool r5, .int .i64 r6, .int .i64 r7], .bool r8]) ∧ Below w.heap.size w w' := by
  have hlen : l0_0.length ≤ 9223372036854775807 := hr0_0.2.1
  by_cases hm : 0 ≤ a1 ∧ a1 < l0_0.length
  · have hin : table_in.f a1 0 ((l0_0.length : Int) - 1) = some true := by
      unfold table_in.f
      rw [if_pos (by omega)]; simp; omega
    have HIN := Lib.hid hin
    have HI := Lib.hid fun w' (hb : Below w.heap.size w w') A c xs hx => indexFunc_field p g caps eg Ok hOk hg w' A c xs hx (hOk _ _ hok hb)
    obtain ⟨ad, A1, c1, rfl, m0, m1, hl1, hC⟩ := at_T58 hr0_0 a1 hm.1 hm.2
    have HC := Lib.hid hC
    have bl := World.block_lt_of_cell? w _ m1
    rcases idxOf_cases p (rd_T58 l0_0 a1).f1 with ⟨hi, hall⟩ | ⟨k, hk, hi, hp, hb⟩
    · rw [field_none hall] at h
      have HS := Lib.hid hi
      simp only [fieldIs, Prod.mk.injEq] at h
      obtain ⟨rfl, rfl, rfl, rfl, rfl, rfl, rfl, rfl⟩ := h
      obtain ⟨hm0, hm1⟩ := hm
      clear hin hg hi hall hC hr0_0
      go_enter Tryz.func90, Tryz.ntmps90
      go_wp2_with (first | (go_at_call 67; (with_reducible refine (table_in.calls _ _ _ _ _ HIN.out).mono ?_); rintro e w' ⟨rfl, ⟨nq, rfl⟩⟩))
      refine (HI.out _ (pw_below_drewN (below2 _ _ _) _) _ _ _ (Kd.C_below HC.out (pw_below_drewN (below2 _ _ _) _))).mono ?_
      rw [HS.out]
      rintro e w' ⟨rfl, b'⟩
      have HZ := Lib.hid (after2 b')
      clear b'
      have f1 : ∀ o, w'.frozen? ⟨w.heap.size + 1, o, none⟩ = false := blk_frozen HZ.out.1
      have z0 := blk_cell HZ.out.1 0
      have z1 := blk_cell HZ.out.1 1
      have z2 := blk_cell HZ.out.1 2
      have z3 := blk_cell HZ.out.1 3
      have z4 := blk_cell HZ.out.1 4
      have z5 := blk_cell HZ.out.1 5
      have z6 := blk_cell HZ.out.1 6
      simp at z0 z1 z2 z3 z4 z5 z6
      go_wp2
      refine bodyPost_ret (results_ct rfl _ _ (w.heap.size + 1) 47 #[.int .i64 0, .string (⟨#[]⟩ : ByteArray), .int .i64 0, .int .i64 0, .bool false, .int .i64 0, .int .i64 0] (0, 0) _ rfl (blk7 HZ.out.1 _ _ _ _ _ _ _) Tryz.underlying47 rfl (by kernel_rfl)) rfl ⟨rfl, ?_⟩
      exact below7 HZ.out.2.1 (by omega) _ _ _ _ _ _ _
    · rw [field_some hm hk hp hb] at h
      have HS := Lib.hid hi
      simp only [fieldIs, Prod.mk.injEq] at h
      obtain ⟨rfl, rfl, rfl, rfl, rfl, rfl, rfl, rfl⟩ := h
      obtain ⟨hm0, hm1⟩ := hm
      obtain ⟨ad2, e2, q0, q1, q2, q3, q4, q5, q6⟩ := at_T47 hC k (by omega) (by omega)
      cases e2
      have eg' : rd_T47 (rd_T58 l0_0 a1).f1 (k : Int) = (rd_T58 l0_0 a1).f1[k] := by simp [rd_T47, hk]
      rw [eg'] at q0 q1 q2 q3 q4 q5 q6
      clear eg'
      simp only [Int.toNat_natCast] at q0 q1 q2 q3 q4 q5 q6
      have bk := World.block_lt_of_cell? w _ q0
      have hlt0 : decide ((k : Int) < 0) = false := by simp
      clear hin hg hi hC hr0_0 hb hp
      go_enter Tryz.func90, Tryz.ntmps90
      go_wp2_with (first | (go_at_call 67; (with_reducible refine (table_in.calls _ _ _ _ _ HIN.out).mono ?_); rintro e w' ⟨rfl, ⟨nq, rfl⟩⟩))
      refine (HI.out _ (pw_below_drewN (below2 _ _ _) _) _ _ _ (Kd.C_below HC.out (pw_below_drewN (below2 _ _ _) _))).mono ?_
      rw [HS.out]
      rintro e w' ⟨rfl, b'⟩
      have HZ := Lib.hid (after2 b')
      clear b'
      have f1 : ∀ o, w'.frozen? ⟨w.heap.size + 1, o, none⟩ = false := blk_frozen HZ.out.1
      have z0 := blk_cell HZ.out.1 0
      have z1 := blk_cell HZ.out.1 1
      have z2 := blk_cell HZ.out.1 2
      have z3 := blk_cell HZ.out.1 3
      have z4 := blk_cell HZ.out.1 4
      have z5 := blk_cell HZ.out.1 5
      have z6 := blk_cell HZ.out.1 6
      have s0 := blk_cell HZ.out.2.2 0
      have s1 := blk_cell HZ.out.2.2 1
      simp at z0 z1 z2 z3 z4 z5 z6 s0 s1
      replace q0 := (HZ.out.2.1.cell (World.block_lt_of_cell? w _ q0)).trans q0
      replace q1 := (HZ.out.2.1.cell (World.block_lt_of_cell? w _ q1)).trans q1
      replace q2 := (HZ.out.2.1.cell (World.block_lt_of_cell? w _ q2)).trans q2
      replace q3 := (HZ.out.2.1.cell (World.block_lt_of_cell? w _ q3)).trans q3
      replace q4 := (HZ.out.2.1.cell (World.block_lt_of_cell? w _ q4)).trans q4
      replace q5 := (HZ.out.2.1.cell (World.block_lt_of_cell? w _ q5)).trans q5
      replace q6 := (HZ.out.2.1.cell (World.block_lt_of_cell? w _ q6)).trans q6
      replace m0 := (HZ.out.2.1.cell (World.block_lt_of_cell? w _ m0)).trans m0
      replace m1 := (HZ.out.2.1.cell (World.block_lt_of_cell? w _ m1)).trans m1
      go_wp2
      refine bodyPost_ret (results_ct rfl _ _ (w.heap.size + 1) 47 #[_, _, _, _, _, _, _] (0, 0) _ rfl (blk7 HZ.out.1 _ _ _ _ _ _ _) Tryz.underlying47 rfl (by kernel_rfl)) rfl ⟨rfl, ?_⟩
      exact below7 HZ.out.2.1 (by omega) _ _ _ _ _ _ _
  · have hin : table_in.f a1 0 ((l0_0.length : Int) - 1) = some false := by
      unfold table_in.f
      by_cases h1 : a1 ≥ 0
      · rw [if_pos h1]; simp; omega
      · rw [if_neg h1]
    have HIN := Lib.hid hin
    rw [field_out hm] at h
    simp only [fieldIs, Prod.mk.injEq] at h
    obtain ⟨rfl, rfl, rfl, rfl, rfl, rfl, rfl, rfl⟩ := h
    clear hin hm hg
    go_enter Tryz.func90, Tryz.ntmps90
    go_wp2_with (first | (go_at_call 67; (with_reducible refine (table_in.calls _ _ _ _ _ HIN.out).mono ?_); rintro e w' ⟨rfl, ⟨nq, rfl⟩⟩))
    refine bodyPost_ret (results_ct rfl _ _ (w.heap.size + 1) 47 #[.int .i64 0, .string (⟨#[]⟩ : ByteArray), .int .i64 0, .int .i64 0, .bool false, .int .i64 0, .int .i64 0] (0, 0) _ rfl (blk7 (blk_two _ _ _) _ _ _ _ _ _ _) Tryz.underlying47 rfl (by kernel_rfl)) rfl ⟨rfl, ?_⟩
    exact below7 (pw_below_drewN (below2 _ _ _) _) (by omega) _ _ _ _ _ _ _
def table_By.f (l0_0 : List (S58)) (l0_1 : List (S79)) (a1 : Int) (a2 : Int) : Option (Int × ByteArray × Int × Int × Bool × Int × Int × Bool) := some (fieldIs (fieldAt l0_0 a1 (isNo a2)))
set_option maxHeartbeats 2000000 in
set_option maxRecDepth 100000 in
theorem table_By.calls (A0_0 : Option Addr) (c0_0 : Nat) (l0_0 : List (S58)) (A0_1 : Option Addr) (c0_1 : Nat) (l0_1 : List (S79)) (a1 : Int) (a2 : Int) (r1 : Int) (r2 : ByteArray) (r3 : Int) (r4 : Int) (r5 : Bool) (r6 : Int) (r7 : Int) (r8 : Bool) (w : World) (hr0_0 : Kd.C k58 w A0_0 l0_0.length l0_0) (hc0_0 : l0_0.length ≤ c0_0) (hr0_1 : Kd.C k79 w A0_1 l0_1.length l0_1) (hc0_1 : l0_1.length ≤ c0_1) (h : table_By.f l0_0 l0_1 a1 a2 = some (r1, r2, r3, r4, r5, r6, r7, r8)) :
    Calls Tryz.prog 54 #[.agg #[.slice A0_0 l0_0.length c0_0, .slice A0_1 l0_1.length c0_1], .int .i64 a1, .int .i64 a2] w fun e w' => e = .returned (.tuple #[.agg #[.int .i64 r1, .string r2, .int .i64 r3, .int .i64 r4, .bool r5, .int .i64 r6, .int .i64 r7], .bool r8]) ∧ Below w.heap.size w w' := by
  have h' := Option.some.inj h
  have HF := Lib.hid fun w' (hb : Below w.heap.size w w') b (hi : IntAt b a2 w') => table_find (isNo a2) 91 #[.pointer (some ⟨b, 0, none⟩)] (Go.Proofs.enters_of Tryz.func91 (by kernel_rfl) rfl)
    (IntAt b a2) (intAt_below b a2) (fun w x => by_1 b a2 w x) A0_0 c0_0 l0_0 A0_1 c0_1 l0_1.length a1 r1 r2 r3 r4 r5 r6 r7 r8 w' (Kd.C_below hr0_0 hb) hi h'
  clear h h' hr0_0 hr0_1
  go_enter Tryz.func54, Tryz.ntmps54
  go_wp2_with fail
  refine (HF.out _ (below3 _ _ _ _) (w.heap.size + 1) (by unfold IntAt; exact (blk_cell (blk_31 _ _ _ _) 0).trans rfl)).mono ?_
  rintro e w' ⟨rfl, b'⟩
  have HZ := Lib.hid (after3 b')
  clear b'
  have f1 : ∀ o, w'.frozen? ⟨w.heap.size + 2, o, none⟩ = false := blk_frozen HZ.out.1
  have z0 := blk_cell HZ.out.1 0
  have z1 := blk_cell HZ.out.1 1
  have z2 := blk_cell HZ.out.1 2
  have z3 := blk_cell HZ.out.1 3
  have z4 := blk_cell HZ.out.1 4
  have z5 := blk_cell HZ.out.1 5
  have z6 := blk_cell HZ.out.1 6
  simp at z0 z1 z2 z3 z4 z5 z6
  go_wp2
  refine bodyPost_ret (results_ct rfl _ _ (w.heap.size + 2) 47 #[_, _, _, _, _, _, _] (0, 0) _ rfl (blk7 HZ.out.1 _ _ _ _ _ _ _) Tryz.underlying47 rfl (by kernel_rfl)) rfl ⟨rfl, ?_⟩
  exact below7 HZ.out.2 (by omega) _ _ _ _ _ _ _
end
end Go.Proofs.YthikfifoomfjgaaGreat.PA
