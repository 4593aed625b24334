/- value.each at slots, values and messages: a new row, each element in blocks of its own, one behind the other. value.Own's tree, each part in blocks of its own, one part behind the other. -/
import Derived.Test.YthikfifoomfjgaaGreatEach
import Derived.Test.YthikfifoomfjgaaGreatOwn
namespace Go.Tr
open Go.RowKit
set_option linter.unusedVariables false
set_option linter.unusedSimpArgs false
/-- Blocks that stay as they are. -/
def Stay (lo hi : Nat) (w w' : World) : Prop := ∀ k, lo ≤ k → k < hi → w'.heap[k]? = w.heap[k]?
theorem Stay.refl (lo hi : Nat) (w : World) : Stay lo hi w w := fun _ _ _ => rfl
theorem Stay.trans {lo hi : Nat} {a b c : World} (h : Stay lo hi a b) (k : Stay lo hi b c) : Stay lo hi a c := fun q h1 h2 => (k q h1 h2).trans (h q h1 h2)
theorem Stay.sub {lo hi lo' hi' : Nat} {a b : World} (h : Stay lo hi a b) (h1 : lo ≤ lo') (h2 : hi' ≤ hi) : Stay lo' hi' a b := fun q h3 h4 => h q (by omega) (by omega)
theorem Stay.of_below {lo hi : Nat} {a b : World} (h : Below a.heap.size a b) (hh : hi ≤ a.heap.size) : Stay lo hi a b := fun q _ h2 => h.block q (by omega)
theorem Stay.of_grown {lo hi g : Nat} {a b : World} (h : a.grownBy b (some g)) (hh : hi ≤ a.heap.size) (hg : g < lo ∨ hi ≤ g) : Stay lo hi a b := fun q h1 h2 => h.block q (by omega) (by simp; omega)
theorem Stay.set {lo hi : Nat} {a b : World} (h : Stay lo hi a b) {p : Addr} (hp : p.block < lo ∨ hi ≤ p.block) (u : Value) : Stay lo hi a (b.setCell p u) := fun q h1 h2 => (heap_setCell_other b p q u (by omega)).trans (h q h1 h2)
def StayR {α : Type} (R : Nat → Nat → World → List Value → α → Prop) : Prop := ∀ lo hi w w' cs x, Stay lo hi w w' → R lo hi w cs x → R lo hi w' cs x
def WideR {α : Type} (R : Nat → Nat → World → List Value → α → Prop) : Prop := ∀ lo hi lo' hi' w cs x, lo' ≤ lo → hi ≤ hi' → R lo hi w cs x → R lo' hi' w cs x
/-- Bounds up to k stay; behind it there is one. -/
def upd (b : Nat → Nat) (k v : Nat) : Nat → Nat := fun t => if t ≤ k then b t else v
/-- The first i elements of a row, each within bounds of its own. -/
def PartI {α : Type} (k : Nat) (R : Nat → Nat → List Value → α → Prop) (b : Nat → Nat) (ys : List Value) (xs : List α) (i : Nat) : Prop :=
  (∀ t, t < i → b t ≤ b (t + 1)) ∧ ∀ t (h : t < xs.length), t < i → ∃ cs, cs.length = k ∧ (∀ j u, cs[j]? = some u → ys[t * k + j]? = some u) ∧ R (b t) (b (t + 1)) cs xs[t]
/-- A row of one's own, made in one piece; its elements lie behind it, one behind the other. -/
def MadeI {α : Type} (e k B H : Nat) (w : World) (R : Nat → Nat → List Value → α → Prop) (v : Value) (xs : List α) : Prop :=
  (xs = [] ∧ v = .slice none 0 0) ∨ ∃ g ys b, v = .slice (some ⟨g, 0, none⟩) xs.length xs.length ∧ w.ownsRow B e k v xs.length ys ∧ g < b 0 ∧ b xs.length ≤ H ∧ PartI k R b ys xs xs.length
theorem PartI.zero {α : Type} (k : Nat) (R : Nat → Nat → List Value → α → Prop) (b : Nat → Nat) (ys : List Value) (xs : List α) : PartI k R b ys xs 0 := ⟨fun t ht => absurd ht (by omega), fun t ht hi => absurd hi (by omega)⟩
theorem chain_le {b : Nat → Nat} {i : Nat} (h : ∀ t, t < i → b t ≤ b (t + 1)) : ∀ s t, s ≤ t → t ≤ i → b s ≤ b t
  | s, 0, h1, _ => by have : s = 0 := by omega
                      subst this; exact Nat.le_refl _
  | s, t + 1, h1, h2 => by
    by_cases e : s = t + 1
    · subst e; exact Nat.le_refl _
    · exact Nat.le_trans (chain_le h s t (by omega) (by omega)) (h t (by omega))
theorem PartI.imp {α : Type} {k : Nat} {R R' : Nat → Nat → List Value → α → Prop} {b : Nat → Nat} {ys : List Value} {xs : List α} {i : Nat} (h : PartI k R b ys xs i) (hR : ∀ lo hi cs x, x ∈ xs → b 0 ≤ lo → hi ≤ b i → R lo hi cs x → R' lo hi cs x) : PartI k R' b ys xs i :=
  ⟨h.1, fun t ht hi => by
    obtain ⟨cs, h1, h2, h3⟩ := h.2 t ht hi
    exact ⟨cs, h1, h2, hR _ _ _ _ (List.getElem_mem ht) (chain_le h.1 0 t (by omega) (by omega)) (chain_le h.1 (t + 1) i (by omega) (Nat.le_refl _)) h3⟩⟩
theorem upd_chain {b : Nat → Nat} {k v : Nat} (h : ∀ t, t < k → b t ≤ b (t + 1)) (hv : b k ≤ v) : ∀ t, t < k + 1 → upd b k v t ≤ upd b k v (t + 1) := fun t ht => by
  unfold upd
  by_cases e : t = k
  · subst e; rw [if_pos (Nat.le_refl _), if_neg (by omega)]; exact hv
  · rw [if_pos (by omega), if_pos (by omega)]; exact h t (by omega)
theorem PartI.old {α : Type} {kk k : Nat} {R' : Nat → Nat → World → List Value → α → Prop} (hK : StayR R') {wr w' w'' : World} {b : Nat → Nat} {ys : List Value} {xs : List α} (h : PartI kk (fun lo hi => R' lo hi wr) b ys xs k) {g : Nat} (h0 : g < b 0) (hbk : b k ≤ wr.heap.size) (b' : Below wr.heap.size wr w') (hw : w'.grownBy w'' (some g)) :
    PartI kk (fun lo hi => R' lo hi w'') b ys xs k := h.imp fun lo hi cs x _ h1 h2 hr => hK lo hi _ _ cs x ((Stay.of_below b' (by omega)).trans (Stay.of_grown hw (by have := b'.size; omega) (.inl (by omega)))) hr
theorem PartI.step3 {α : Type} {R' : Nat → Nat → World → List Value → α → Prop} (hK : StayR R') (hM : WideR R') {wr w' w'' : World} {b : Nat → Nat} {ys : List Value} {xs : List α} {k : Nat} (h : PartI 3 (fun lo hi => R' lo hi wr) b ys xs k) (hi : k < xs.length) (hy : ys.length = xs.length * 3) (d0 d1 d2 : Value) (rd : R' wr.heap.size w'.heap.size w' [d0, d1, d2] xs[k])
    {g : Nat} (h0 : g < b 0) (hbk : b k ≤ wr.heap.size) (b' : Below wr.heap.size wr w') (hw : w'.grownBy w'' (some g)) :
    g < upd b k w'.heap.size 0 ∧ upd b k w'.heap.size (k + 1) ≤ w''.heap.size ∧ PartI 3 (fun lo hi => R' lo hi w'') (upd b k w'.heap.size) (((ys.set (k * 3) d0).set (k * 3 + 1) d1).set (k * 3 + 2) d2) xs (k + 1) := by
  have hs := b'.size
  have hk0 := chain_le h.1 0 k (Nat.zero_le _) (Nat.le_refl _)
  refine ⟨by unfold upd; simpa using h0, by unfold upd; rw [if_neg (by omega)]; exact hw.size, upd_chain h.1 (by omega), fun t ht hti => ?_⟩
  have ho := h.old hK h0 hbk b' hw
  by_cases e : t = k
  · subst e
    refine ⟨[d0, d1, d2], rfl, fun j u hj => ?_, ?_⟩
    · have hb : j < 3 := by have := (List.getElem?_eq_some_iff.1 hj).1; simpa using this
      match j, hb with
      | 0, _ => rw [List.getElem?_set_ne (by omega), List.getElem?_set_ne (by omega), Nat.add_zero, List.getElem?_set_self (by omega)]; simpa using hj
      | 1, _ => rw [List.getElem?_set_ne (by omega), List.getElem?_set_self (by simp; omega)]; simpa using hj
      | 2, _ => rw [List.getElem?_set_self (by simp; omega)]; simpa using hj
    · unfold upd
      rw [if_pos (Nat.le_refl _), if_neg (by omega)]
      exact hM _ _ _ _ _ _ _ hbk (Nat.le_refl _) (hK _ _ _ _ _ _ (Stay.of_grown hw (Nat.le_refl _) (.inl (by omega))) rd)
  · obtain ⟨cs, h1, h2, h3⟩ := ho.2 t ht (by omega)
    refine ⟨cs, h1, fun j u hj => ?_, ?_⟩
    · have hb : j < 3 := by have := (List.getElem?_eq_some_iff.1 hj).1; omega
      rw [List.getElem?_set_ne (by omega), List.getElem?_set_ne (by omega), List.getElem?_set_ne (by omega)]
      exact h2 j u hj
    · unfold upd
      rw [if_pos (by omega), if_pos (by omega)]
      exact h3
theorem PartI.step1 {α : Type} {R' : Nat → Nat → World → List Value → α → Prop} (hK : StayR R') (hM : WideR R') {wr w' w'' : World} {b : Nat → Nat} {ys : List Value} {xs : List α} {k : Nat} (h : PartI 1 (fun lo hi => R' lo hi wr) b ys xs k) (hi : k < xs.length) (hy : ys.length = xs.length * 1) (d0 : Value) (rd : R' wr.heap.size w'.heap.size w' [d0] xs[k])
    {g : Nat} (h0 : g < b 0) (hbk : b k ≤ wr.heap.size) (b' : Below wr.heap.size wr w') (hw : w'.grownBy w'' (some g)) :
    g < upd b k w'.heap.size 0 ∧ upd b k w'.heap.size (k + 1) ≤ w''.heap.size ∧ PartI 1 (fun lo hi => R' lo hi w'') (upd b k w'.heap.size) (ys.set k d0) xs (k + 1) := by
  have hs := b'.size
  have hk0 := chain_le h.1 0 k (Nat.zero_le _) (Nat.le_refl _)
  refine ⟨by unfold upd; simpa using h0, by unfold upd; rw [if_neg (by omega)]; exact hw.size, upd_chain h.1 (by omega), fun t ht hti => ?_⟩
  have ho := h.old hK h0 hbk b' hw
  by_cases e : t = k
  · subst e
    refine ⟨[d0], rfl, fun j u hj => ?_, ?_⟩
    · have hb : j < 1 := by have := (List.getElem?_eq_some_iff.1 hj).1; simpa using this
      match j, hb with
      | 0, _ => rw [show t * 1 + 0 = t by omega, List.getElem?_set_self (by omega)]; simpa using hj
    · unfold upd
      rw [if_pos (Nat.le_refl _), if_neg (by omega)]
      exact hM _ _ _ _ _ _ _ hbk (Nat.le_refl _) (hK _ _ _ _ _ _ (Stay.of_grown hw (Nat.le_refl _) (.inl (by omega))) rd)
  · obtain ⟨cs, h1, h2, h3⟩ := ho.2 t ht (by omega)
    refine ⟨cs, h1, fun j u hj => ?_, ?_⟩
    · have hb : j < 1 := by have := (List.getElem?_eq_some_iff.1 hj).1; omega
      rw [List.getElem?_set_ne (by omega)]
      exact h2 j u hj
    · unfold upd
      rw [if_pos (by omega), if_pos (by omega)]
      exact h3
end Go.Tr
namespace Go.Proofs.YthikfifoomfjgaaGreat
open Go.RowKit Go.Tr
set_option linter.unusedVariables false
set_option linter.unusedSimpArgs false
section
attribute [local go_sem] run_store Option.isNone_none Option.isNone_some
set_option maxHeartbeats 1000000 in
theorem eachI_slot {α : Type} (L B : Nat) (hL : L ≤ 1099511627776) (R : World → List Value → α → Prop) (hR : Stands R) (h3 : Three R) (R' : Nat → Nat → World → List Value → α → Prop) (hK : StayR R') (hM : WideR R') (h3' : ∀ lo hi, Three (R' lo hi))
    (g : Nat) (eg : ∀ args w, (callFunc g args).run Tryz.prog w = .ok (.enter g args) w)
    (hg : ∀ w cs x, R w cs x → Calls Tryz.prog g #[.agg cs.toArray] w fun e w' => ∃ ds, e = .returned (.agg ds.toArray) ∧ R' w.heap.size w'.heap.size w' ds x ∧ Below w.heap.size w w')
    (w : World) (v : Value) (xs : List α) (hx : RowOf L B w 3 (R w) v xs) :
    Calls Tryz.prog 60 #[v, .func (.func g) #[] #[]] w fun e w' => ∃ v', e = .returned v' ∧ MadeI 35 3 w.heap.size w'.heap.size w' (fun lo hi => R' lo hi w') v' xs ∧ Below w.heap.size w w' := by
  have HX := Lib.hid (fun wr (hb : Below w.heap.size w wr) => hx.imp hb fun cs x _ h => hR w wr cs x hb h)
  have HG := Lib.hid hg
  have HK := Lib.hid hK
  have HM := Lib.hid hM
  have H3 := Lib.hid h3'
  clear hg hK hM h3'
  obtain ⟨a1, cap1, rfl, q0, q1, q2, qn, -⟩ := hx
  unfold maxLen at q2
  have HN := Lib.hid qn
  clear qn
  cases a1 with
  | none =>
    have hz := HN.out rfl
    subst hz
    have hl : xs.length = 0 := by omega
    have hl2 : xs = [] := List.eq_nil_of_length_eq_zero hl
    subst hl2
    have hnil : ∀ w, Sem.run Tryz.prog (binOp .eql 26 (.slice none 0 0) (.slice none 0 0)) w = .ok (.bool true) w := by
      intro w
      exact run_eql_slice_nil w _ _ _ _ _ Tryz.underlying26
    go_enter Tryz.func60, Tryz.ntmps60
    go_wp2
    exact ⟨rfl, _, results_tmp rfl _ _ _, _, rfl, .inl ⟨rfl, rfl⟩, Below.refl _ _⟩
  | some ad =>
    have hnil : ∀ w, Sem.run Tryz.prog (binOp .eql 26 (.slice (some ad) xs.length cap1) (.slice none 0 0)) w = .ok (.bool false) w := by
      intro w
      exact run_eql_slice_nil w _ _ _ _ _ Tryz.underlying26
    go_enter Tryz.func60, Tryz.ntmps60
    obtain ⟨i3, hi3, hz3, hs3, hb3⟩ := info_parts (P := Tryz.prog) (e := 35) (z := .agg #[.int .i64 0, .slice none 0 0, .slice none 0 0]) (size := 3) (bytes := 56) (by kernel_rfl)
    go_wp2_with ((refine wpList_make_full _ rfl _ _ 26 rfl w.heap.size 35 i3 _ 3 Tryz.underlying26 hi3 hz3 hs3 .i64 .i64 _ _ xs.length (by simp [go_sem]) (by simp [go_sem]) rfl rfl (by rw [hb3]; omega) (by unfold maxLen; omega) (Nat.le_refl _) ?_; intro w1 ho1 hg1))
    have h1g := ho1.lt _ rfl
    have h1s := hg1.size
    have b1 : Below w.heap.size w w1 := (Below.refl _ _).grown hg1 (Nat.le_refl _) (by simp)
    have HO := Lib.hid ho1
    have HB := Lib.hid b1
    clear ho1 hg1 b1
    go_loopw [14] (fun i wr => ∃ (k : Nat) (ys : List Value) (b : Nat → Nat), k ≤ xs.length ∧ i = .int .i64 k ∧ Below w.heap.size w wr ∧ w.heap.size < wr.heap.size ∧ Hid (wr.ownsRow w.heap.size 35 3 (.slice (some ⟨w.heap.size, 0, none⟩) xs.length xs.length) xs.length ys) ∧ Hid (w.heap.size < b 0 ∧ b k ≤ wr.heap.size ∧ PartI 3 (fun lo hi => R' lo hi wr) b ys xs k)) (fun i _ => xs.length - (intOf i).toNat)
    case atStart => exact ⟨0, _, fun _ => w.heap.size + 1, by omega, rfl, HB.out, h1g.2, HO.out, Lib.hid ⟨Nat.lt_succ_self _, h1g.2, PartI.zero _ _ _ _ _⟩⟩
    case round =>
      obtain ⟨k, ys, b, hk, rfl, hb, hsz, hown, hpart⟩ := hrel
      by_cases hlt : k < xs.length
      · obtain ⟨bx, ox, c0, c1, c2, e1, -, m0, m1, m2, n0, n1, n2, rx⟩ := (HX.out wr hb).get3 h3 k hlt
        cases e1
        have HC := Lib.hid (fun w' (hb' : Below wr.heap.size wr w') => HG.out w' _ _ (hR _ _ _ _ hb' rx))
        clear rx
        have bl := block_lt_of_cell m0
        have HS := Lib.hid (fun w' ds (b' : Below wr.heap.size wr w') (rd : R' wr.heap.size w'.heap.size w' ds xs[k]) => (show ∃ d0 d1 d2, ds = [d0, d1, d2] ∧ d0.oneCell' = true ∧ d1.oneCell' = true ∧ d2.oneCell' = true ∧ w'.there w.heap.size (k * 3) 3 ∧
            (w'.setCells w.heap.size (k * 3) [d0, d1, d2]).ownsRow w.heap.size 35 3 (.slice (some ⟨w.heap.size, 0, none⟩) xs.length xs.length) xs.length (((ys.set (k * 3) d0).set (k * 3 + 1) d1).set (k * 3 + 2) d2) ∧
            (w.heap.size < upd b k w'.heap.size 0 ∧ upd b k w'.heap.size (k + 1) ≤ (w'.setCells w.heap.size (k * 3) [d0, d1, d2]).heap.size ∧ PartI 3 (fun lo hi => R' lo hi (w'.setCells w.heap.size (k * 3) [d0, d1, d2])) (upd b k w'.heap.size) (((ys.set (k * 3) d0).set (k * 3 + 1) d1).set (k * 3 + 2) d2) xs (k + 1)) ∧
            Below w.heap.size w (w'.setCells w.heap.size (k * 3) [d0, d1, d2]) ∧ w.heap.size < (w'.setCells w.heap.size (k * 3) [d0, d1, d2]).heap.size by
          obtain ⟨d0, d1, d2, rfl, o0, o1, o2⟩ := H3.out _ _ _ _ _ rd
          have ho := owns_below hown.out b'
          have hs := owns_stored3 ho (k * 3) d0 d1 d2
          refine ⟨d0, d1, d2, rfl, o0, o1, o2, owns_there ho _ _ (by omega), hs.1, ?_, (hb.nx b').grown hs.2 (by have := b'.size; omega) (by simp), by have := b'.size; have := hs.2.size; omega⟩
          exact hpart.out.2.2.step3 HK.out HM.out hlt ho.1 _ _ _ rd hpart.out.1 hpart.out.2.1 b' hs.2))
        clear hown hpart
        go_wp2
        refine (HC.out _ (Below.refl _ _)).mono ?_; rintro e w' ⟨ds, rfl, rd, b'⟩
        obtain ⟨d0, d1, d2, rfl, o0, o1, o2, hth, h5, h6, h7, h8⟩ := HS.out w' ds b' rd
        have H5 := Lib.hid h5
        have H6 := Lib.hid h6
        have H7 := Lib.hid h7
        clear HS HC rd b' h5 h6 h7
        have hz : w.heap.size < w'.heap.size := by
          have := hth 0 (by omega)
          obtain ⟨u, hu⟩ := Option.isSome_iff_exists.1 this.1
          exact block_lt_of_cell hu
        go_wp2_with (refine wpList_store_mid rfl _ _ _ rfl w.heap.size (k * 3) #[d0, d1, d2] (by simp [go_sem]) (by simp [go_sem]) hth (by kernel_rfl) (by simp [o0, o1, o2]) ?_)
        refine ⟨⟨k + 1, _, _, by omega, rfl, H7.out, h8, H5.out, H6⟩, ?_⟩
        simp only [intOf, Int.toNat_natCast]
        omega
      · have hkl : k = xs.length := by omega
        subst hkl
        go_wp2
        exact ⟨rfl, .slice (some ⟨w.heap.size, 0, none⟩) xs.length xs.length, results_tmp (t := 4) rfl _ _ _, _, rfl, .inr ⟨_, _, b, rfl, hown.out, hpart.out⟩, hb⟩
set_option maxHeartbeats 1000000 in
theorem eachI_val {α : Type} (L B : Nat) (hL : L ≤ 1099511627776) (R : World → List Value → α → Prop) (hR : Stands R) (h3 : Three R) (R' : Nat → Nat → World → List Value → α → Prop) (hK : StayR R') (hM : WideR R') (h3' : ∀ lo hi, Three (R' lo hi))
    (g : Nat) (eg : ∀ args w, (callFunc g args).run Tryz.prog w = .ok (.enter g args) w)
    (hg : ∀ w cs x, R w cs x → Calls Tryz.prog g #[.agg cs.toArray] w fun e w' => ∃ ds, e = .returned (.agg ds.toArray) ∧ R' w.heap.size w'.heap.size w' ds x ∧ Below w.heap.size w w')
    (w : World) (v : Value) (xs : List α) (hx : RowOf L B w 3 (R w) v xs) :
    Calls Tryz.prog 86 #[v, .func (.func g) #[] #[]] w fun e w' => ∃ v', e = .returned v' ∧ MadeI 39 3 w.heap.size w'.heap.size w' (fun lo hi => R' lo hi w') v' xs ∧ Below w.heap.size w w' := by
  have HX := Lib.hid (fun wr (hb : Below w.heap.size w wr) => hx.imp hb fun cs x _ h => hR w wr cs x hb h)
  have HG := Lib.hid hg
  have HK := Lib.hid hK
  have HM := Lib.hid hM
  have H3 := Lib.hid h3'
  clear hg hK hM h3'
  obtain ⟨a1, cap1, rfl, q0, q1, q2, qn, -⟩ := hx
  unfold maxLen at q2
  have HN := Lib.hid qn
  clear qn
  cases a1 with
  | none =>
    have hz := HN.out rfl
    subst hz
    have hl : xs.length = 0 := by omega
    have hl2 : xs = [] := List.eq_nil_of_length_eq_zero hl
    subst hl2
    have hnil : ∀ w, Sem.run Tryz.prog (binOp .eql 33 (.slice none 0 0) (.slice none 0 0)) w = .ok (.bool true) w := by
      intro w
      exact run_eql_slice_nil w _ _ _ _ _ Tryz.underlying33
    go_enter Tryz.func86, Tryz.ntmps86
    go_wp2
    exact ⟨rfl, _, results_tmp rfl _ _ _, _, rfl, .inl ⟨rfl, rfl⟩, Below.refl _ _⟩
  | some ad =>
    have hnil : ∀ w, Sem.run Tryz.prog (binOp .eql 33 (.slice (some ad) xs.length cap1) (.slice none 0 0)) w = .ok (.bool false) w := by
      intro w
      exact run_eql_slice_nil w _ _ _ _ _ Tryz.underlying33
    go_enter Tryz.func86, Tryz.ntmps86
    obtain ⟨i3, hi3, hz3, hs3, hb3⟩ := info_parts (P := Tryz.prog) (e := 39) (z := .agg #[.int .i64 0, .string "".toUTF8, .slice none 0 0]) (size := 3) (bytes := 48) (by kernel_rfl)
    go_wp2_with ((refine wpList_make_full _ rfl _ _ 33 rfl w.heap.size 39 i3 _ 3 Tryz.underlying33 hi3 hz3 hs3 .i64 .i64 _ _ xs.length (by simp [go_sem]) (by simp [go_sem]) rfl rfl (by rw [hb3]; omega) (by unfold maxLen; omega) (Nat.le_refl _) ?_; intro w1 ho1 hg1))
    have h1g := ho1.lt _ rfl
    have h1s := hg1.size
    have b1 : Below w.heap.size w w1 := (Below.refl _ _).grown hg1 (Nat.le_refl _) (by simp)
    have HO := Lib.hid ho1
    have HB := Lib.hid b1
    clear ho1 hg1 b1
    go_loopw [14] (fun i wr => ∃ (k : Nat) (ys : List Value) (b : Nat → Nat), k ≤ xs.length ∧ i = .int .i64 k ∧ Below w.heap.size w wr ∧ w.heap.size < wr.heap.size ∧ Hid (wr.ownsRow w.heap.size 39 3 (.slice (some ⟨w.heap.size, 0, none⟩) xs.length xs.length) xs.length ys) ∧ Hid (w.heap.size < b 0 ∧ b k ≤ wr.heap.size ∧ PartI 3 (fun lo hi => R' lo hi wr) b ys xs k)) (fun i _ => xs.length - (intOf i).toNat)
    case atStart => exact ⟨0, _, fun _ => w.heap.size + 1, by omega, rfl, HB.out, h1g.2, HO.out, Lib.hid ⟨Nat.lt_succ_self _, h1g.2, PartI.zero _ _ _ _ _⟩⟩
    case round =>
      obtain ⟨k, ys, b, hk, rfl, hb, hsz, hown, hpart⟩ := hrel
      by_cases hlt : k < xs.length
      · obtain ⟨bx, ox, c0, c1, c2, e1, -, m0, m1, m2, n0, n1, n2, rx⟩ := (HX.out wr hb).get3 h3 k hlt
        cases e1
        have HC := Lib.hid (fun w' (hb' : Below wr.heap.size wr w') => HG.out w' _ _ (hR _ _ _ _ hb' rx))
        clear rx
        have bl := block_lt_of_cell m0
        have HS := Lib.hid (fun w' ds (b' : Below wr.heap.size wr w') (rd : R' wr.heap.size w'.heap.size w' ds xs[k]) => (show ∃ d0 d1 d2, ds = [d0, d1, d2] ∧ d0.oneCell' = true ∧ d1.oneCell' = true ∧ d2.oneCell' = true ∧ w'.there w.heap.size (k * 3) 3 ∧
            (w'.setCells w.heap.size (k * 3) [d0, d1, d2]).ownsRow w.heap.size 39 3 (.slice (some ⟨w.heap.size, 0, none⟩) xs.length xs.length) xs.length (((ys.set (k * 3) d0).set (k * 3 + 1) d1).set (k * 3 + 2) d2) ∧
            (w.heap.size < upd b k w'.heap.size 0 ∧ upd b k w'.heap.size (k + 1) ≤ (w'.setCells w.heap.size (k * 3) [d0, d1, d2]).heap.size ∧ PartI 3 (fun lo hi => R' lo hi (w'.setCells w.heap.size (k * 3) [d0, d1, d2])) (upd b k w'.heap.size) (((ys.set (k * 3) d0).set (k * 3 + 1) d1).set (k * 3 + 2) d2) xs (k + 1)) ∧
            Below w.heap.size w (w'.setCells w.heap.size (k * 3) [d0, d1, d2]) ∧ w.heap.size < (w'.setCells w.heap.size (k * 3) [d0, d1, d2]).heap.size by
          obtain ⟨d0, d1, d2, rfl, o0, o1, o2⟩ := H3.out _ _ _ _ _ rd
          have ho := owns_below hown.out b'
          have hs := owns_stored3 ho (k * 3) d0 d1 d2
          refine ⟨d0, d1, d2, rfl, o0, o1, o2, owns_there ho _ _ (by omega), hs.1, ?_, (hb.nx b').grown hs.2 (by have := b'.size; omega) (by simp), by have := b'.size; have := hs.2.size; omega⟩
          exact hpart.out.2.2.step3 HK.out HM.out hlt ho.1 _ _ _ rd hpart.out.1 hpart.out.2.1 b' hs.2))
        clear hown hpart
        go_wp2
        refine (HC.out _ (Below.refl _ _)).mono ?_; rintro e w' ⟨ds, rfl, rd, b'⟩
        obtain ⟨d0, d1, d2, rfl, o0, o1, o2, hth, h5, h6, h7, h8⟩ := HS.out w' ds b' rd
        have H5 := Lib.hid h5
        have H6 := Lib.hid h6
        have H7 := Lib.hid h7
        clear HS HC rd b' h5 h6 h7
        have hz : w.heap.size < w'.heap.size := by
          have := hth 0 (by omega)
          obtain ⟨u, hu⟩ := Option.isSome_iff_exists.1 this.1
          exact block_lt_of_cell hu
        go_wp2_with (refine wpList_store_mid rfl _ _ _ rfl w.heap.size (k * 3) #[d0, d1, d2] (by simp [go_sem]) (by simp [go_sem]) hth (by kernel_rfl) (by simp [o0, o1, o2]) ?_)
        refine ⟨⟨k + 1, _, _, by omega, rfl, H7.out, h8, H5.out, H6⟩, ?_⟩
        simp only [intOf, Int.toNat_natCast]
        omega
      · have hkl : k = xs.length := by omega
        subst hkl
        go_wp2
        exact ⟨rfl, .slice (some ⟨w.heap.size, 0, none⟩) xs.length xs.length, results_tmp (t := 4) rfl _ _ _, _, rfl, .inr ⟨_, _, b, rfl, hown.out, hpart.out⟩, hb⟩
set_option maxHeartbeats 1000000 in
theorem eachI_msg {α : Type} (L B : Nat) (hL : L ≤ 1099511627776) (R : World → List Value → α → Prop) (hR : Stands R) (h3 : One R) (R' : Nat → Nat → World → List Value → α → Prop) (hK : StayR R') (hM : WideR R') (h3' : ∀ lo hi, One (R' lo hi))
    (g : Nat) (eg : ∀ args w, (callFunc g args).run Tryz.prog w = .ok (.enter g args) w)
    (hg : ∀ w cs x, R w cs x → Calls Tryz.prog g #[.agg cs.toArray] w fun e w' => ∃ ds, e = .returned (.agg ds.toArray) ∧ R' w.heap.size w'.heap.size w' ds x ∧ Below w.heap.size w w')
    (w : World) (v : Value) (xs : List α) (hx : RowOf L B w 1 (R w) v xs) :
    Calls Tryz.prog 115 #[v, .func (.func g) #[] #[]] w fun e w' => ∃ v', e = .returned v' ∧ MadeI 28 1 w.heap.size w'.heap.size w' (fun lo hi => R' lo hi w') v' xs ∧ Below w.heap.size w w' := by
  have HX := Lib.hid (fun wr (hb : Below w.heap.size w wr) => hx.imp hb fun cs x _ h => hR w wr cs x hb h)
  have HG := Lib.hid hg
  have HK := Lib.hid hK
  have HM := Lib.hid hM
  have H3 := Lib.hid h3'
  clear hg hK hM h3'
  obtain ⟨a1, cap1, rfl, q0, q1, q2, qn, -⟩ := hx
  unfold maxLen at q2
  have HN := Lib.hid qn
  clear qn
  cases a1 with
  | none =>
    have hz := HN.out rfl
    subst hz
    have hl : xs.length = 0 := by omega
    have hl2 : xs = [] := List.eq_nil_of_length_eq_zero hl
    subst hl2
    have hnil : ∀ w, Sem.run Tryz.prog (binOp .eql 37 (.slice none 0 0) (.slice none 0 0)) w = .ok (.bool true) w := by
      intro w
      exact run_eql_slice_nil w _ _ _ _ _ Tryz.underlying37
    go_enter Tryz.func115, Tryz.ntmps115
    go_wp2
    exact ⟨rfl, _, results_tmp rfl _ _ _, _, rfl, .inl ⟨rfl, rfl⟩, Below.refl _ _⟩
  | some ad =>
    have hnil : ∀ w, Sem.run Tryz.prog (binOp .eql 37 (.slice (some ad) xs.length cap1) (.slice none 0 0)) w = .ok (.bool false) w := by
      intro w
      exact run_eql_slice_nil w _ _ _ _ _ Tryz.underlying37
    go_enter Tryz.func115, Tryz.ntmps115
    obtain ⟨i3, hi3, hz3, hs3, hb3⟩ := info_parts (P := Tryz.prog) (e := 28) (z := .agg #[.slice none 0 0]) (size := 1) (bytes := 24) (by kernel_rfl)
    go_wp2_with ((refine wpList_make_full _ rfl _ _ 37 rfl w.heap.size 28 i3 _ 1 Tryz.underlying37 hi3 hz3 hs3 .i64 .i64 _ _ xs.length (by simp [go_sem]) (by simp [go_sem]) rfl rfl (by rw [hb3]; omega) (by unfold maxLen; omega) (Nat.le_refl _) ?_; intro w1 ho1 hg1))
    have h1g := ho1.lt _ rfl
    have h1s := hg1.size
    have b1 : Below w.heap.size w w1 := (Below.refl _ _).grown hg1 (Nat.le_refl _) (by simp)
    have HO := Lib.hid ho1
    have HB := Lib.hid b1
    clear ho1 hg1 b1
    go_loopw [14] (fun i wr => ∃ (k : Nat) (ys : List Value) (b : Nat → Nat), k ≤ xs.length ∧ i = .int .i64 k ∧ Below w.heap.size w wr ∧ w.heap.size < wr.heap.size ∧ Hid (wr.ownsRow w.heap.size 28 1 (.slice (some ⟨w.heap.size, 0, none⟩) xs.length xs.length) xs.length ys) ∧ Hid (w.heap.size < b 0 ∧ b k ≤ wr.heap.size ∧ PartI 1 (fun lo hi => R' lo hi wr) b ys xs k)) (fun i _ => xs.length - (intOf i).toNat)
    case atStart => exact ⟨0, _, fun _ => w.heap.size + 1, by omega, rfl, HB.out, h1g.2, HO.out, Lib.hid ⟨Nat.lt_succ_self _, h1g.2, PartI.zero _ _ _ _ _⟩⟩
    case round =>
      obtain ⟨k, ys, b, hk, rfl, hb, hsz, hown, hpart⟩ := hrel
      by_cases hlt : k < xs.length
      · obtain ⟨bx, ox, c0, e1, -, m0, n0, rx⟩ := (HX.out wr hb).get1 h3 k hlt
        cases e1
        have HC := Lib.hid (fun w' (hb' : Below wr.heap.size wr w') => HG.out w' _ _ (hR _ _ _ _ hb' rx))
        clear rx
        have bl := block_lt_of_cell m0
        have HS := Lib.hid (fun w' ds (b' : Below wr.heap.size wr w') (rd : R' wr.heap.size w'.heap.size w' ds xs[k]) => (show ∃ d0, ds = [d0] ∧ d0.oneCell' = true ∧ w'.there w.heap.size k 1 ∧
            (w'.setCells w.heap.size k [d0]).ownsRow w.heap.size 28 1 (.slice (some ⟨w.heap.size, 0, none⟩) xs.length xs.length) xs.length (ys.set k d0) ∧
            (w.heap.size < upd b k w'.heap.size 0 ∧ upd b k w'.heap.size (k + 1) ≤ (w'.setCells w.heap.size k [d0]).heap.size ∧ PartI 1 (fun lo hi => R' lo hi (w'.setCells w.heap.size k [d0])) (upd b k w'.heap.size) (ys.set k d0) xs (k + 1)) ∧
            Below w.heap.size w (w'.setCells w.heap.size k [d0]) ∧ w.heap.size < (w'.setCells w.heap.size k [d0]).heap.size by
          obtain ⟨d0, rfl, o0⟩ := H3.out _ _ _ _ _ rd
          have ho := owns_below hown.out b'
          have hs := owns_stored1 ho k d0
          refine ⟨d0, rfl, o0, owns_there ho _ _ (by omega), hs.1, ?_, (hb.nx b').grown hs.2 (by have := b'.size; omega) (by simp), by have := b'.size; have := hs.2.size; omega⟩
          exact hpart.out.2.2.step1 HK.out HM.out hlt ho.1 _ rd hpart.out.1 hpart.out.2.1 b' hs.2))
        clear hown hpart
        go_wp2
        refine (HC.out _ (Below.refl _ _)).mono ?_; rintro e w' ⟨ds, rfl, rd, b'⟩
        obtain ⟨d0, rfl, o0, hth, h5, h6, h7, h8⟩ := HS.out w' ds b' rd
        have H5 := Lib.hid h5
        have H6 := Lib.hid h6
        have H7 := Lib.hid h7
        clear HS HC rd b' h5 h6 h7
        have hz : w.heap.size < w'.heap.size := by
          have := hth 0 (by omega)
          obtain ⟨u, hu⟩ := Option.isSome_iff_exists.1 this.1
          exact block_lt_of_cell hu
        go_wp2_with (refine wpList_store_mid rfl _ _ _ rfl w.heap.size k #[d0] (by simp [go_sem]) (by simp [go_sem]) hth (by kernel_rfl) (by simp [o0]) ?_)
        refine ⟨⟨k + 1, _, _, by omega, rfl, H7.out, h8, H5.out, H6⟩, ?_⟩
        simp only [intOf, Int.toNat_natCast]
        omega
      · have hkl : k = xs.length := by omega
        subst hkl
        go_wp2
        exact ⟨rfl, .slice (some ⟨w.heap.size, 0, none⟩) xs.length xs.length, results_tmp (t := 4) rfl _ _ _, _, rfl, .inr ⟨_, _, b, rfl, hown.out, hpart.out⟩, hb⟩
end
end Go.Proofs.YthikfifoomfjgaaGreat
namespace Go.Tr
open Go.RowKit
set_option linter.unusedVariables false
set_option linter.unusedSimpArgs false
theorem Stay.wide {lo hi lo' hi' : Nat} {a b : World} (h : Stay lo hi a b) (h1 : lo ≤ lo') (h2 : hi' ≤ hi) : Stay lo' hi' a b := h.sub h1 h2
theorem owns_stay {w w' : World} {B B' e k n : Nat} {v : Value} {ys : List Value} (h : w.ownsRow B e k v n ys) (hB : B' ≤ B) (hw : ∀ g, v.ownBlock = some g → w'.heap[g]? = w.heap[g]?) : w'.ownsRow B' e k v n ys := by
  obtain ⟨h1, h2⟩ := h
  refine ⟨h1, h2.imp id ?_⟩
  rintro ⟨g, cap, cur, rfl, h4, h5, h6⟩
  exact ⟨g, cap, cur, rfl, by omega, (hw g rfl).trans h5, h6⟩
/-- A row of one's own between two blocks, at most L long. -/
def ORow {α : Type} (e k L lo hi : Nat) (w : World) (R : Nat → Nat → List Value → α → Prop) (v : Value) (xs : List α) : Prop := xs.length ≤ L ∧ MadeI e k lo hi w R v xs
theorem MadeI.gen {α : Type} {e k lo hi lo' hi' : Nat} {w w' : World} {R R' : Nat → Nat → List Value → α → Prop} {v : Value} {xs : List α} (h : MadeI e k lo hi w R v xs) (h1 : lo' ≤ lo) (h2 : hi ≤ hi') (hw : Stay lo hi w w')
    (hR : ∀ l u cs x, x ∈ xs → lo ≤ l → u ≤ hi → R l u cs x → R' l u cs x) : MadeI e k lo' hi' w' R' v xs := by
  rcases h with h | ⟨g, ys, b, rfl, ho, hg, hb, hp⟩
  · exact .inl h
  · have hl := ho.lt g rfl
    have hc := chain_le hp.1 0 xs.length (Nat.zero_le _) (Nat.le_refl _)
    exact .inr ⟨g, ys, b, rfl, owns_stay ho h1 fun q hq => by
      have e : q = g := by simpa [Value.ownBlock] using hq.symm
      subst e
      exact hw q hl.1 (by omega), hg, by omega, hp.imp fun l u cs x hx hl' hu hr => hR _ _ _ _ hx (by omega) (by omega) hr⟩
theorem ORow.gen {α : Type} {e k L lo hi lo' hi' : Nat} {w w' : World} {R R' : Nat → Nat → List Value → α → Prop} {v : Value} {xs : List α} (h : ORow e k L lo hi w R v xs) (h1 : lo' ≤ lo) (h2 : hi ≤ hi') (hw : Stay lo hi w w')
    (hR : ∀ l u cs x, x ∈ xs → lo ≤ l → u ≤ hi → R l u cs x → R' l u cs x) : ORow e k L lo' hi' w' R' v xs := ⟨h.1, h.2.gen h1 h2 hw hR⟩
theorem MadeI.val {α : Type} {e k lo hi : Nat} {w : World} {R : Nat → Nat → List Value → α → Prop} {v : Value} {xs : List α} (h : MadeI e k lo hi w R v xs) : ∃ a cap, v = .slice a xs.length cap := by
  rcases h with ⟨rfl, rfl⟩ | ⟨g, ys, b, rfl, -⟩
  · exact ⟨none, 0, rfl⟩
  · exact ⟨_, _, rfl⟩
/-- Such a row, as it reads. -/
theorem ORow.row {α : Type} {e k L lo hi B : Nat} {w : World} {R : Nat → Nat → List Value → α → Prop} {R' : List Value → α → Prop} {v : Value} {xs : List α} (h : ORow e k L lo hi w R v xs) (hL : L ≤ maxLen) (hB : B ≤ lo)
    (hR : ∀ l u cs x, x ∈ xs → lo ≤ l → u ≤ hi → R l u cs x → R' cs x) : RowOf L B w k R' v xs := by
  obtain ⟨hl, h⟩ := h
  rcases h with ⟨rfl, rfl⟩ | ⟨g, ys, b, rfl, ho, hg, hb, hp⟩
  · exact ⟨none, 0, rfl, by simp, by simp, by simp, by simp, by simp⟩
  · have hgl := ho.lt g rfl
    refine ⟨_, _, rfl, hl, Nat.le_refl _, by omega, by simp, fun _ => ⟨g, 0, rfl, by omega, fun i hi => ?_⟩⟩
    obtain ⟨cs, h1, h2, h3⟩ := hp.2 i hi hi
    have c1 := chain_le hp.1 0 i (Nat.zero_le _) (by omega)
    have c2 := chain_le hp.1 (i + 1) xs.length (by omega) (Nat.le_refl _)
    refine ⟨cs, h1, fun j u hj => ?_, hR _ _ _ _ (List.getElem_mem hi) (by omega) (by omega) h3⟩
    have hj' : j < k := by have := (List.getElem?_eq_some_iff.1 hj).1; omega
    have hm : (i + 1) * k ≤ xs.length * k := Nat.mul_le_mul_right _ hi
    rw [Nat.add_mul] at hm
    rw [Nat.zero_add, ho.cellAt _ (by omega)]
    exact h2 j u hj
end Go.Tr
namespace Go.Proofs.YthikfifoomfjgaaGreat
open Go.RowKit Go.Tr
set_option linter.unusedVariables false
set_option linter.unusedSimpArgs false
def OVal (L : Nat) (w : World) (R : Nat → Nat → List Value → Msg → Prop) (lo hi : Nat) (cs : List Value) (x : Val) : Prop :=
  ∃ c, cs = [.int .i64 x.n, .string x.s, c] ∧ -9223372036854775808 ≤ x.n ∧ x.n ≤ 9223372036854775807 ∧ x.s.size ≤ 140737488355328 ∧ ORow 28 1 L lo hi w R c x.m
def OSlot (L : Nat) (w : World) (R : Nat → Nat → List Value → Msg → Prop) (lo hi : Nat) (cs : List Value) (s : Slot) : Prop :=
  ∃ c d mid, cs = [.int .i64 s.no, c, d] ∧ -9223372036854775808 ≤ s.no ∧ s.no ≤ 9223372036854775807 ∧ lo ≤ mid ∧ mid ≤ hi ∧ ORow 39 3 L lo mid w (OVal L w R) c s.k ∧ ORow 39 3 L mid hi w (OVal L w R) d s.v
/-- A message of so many levels, its parts between two blocks, none in the other's blocks. -/
def OMsg (L : Nat) (w : World) : Nat → Nat → Nat → List Value → Msg → Prop
  | 0, _, _, _, _ => False
  | n + 1, lo, hi, cs, m => ∃ c, cs = [c] ∧ ORow 35 3 L lo hi w (OSlot L w (OMsg L w n)) c m.f
theorem OVal.gen {L lo hi lo' hi' : Nat} {w w' : World} {R R' : Nat → Nat → List Value → Msg → Prop} {cs : List Value} {x : Val} (h : OVal L w R lo hi cs x) (h1 : lo' ≤ lo) (h2 : hi ≤ hi') (hw : Stay lo hi w w')
    (hR : ∀ l u cs x, lo ≤ l → u ≤ hi → R l u cs x → R' l u cs x) : OVal L w' R' lo' hi' cs x := by
  obtain ⟨c, rfl, a1, a2, a3, a4⟩ := h
  exact ⟨c, rfl, a1, a2, a3, a4.gen h1 h2 hw fun l u cs x _ => hR l u cs x⟩
theorem OSlot.gen {L lo hi lo' hi' : Nat} {w w' : World} {R R' : Nat → Nat → List Value → Msg → Prop} {cs : List Value} {s : Slot} (h : OSlot L w R lo hi cs s) (h1 : lo' ≤ lo) (h2 : hi ≤ hi') (hw : Stay lo hi w w')
    (hR : ∀ l u cs x, lo ≤ l → u ≤ hi → R l u cs x → R' l u cs x) : OSlot L w' R' lo' hi' cs s := by
  obtain ⟨c, d, mid, rfl, a1, a2, m1, m2, a3, a4⟩ := h
  exact ⟨c, d, mid, rfl, a1, a2, by omega, by omega, a3.gen h1 (Nat.le_refl _) (hw.sub (Nat.le_refl _) m2) fun l u cs x _ b1 b2 hx => hx.gen (Nat.le_refl _) (Nat.le_refl _) (hw.sub b1 (by omega)) fun l' u' cs x c1 c2 => hR l' u' cs x (by omega) (by omega),
    a4.gen (Nat.le_refl _) h2 (hw.sub m1 (Nat.le_refl _)) fun l u cs x _ b1 b2 hx => hx.gen (Nat.le_refl _) (Nat.le_refl _) (hw.sub (by omega) (by omega)) fun l' u' cs x c1 c2 => hR l' u' cs x (by omega) (by omega)⟩
theorem OMsg.gen {L : Nat} {w w' : World} : ∀ (n : Nat) {lo hi lo' hi' : Nat} {cs : List Value} {m : Msg}, lo' ≤ lo → hi ≤ hi' → Stay lo hi w w' → OMsg L w n lo hi cs m → OMsg L w' n lo' hi' cs m
  | 0, _, _, _, _, _, _, _, _, _, h => h.elim
  | n + 1, lo, hi, _, _, _, _, h1, h2, hw, h => by
    obtain ⟨c, rfl, h⟩ := h
    exact ⟨c, rfl, h.gen h1 h2 hw fun l u cs x _ b1 b2 hx => hx.gen (Nat.le_refl _) (Nat.le_refl _) (hw.sub b1 b2) fun l' u' cs x c1 c2 hm => OMsg.gen n (Nat.le_refl _) (Nat.le_refl _) (hw.sub (by omega) (by omega)) hm⟩
theorem OVal.reads {L B lo hi : Nat} {w : World} {R : Nat → Nat → List Value → Msg → Prop} {R' : List Value → Msg → Prop} {cs : List Value} {x : Val} (h : OVal L w R lo hi cs x) (hL : L ≤ maxLen) (hB : B ≤ lo) (hR : ∀ l u cs x, lo ≤ l → u ≤ hi → R l u cs x → R' cs x) : RVal L B w R' cs x := by
  obtain ⟨c, rfl, a1, a2, a3, a4⟩ := h
  exact ⟨c, rfl, a1, a2, a3, a4.row hL hB fun l u cs x _ => hR l u cs x⟩
theorem OSlot.reads {L B lo hi : Nat} {w : World} {R : Nat → Nat → List Value → Msg → Prop} {R' : List Value → Msg → Prop} {cs : List Value} {s : Slot} (h : OSlot L w R lo hi cs s) (hL : L ≤ maxLen) (hB : B ≤ lo) (hR : ∀ l u cs x, lo ≤ l → u ≤ hi → R l u cs x → R' cs x) : RSlot L B w R' cs s := by
  obtain ⟨c, d, mid, rfl, a1, a2, m1, m2, a3, a4⟩ := h
  exact ⟨c, d, rfl, a1, a2, a3.row hL hB fun l u cs x _ b1 b2 hx => hx.reads hL (by omega) fun l' u' cs x c1 c2 => hR l' u' cs x (by omega) (by omega), a4.row hL (by omega) fun l u cs x _ b1 b2 hx => hx.reads hL (by omega) fun l' u' cs x c1 c2 => hR l' u' cs x (by omega) (by omega)⟩
theorem OMsg.reads {L B : Nat} (hL : L ≤ maxLen) {w : World} : ∀ (n : Nat) {lo hi : Nat} {cs : List Value} {m : Msg}, B ≤ lo → OMsg L w n lo hi cs m → RMsg L B w n cs m
  | 0, _, _, _, _, _, h => h.elim
  | n + 1, lo, hi, _, _, hB, h => by
    obtain ⟨c, rfl, h⟩ := h
    exact ⟨c, rfl, h.row hL hB fun l u cs x _ b1 b2 hx => hx.reads hL (by omega) fun l' u' cs x c1 c2 hm => OMsg.reads hL n (by omega) hm⟩
theorem omsg_stay (L n : Nat) : StayR fun lo hi w => OMsg L w n lo hi := fun _ _ _ _ _ _ hw h => OMsg.gen n (Nat.le_refl _) (Nat.le_refl _) hw h
theorem omsg_wide (L n : Nat) : WideR fun lo hi w => OMsg L w n lo hi := fun _ _ _ _ _ _ _ h1 h2 h => OMsg.gen n h1 h2 (Stay.refl _ _ _) h
theorem oval_stay (L n : Nat) : StayR fun lo hi w => OVal L w (OMsg L w n) lo hi := fun _ _ _ _ _ _ hw h => h.gen (Nat.le_refl _) (Nat.le_refl _) hw fun _ _ _ _ b1 b2 h => OMsg.gen n (Nat.le_refl _) (Nat.le_refl _) (hw.sub b1 b2) h
theorem oval_wide (L n : Nat) : WideR fun lo hi w => OVal L w (OMsg L w n) lo hi := fun _ _ _ _ _ _ _ h1 h2 h => h.gen h1 h2 (Stay.refl _ _ _) fun _ _ _ _ _ _ h => h
theorem oslot_stay (L n : Nat) : StayR fun lo hi w => OSlot L w (OMsg L w n) lo hi := fun _ _ _ _ _ _ hw h => h.gen (Nat.le_refl _) (Nat.le_refl _) hw fun _ _ _ _ b1 b2 h => OMsg.gen n (Nat.le_refl _) (Nat.le_refl _) (hw.sub b1 b2) h
theorem oslot_wide (L n : Nat) : WideR fun lo hi w => OSlot L w (OMsg L w n) lo hi := fun _ _ _ _ _ _ _ h1 h2 h => h.gen h1 h2 (Stay.refl _ _ _) fun _ _ _ _ _ _ h => h
theorem orow_one {α : Type} {e k L lo hi : Nat} {w : World} {R : Nat → Nat → List Value → α → Prop} {v : Value} {xs : List α} (h : ORow e k L lo hi w R v xs) : v.oneCell' = true := by
  obtain ⟨a, cap, rfl⟩ := h.2.val; rfl
theorem omsg_one (L n : Nat) (lo hi : Nat) : One fun w => OMsg L w n lo hi := fun w cs x h => by
  cases n with
  | zero => exact h.elim
  | succ n => obtain ⟨c, rfl, h⟩ := h; exact ⟨c, rfl, orow_one h⟩
theorem oval_three (L n : Nat) (lo hi : Nat) : Three fun w => OVal L w (OMsg L w n) lo hi := fun w cs x h => by
  obtain ⟨c, rfl, a1, a2, a3, a4⟩ := h; exact ⟨_, _, _, rfl, rfl, rfl, orow_one a4⟩
theorem oslot_three (L n : Nat) (lo hi : Nat) : Three fun w => OSlot L w (OMsg L w n) lo hi := fun w cs x h => by
  obtain ⟨c, d, mid, rfl, a1, a2, m1, m2, a3, a4⟩ := h; exact ⟨_, _, _, rfl, rfl, orow_one a3, orow_one a4⟩
theorem stay_set {lo hi : Nat} (w : World) {p : Addr} (hp : p.block < lo ∨ hi ≤ p.block) (u : Value) : Stay lo hi w (w.setCell p u) := (Stay.refl _ _ _).set hp u
theorem orow_stay {L n lo hi : Nat} {e k : TypeId} {w w' : World} {v : Value} {xs : List Val} (hw : Stay lo hi w w') (h : ORow e k L lo hi w (OVal L w (OMsg L w n)) v xs) : ORow e k L lo hi w' (OVal L w' (OMsg L w' n)) v xs := h.gen (Nat.le_refl _) (Nat.le_refl _) hw fun _ _ _ _ _ b1 b2 h => oval_stay L n _ _ _ _ _ _ (hw.sub b1 b2) h
section
theorem val_ownI (L B n : Nat) (hL : L ≤ 1099511627776)
    (hm : ∀ w cs x, RMsg L B w n cs x → Calls Tryz.prog 30 #[.agg cs.toArray] w fun e w' => ∃ ds, e = .returned (.agg ds.toArray) ∧ OMsg L w' n w.heap.size w'.heap.size ds x ∧ Below w.heap.size w w')
    (w : World) (cs : List Value) (x : Val) (hx : RVal L B w (RMsg L B w n) cs x) :
    Calls Tryz.prog 87 #[.agg cs.toArray] w fun e w' => ∃ ds, e = .returned (.agg ds.toArray) ∧ OVal L w' (OMsg L w' n) w.heap.size w'.heap.size ds x ∧ Below w.heap.size w w' := by
  obtain ⟨c, rfl, h1, h2, h3, h4⟩ := hx
  have HM := Lib.hid fun w' (hb : Below w.heap.size w w') => eachI_msg L B hL (fun w => RMsg L B w n) (rmsg_stands L B n) (rmsg_one L B n) (fun lo hi w => OMsg L w n lo hi) (omsg_stay L n) (omsg_wide L n) (omsg_one L n) 30 (enters_of Tryz.func30 (by kernel_rfl) rfl) hm w' c x.m (h4.imp hb fun _ _ _ h => RMsg.below hb n h)
  have hlen := h4.len
  obtain ⟨a1, cap1, rfl, -⟩ := h4
  clear hm
  go_enter Tryz.func87, Tryz.ntmps87
  go_wp2_with (
    go_at_call 115
    refine (HM.out _ (al2 _ _ _)).mono ?_; rintro e w' ⟨v', rfl, hv, b'⟩
    have hr : ORow 28 1 L (w.heap.size + 2) w'.heap.size w' (OMsg L w' n) v' x.m := ⟨hlen, hv.gen (by simp) (Nat.le_refl _) (Stay.refl _ _ _) fun _ _ _ _ _ _ _ h => h⟩
    have hev := hr.2.val
    obtain ⟨a2, cap2, rfl⟩ := hev
    have HR := Lib.hid hr
    clear hr
    have f0 : ∀ o, w'.frozen? ⟨w.heap.size, o, none⟩ = false := fun o => (b'.frozen (p := ⟨w.heap.size, o, none⟩) (by simp; omega)).trans (by simp [go_sem])
    have f1 : ∀ o, w'.frozen? ⟨w.heap.size + 1, o, none⟩ = false := fun o => (b'.frozen (p := ⟨w.heap.size + 1, o, none⟩) (by simp)).trans (by simp [go_sem])
    have m0 := (b'.cell (p := ⟨w.heap.size, 0, none⟩) (by simp; omega)).trans (show _ = some (Value.int .i64 x.n) by simp [go_sem])
    have m1 := (b'.cell (p := ⟨w.heap.size, 1, none⟩) (by simp; omega)).trans (show _ = some (Value.string x.s) by simp [go_sem])
    have m2 := (b'.cell (p := ⟨w.heap.size, 2, none⟩) (by simp; omega)).trans (show _ = some (Value.slice a1 x.m.length cap1) by simp [go_sem])
    have z0 := (b'.cell (p := ⟨w.heap.size + 1, 0, none⟩) (by simp)).trans (show _ = some (Value.int .i64 0) by simp [go_sem])
    have z1 := (b'.cell (p := ⟨w.heap.size + 1, 1, none⟩) (by simp)).trans (show _ = some (Value.string "".toUTF8) by simp [go_sem]; rfl)
    have z2 := (b'.cell (p := ⟨w.heap.size + 1, 2, none⟩) (by simp)).trans (show _ = some (Value.slice none 0 0) by simp [go_sem])
    have HB := Lib.hid b'
    clear b' hv)
  have kp : Stay (w.heap.size + 2) w'.heap.size w' ((((w'.setCell ⟨w.heap.size, 2, none⟩ (Value.slice a2 x.m.length cap2)).setCell ⟨w.heap.size + 1, 0, none⟩ (Value.int IntKind.i64 x.n)).setCell ⟨w.heap.size + 1, 1, none⟩ (Value.string x.s)).setCell ⟨w.heap.size + 1, 2, none⟩ (Value.slice a2 x.m.length cap2)) :=
    (((stay_set w' (.inl (by simp)) _).set (.inl (by simp)) _).set (.inl (by simp)) _).set (.inl (by simp)) _
  have ht : w'.there (w.heap.size + 1) 0 3 := fun j hj => ⟨by match j, hj with
    | 0, _ => rw [z0]; rfl
    | 1, _ => rw [z1]; rfl
    | 2, _ => rw [z2]; rfl, f1 _⟩
  exact bodyPost_ret (v := .agg #[.int .i64 x.n, .string x.s, .slice a2 x.m.length cap2]) (results_cell_mid rfl _ _ (w.heap.size + 1) 0 [_, _, _] _ rfl (rangeAt_set3 _ _ 0 _ _ _ (there_set ht _ _)) Tryz.underlying39 rfl (by kernel_rfl)) rfl ⟨[_, _, _], rfl, ⟨_, rfl, h1, h2, h3, HR.out.gen (by omega) (by simp [World.setCell]) kp fun _ _ _ _ _ b1 b2 h => OMsg.gen n (Nat.le_refl _) (Nat.le_refl _) (kp.sub b1 b2) h⟩,
    ((((((al2 _ _ _).nx HB.out).setCell (by simp) _).setCell (by simp) _).setCell (by simp) _).setCell (by simp) _)⟩
theorem msg_ownI (L B n : Nat) (hL : L ≤ 1099511627776)
    (hs : ∀ w cs x, RSlot L B w (RMsg L B w n) cs x → Calls Tryz.prog 47 #[.agg cs.toArray] w fun e w' => ∃ ds, e = .returned (.agg ds.toArray) ∧ OSlot L w' (OMsg L w' n) w.heap.size w'.heap.size ds x ∧ Below w.heap.size w w')
    (w : World) (cs : List Value) (m : Msg) (hx : RMsg L B w (n + 1) cs m) :
    Calls Tryz.prog 30 #[.agg cs.toArray] w fun e w' => ∃ v', e = .returned (.agg #[v']) ∧ ORow 35 3 L w.heap.size w'.heap.size w' (OSlot L w' (OMsg L w' n)) v' m.f ∧ Below w.heap.size w w' := by
  obtain ⟨c, rfl, h4⟩ := hx
  have HM := Lib.hid fun w' (hb : Below w.heap.size w w') => eachI_slot L B hL (fun w => RSlot L B w (RMsg L B w n)) (rslot_stands L B n) (rslot_three L B n) (fun lo hi w => OSlot L w (OMsg L w n) lo hi) (oslot_stay L n) (oslot_wide L n) (oslot_three L n) 47 (enters_of Tryz.func47 (by kernel_rfl) rfl) hs w' c m.f (h4.imp hb fun _ _ _ h => h.below hb)
  have hlen := h4.len
  obtain ⟨a1, cap1, rfl, -⟩ := h4
  clear hs
  go_enter Tryz.func30, Tryz.ntmps30
  go_wp2_with (
    go_at_call 60
    refine (HM.out _ (al2 _ _ _)).mono ?_; rintro e w' ⟨v', rfl, hv, b'⟩
    have hr : ORow 35 3 L (w.heap.size + 2) w'.heap.size w' (OSlot L w' (OMsg L w' n)) v' m.f := ⟨hlen, hv.gen (by simp) (Nat.le_refl _) (Stay.refl _ _ _) fun _ _ _ _ _ _ _ h => h⟩
    have hev := hr.2.val
    obtain ⟨a2, cap2, rfl⟩ := hev
    have HV := Lib.hid hr
    clear hr
    have f1 : ∀ o, w'.frozen? ⟨w.heap.size + 1, o, none⟩ = false := fun o => (b'.frozen (p := ⟨w.heap.size + 1, o, none⟩) (by simp)).trans (by simp [go_sem])
    have z0 := (b'.cell (p := ⟨w.heap.size + 1, 0, none⟩) (by simp)).trans (show _ = some (Value.slice none 0 0) by simp [go_sem])
    have HB := Lib.hid b'
    clear b' hv)
  exact bodyPost_ret (v := .agg #[.slice a2 m.f.length cap2]) (results_cell_mid rfl _ _ (w.heap.size + 1) 0 [_] _ rfl (World.rangeAt_setCells_same w' (w.heap.size + 1) 0 [_] fun j hj => ⟨by match j, hj with
    | 0, _ => rw [z0]; rfl, f1 _⟩) Tryz.underlying28 rfl (by kernel_rfl)) rfl ⟨_, rfl, HV.out.gen (by omega) (by simp [World.setCell]) (stay_set w' (.inl (by simp)) _) (fun _ _ _ _ _ b1 b2 h => oslot_stay L n _ _ _ _ _ _ ((stay_set w' (.inl (by simp)) _).sub b1 b2) h), ((al2 _ _ _).nx HB.out).setCell (by simp) _⟩
set_option maxHeartbeats 1000000 in
theorem slot_ownI (L B n : Nat) (hL : L ≤ 1099511627776)
    (hm : ∀ w cs x, RMsg L B w n cs x → Calls Tryz.prog 30 #[.agg cs.toArray] w fun e w' => ∃ ds, e = .returned (.agg ds.toArray) ∧ OMsg L w' n w.heap.size w'.heap.size ds x ∧ Below w.heap.size w w')
    (w : World) (cs : List Value) (x : Slot) (hx : RSlot L B w (RMsg L B w n) cs x) :
    Calls Tryz.prog 47 #[.agg cs.toArray] w fun e w' => ∃ ds, e = .returned (.agg ds.toArray) ∧ OSlot L w' (OMsg L w' n) w.heap.size w'.heap.size ds x ∧ Below w.heap.size w w' := by
  obtain ⟨c, d, rfl, h1, h2, h3, h4⟩ := hx
  have hv := val_ownI L B n hL hm
  have HK := Lib.hid fun w' (hb : Below w.heap.size w w') => eachI_val L B hL (fun w => RVal L B w (RMsg L B w n)) (rval_stands L B n) (rval_three L B n) (fun lo hi w => OVal L w (OMsg L w n) lo hi) (oval_stay L n) (oval_wide L n) (oval_three L n) 87 (enters_of Tryz.func87 (by kernel_rfl) rfl) hv w' c x.k (h3.imp hb fun _ _ _ h => h.below hb)
  have HV := Lib.hid fun w' (hb : Below w.heap.size w w') => eachI_val L B hL (fun w => RVal L B w (RMsg L B w n)) (rval_stands L B n) (rval_three L B n) (fun lo hi w => OVal L w (OMsg L w n) lo hi) (oval_stay L n) (oval_wide L n) (oval_three L n) 87 (enters_of Tryz.func87 (by kernel_rfl) rfl) hv w' d x.v (h4.imp hb fun _ _ _ h => h.below hb)
  have hlen := h3.len
  have hlen2 := h4.len
  obtain ⟨a1, cap1, rfl, -⟩ := h3
  obtain ⟨a2, cap2, rfl, -⟩ := h4
  clear hm hv
  have H1 := Lib.hid (fun w' (hb : Below w.heap.size w w') (hz : w.heap.size + 2 ≤ w'.heap.size) => (HK.out w' hb).mono (R' := fun e w2 => ∃ a3 cap3, e = .returned (.slice a3 x.k.length cap3) ∧ ORow 39 3 L w'.heap.size w2.heap.size w2 (OVal L w2 (OMsg L w2 n)) (.slice a3 x.k.length cap3) x.k ∧ Below w'.heap.size w' w2) (by
    rintro e w2 ⟨v', rfl, hv, b'⟩
    obtain ⟨a3, cap3, rfl⟩ := hv.val
    exact ⟨_, _, rfl, ⟨hlen, hv⟩, b'⟩))
  have H2 := Lib.hid (fun w' (hb : Below w.heap.size w w') (hz : w.heap.size + 2 ≤ w'.heap.size) => (HV.out w' hb).mono (R' := fun e w2 => ∃ a3 cap3, e = .returned (.slice a3 x.v.length cap3) ∧ ORow 39 3 L w'.heap.size w2.heap.size w2 (OVal L w2 (OMsg L w2 n)) (.slice a3 x.v.length cap3) x.v ∧ Below w'.heap.size w' w2) (by
    rintro e w2 ⟨v', rfl, hv, b'⟩
    obtain ⟨a3, cap3, rfl⟩ := hv.val
    exact ⟨_, _, rfl, ⟨hlen2, hv⟩, b'⟩))
  clear HK HV
  go_enter Tryz.func47, Tryz.ntmps47
  go_upto_region 1 with fail
  go_cut [] from 3 to 10 (fun wc => Hid (Below w.heap.size w wc) ∧ ∃ a3 cap3 a4 cap4, Bx w.heap.size wc (.int .i64 x.no) (.slice a3 x.k.length cap3) (.slice a4 x.v.length cap4) ∧
    ∃ mid, w.heap.size + 2 ≤ mid ∧ mid ≤ wc.heap.size ∧ Hid (ORow 39 3 L (w.heap.size + 2) mid wc (OVal L wc (OMsg L wc n)) (.slice a3 x.k.length cap3) x.k) ∧ Hid (ORow 39 3 L mid wc.heap.size wc (OVal L wc (OMsg L wc n)) (.slice a4 x.v.length cap4) x.v))
  case first =>
    have BX := Lib.hid (Bx.new w (.int .i64 x.no) (.slice a1 x.k.length cap1) (.slice a2 x.v.length cap2) (.int .i64 0) (.slice none 0 0) (.slice none 0 0) 35 35)
    go_region_with (first
      | (go_at_call 86; (with_reducible refine (H1.out _ ?_ ?_).mono ?_); exact (al2 _ _ _).drew; (simp); rintro e w1 ⟨a3, cap3, rfl, r1, b1⟩;
          (have R1 := Lib.hid (r1.gen (lo' := w.heap.size + 2) (by simp) (Nat.le_refl _) (Stay.refl _ _ _) fun _ _ _ _ _ _ _ h => h)); clear r1;
          (have B1 := Lib.hid ((al2 w (.cells #[.int .i64 x.no, .slice a1 x.k.length cap1, .slice a2 x.v.length cap2] 35) (.cells #[.int .i64 0, .slice none 0 0, .slice none 0 0] 35)).drew.nx b1));
          (have BX1 := Lib.hid (BX.out.below b1)); (obtain ⟨s1, m0, m1, m2, f0, q0, q1, q2, f1⟩ := BX1.out); (have s1w := s1); clear b1 BX)
      | (go_at_call 86; (with_reducible refine (H2.out w1 ?_ ?_).mono ?_); exact B1.out; exact s1; rintro e w2 ⟨a4, cap4, rfl, r2, b2⟩;
          (have R2 := Lib.hid r2); clear r2;
          (have m2' := b2.size);
          (have R1' := Lib.hid (orow_stay (Stay.of_below b2 (Nat.le_refl _)) R1.out)); clear R1; (have R1 := R1'); clear R1';
          (have B2 := Lib.hid (B1.out.nx b2));
          (have BX2 := Lib.hid (BX1.out.below b2)); clear s1 m0 m1 m2 f0 q0 q1 q2 f1 BX1; (obtain ⟨s1, m0, m1, m2, f0, q0, q1, q2, f1⟩ := BX2.out); clear b2)
      | (go_at_call 86; (with_reducible refine (H2.out _ ?_ ?_).mono ?_); exact B1.out.setCell (by simp) _; (simpa [World.setCell] using s1); rintro e w2 ⟨a4, cap4, rfl, r2, b2⟩;
          (have R2 := Lib.hid (r2.gen (lo' := w1.heap.size) (by simp [World.setCell]) (Nat.le_refl _) (Stay.refl _ _ _) fun _ _ _ _ _ _ _ h => h)); clear r2;
          (have m2' : w1.heap.size ≤ w2.heap.size := by have := b2.size; simpa [World.setCell] using this);
          (have kp := (stay_set w1 (lo := w.heap.size + 2) (hi := w1.heap.size) (p := ⟨w.heap.size, 1, none⟩) (.inl (by simp)) (.slice a3 x.k.length cap3)).trans (.of_below b2 (by simp [World.setCell])));
          (have R1' := Lib.hid (orow_stay kp R1.out)); clear R1 kp; (have R1 := R1'); clear R1';
          (have B2 := Lib.hid ((B1.out.setCell (p := ⟨w.heap.size, 1, none⟩) (by simp) (.slice a3 x.k.length cap3)).nx b2));
          (have BX2 := Lib.hid ((BX1.out.set1 (.slice a3 x.k.length cap3)).below b2)); clear s1 m0 m1 m2 f0 q0 q1 q2 f1 BX1; (obtain ⟨s1, m0, m1, m2, f0, q0, q1, q2, f1⟩ := BX2.out); clear b2))
    all_goals (go_wp2_with fail; go_meet)
    all_goals (first
      | (refine ⟨(B2.out.setCell (by simp) _).setCell (by simp) _, _, _, _, _, (BX2.out.set1 _).set2 _, w1.heap.size, s1w, by simpa [World.setCell] using m2', ?_, ?_⟩
         · exact orow_stay ((stay_set w2 (.inl (by simp)) _).set (.inl (by simp)) _) R1.out
         · exact (orow_stay ((stay_set w2 (.inl (by simp; omega)) _).set (.inl (by simp; omega)) _) R2.out).gen (Nat.le_refl _) (by simp [World.setCell]) (Stay.refl _ _ _) fun _ _ _ _ _ _ _ h => h)
      | (refine ⟨B2.out.setCell (by simp) _, _, _, _, _, BX2.out.set2 _, w1.heap.size, s1w, by simpa [World.setCell] using m2', ?_, ?_⟩
         · exact orow_stay (stay_set w2 (.inl (by simp)) _) R1.out
         · exact (orow_stay (stay_set w2 (.inl (by simp; omega)) _) R2.out).gen (Nat.le_refl _) (by simp [World.setCell]) (Stay.refl _ _ _) fun _ _ _ _ _ _ _ h => h))
  case rest =>
    obtain ⟨BC, a3, cap3, a4, cap4, bx, mid, hm1, hm2, RK, RV⟩ := hcut
    have BX := Lib.hid bx
    obtain ⟨s1, m0, m1, m2, f0, q0, q1, q2, f1⟩ := bx
    obtain ⟨x0, z0⟩ := Option.isSome_iff_exists.1 q0
    obtain ⟨x1, z1⟩ := Option.isSome_iff_exists.1 q1
    obtain ⟨x2, z2⟩ := Option.isSome_iff_exists.1 q2
    clear q0 q1 q2
    go_wp2
    have kp : ∀ l u, w.heap.size + 2 ≤ l → Stay l u wc (((wc.setCell ⟨w.heap.size + 1, 0, none⟩ (Value.int IntKind.i64 x.no)).setCell ⟨w.heap.size + 1, 1, none⟩ (Value.slice a3 x.k.length cap3)).setCell ⟨w.heap.size + 1, 2, none⟩ (Value.slice a4 x.v.length cap4)) :=
      fun l u hl => ((stay_set wc (.inl (by simp; omega)) _).set (.inl (by simp; omega)) _).set (.inl (by simp; omega)) _
    exact bodyPost_ret (v := .agg #[.int .i64 x.no, .slice a3 x.k.length cap3, .slice a4 x.v.length cap4]) (results_cell_mid rfl _ _ (w.heap.size + 1) 0 [_, _, _] _ rfl (rangeAt_set3 _ _ 0 _ _ _ BX.out.there) Tryz.underlying35 rfl (by kernel_rfl)) rfl
      ⟨[_, _, _], rfl, ⟨_, _, mid, rfl, h1, h2, by omega, by simpa [World.setCell] using hm2, (orow_stay (kp _ _ (Nat.le_refl _)) RK.out).gen (by omega) (Nat.le_refl _) (Stay.refl _ _ _) (fun _ _ _ _ _ _ _ h => h), (orow_stay (kp _ _ hm1) RV.out).gen (Nat.le_refl _) (by simp [World.setCell]) (Stay.refl _ _ _) fun _ _ _ _ _ _ _ h => h⟩,
      ((BC.out.setCell (by simp) _).setCell (by simp) _).setCell (by simp) _⟩
/-- value.Own: a tree of one's own, each part in blocks of its own. -/
theorem value_ownI (L B : Nat) (hL : L ≤ 1099511627776) : ∀ (n : Nat) (w : World) (cs : List Value) (m : Msg), RMsg L B w n cs m →
    Calls Tryz.prog 30 #[.agg cs.toArray] w fun e w' => ∃ ds, e = .returned (.agg ds.toArray) ∧ OMsg L w' n w.heap.size w'.heap.size ds m ∧ Below w.heap.size w w'
  | 0, _, _, _, h => h.elim
  | n + 1, w, cs, m, h => by
    refine (msg_ownI L B n hL (slot_ownI L B n hL (value_ownI L B hL n)) w cs m h).mono ?_
    rintro e w' ⟨v', rfl, hv, b⟩
    exact ⟨[v'], rfl, ⟨v', rfl, hv⟩, b⟩
end
end Go.Proofs.YthikfifoomfjgaaGreat
