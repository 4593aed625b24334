/- Contracts of truffleref09.both and value.values: the values of a slot, of a message, in a row of one's own. -/
import Derived.Test.YthikfifoomfjgaaGreatOwn
import Derived.Test.YthikfifoomfjgaaGreatMem
namespace Go.Tr
set_option linter.unusedVariables false
/-- A row of one's own, however it was made. -/
def Has {α : Type} (e k B : Nat) (w : World) (R : List Value → α → Prop) (v : Value) (xs : List α) : Prop := ∃ ys, w.ownsRow B e k v xs.length ys ∧ Part k R ys xs xs.length
theorem Part.app {α : Type} {k : Nat} {R : List Value → α → Prop} {a b : List Value} {xs ys : List α} (ha : a.length = xs.length * k) (h1 : Part k R a xs xs.length) (h2 : Part k R b ys ys.length) : Part k R (a ++ b) (xs ++ ys) (xs ++ ys).length := fun t ht _ => by
  by_cases h : t < xs.length
  · obtain ⟨cs, e1, e2, e3⟩ := h1 t h h
    refine ⟨cs, e1, fun j u hj => ?_, by rw [List.getElem_append_left h]; exact e3⟩
    have hj' : j < k := by have := (List.getElem?_eq_some_iff.1 hj).1; omega
    have hm : (t + 1) * k ≤ xs.length * k := Nat.mul_le_mul_right _ h
    rw [Nat.add_mul] at hm
    rw [List.getElem?_append_left (by omega)]
    exact e2 j u hj
  · have h' : t - xs.length < ys.length := by simp at ht; omega
    obtain ⟨cs, e1, e2, e3⟩ := h2 _ h' h'
    refine ⟨cs, e1, fun j u hj => ?_, by rw [List.getElem_append_right (by omega)]; exact e3⟩
    have hm : t * k = xs.length * k + (t - xs.length) * k := by rw [← Nat.add_mul]; congr 1; omega
    rw [List.getElem?_append_right (by omega), ha, show t * k + j - xs.length * k = (t - xs.length) * k + j by omega]
    exact e2 j u hj
theorem RowOf.src {α : Type} {L B k n cap : Nat} {w : World} {R : List Value → α → Prop} (h1 : ∀ cs x, R cs x → ∀ u ∈ cs, u.oneCell' = true) {a : Option Addr} {xs : List α} (h : RowOf L B w k R (.slice a n cap) xs) :
    n = xs.length ∧ ∃ news : List Value, news.length = n * k ∧ ((a = none ∧ n = 0 ∧ cap = 0) ∨ ∃ ad, a = some ad ∧ ∀ j u, news[j]? = some u → w.cell? (ad.add j) = some u) ∧ (∀ u ∈ news, u.oneCell' = true) ∧ Part k R news xs xs.length := by
  obtain ⟨a', cap', e, -, q1, q2, qn, hc⟩ := h
  obtain ⟨rfl, rfl, rfl⟩ : a = a' ∧ n = xs.length ∧ cap = cap' := by simpa using e
  refine ⟨rfl, ?_⟩
  cases a with
  | none =>
    have hz := qn rfl
    have hx : xs = [] := List.eq_nil_of_length_eq_zero (by omega)
    subst hx
    exact ⟨[], by simp, .inl ⟨rfl, rfl, hz⟩, by simp, Part.zero _ _ _ _⟩
  | some ad =>
    by_cases hx : xs = []
    · subst hx
      exact ⟨[], by simp, .inr ⟨ad, rfl, by simp⟩, by simp, Part.zero _ _ _ _⟩
    · obtain ⟨b, off, e, -, hq⟩ := hc hx
      cases e
      have key : ∀ m, m ≤ xs.length → ∃ news : List Value, news.length = m * k ∧ (∀ j u, news[j]? = some u → w.cell? ⟨b, off + j, none⟩ = some u) ∧ (∀ u ∈ news, u.oneCell' = true) ∧ Part k R news xs m := by
        intro m
        induction m with
        | zero => intro _; exact ⟨[], by simp, by simp, by simp, Part.zero _ _ _ _⟩
        | succ m ih =>
          intro hm
          obtain ⟨news, g1, g2, g3, g4⟩ := ih (by omega)
          obtain ⟨cs, e1, e2, e3⟩ := hq m (by omega)
          refine ⟨news ++ cs, by simp [g1, e1, Nat.add_mul], fun j u hj => ?_, ?_, ?_⟩
          · by_cases hl : j < news.length
            · rw [List.getElem?_append_left hl] at hj; exact g2 j u hj
            · rw [List.getElem?_append_right (by omega)] at hj
              have := e2 _ _ hj
              rw [show off + m * k + (j - news.length) = off + j by omega] at this
              exact this
          · intro u hu
            rcases List.mem_append.1 hu with hu | hu
            · exact g3 u hu
            · exact h1 _ _ e3 u hu
          · intro t ht hti
            by_cases h : t < m
            · obtain ⟨cs', f1, f2, f3⟩ := g4 t ht h
              refine ⟨cs', f1, fun j u hj => ?_, f3⟩
              have hj' : j < k := by have := (List.getElem?_eq_some_iff.1 hj).1; omega
              have hm' : (t + 1) * k ≤ m * k := Nat.mul_le_mul_right _ h
              rw [Nat.add_mul] at hm'
              rw [List.getElem?_append_left (by omega)]
              exact f2 j u hj
            · have : t = m := by omega
              subst this
              refine ⟨cs, e1, fun j u hj => ?_, e3⟩
              rw [List.getElem?_append_right (by omega), show t * k + j - news.length = j by omega]
              exact hj
      obtain ⟨news, g1, g2, g3, g4⟩ := key xs.length (Nat.le_refl _)
      refine ⟨news, g1, .inr ⟨_, rfl, fun j u hj => ?_⟩, g3, g4⟩
      rw [Addr.add_mid]; exact g2 j u hj
theorem src_below {w w' : World} (hb : RowKit.Below w.heap.size w w') {a : Option Addr} {n cap : Nat} {news : List Value} (h : (a = none ∧ n = 0 ∧ cap = 0) ∨ ∃ ad, a = some ad ∧ ∀ j u, news[j]? = some u → w.cell? (ad.add j) = some u) :
    (a = none ∧ n = 0 ∧ cap = 0) ∨ ∃ ad, a = some ad ∧ ∀ j u, news[j]? = some u → w'.cell? (ad.add j) = some u := by
  rcases h with h | ⟨ad, e, h⟩
  · exact .inl h
  · exact .inr ⟨ad, e, fun j u hj => (hb.cell (block_lt_of_cell (a := ad.add j) (h j u hj))).trans (h j u hj)⟩
theorem Has.row {α : Type} {L e k B B' : Nat} {w w' : World} {R R' : List Value → α → Prop} {v : Value} {xs : List α} (h : Has e k B w R v xs) (hL : xs.length ≤ L) (hB : B' ≤ B) (hw : Keeps B w w')
    (hR : ∀ cs x, x ∈ xs → R cs x → R' cs x) : RowOf L B' w' k R' v xs := by
  obtain ⟨ys, ho, hp⟩ := h
  rcases ho.2 with ⟨rfl, hz⟩ | ⟨g, cap, cur, rfl, hb, hg, hnc, hcm, -, -⟩
  · have hx : xs = [] := List.eq_nil_of_length_eq_zero hz
    subst hx
    exact ⟨none, 0, rfl, by simp, by simp, by simp, by simp, by simp⟩
  · refine ⟨_, _, rfl, hL, hnc, hcm, by simp, fun _ => ⟨g, 0, rfl, by omega, fun i hi => ?_⟩⟩
    obtain ⟨cs, h1, h2, h3⟩ := hp i hi hi
    refine ⟨cs, h1, fun j u hj => hw _ _ hb ?_, hR _ _ (List.getElem_mem hi) h3⟩
    have hj' : j < k := by have := (List.getElem?_eq_some_iff.1 hj).1; omega
    have hm : (i + 1) * k ≤ xs.length * k := Nat.mul_le_mul_right _ hi
    rw [Nat.add_mul] at hm
    rw [Nat.zero_add, ho.cellAt _ (by omega)]
    exact h2 j u hj
theorem Part.nil {α : Type} (k : Nat) (R : List Value → α → Prop) : Part k R [] ([] : List α) ([] : List α).length := Part.zero _ _ _ _
theorem rval_cells {L B n : Nat} {w : World} : ∀ cs (x : Val), RVal L B w (RMsg L B w n) cs x → ∀ u ∈ cs, u.oneCell' = true := by
  rintro cs x ⟨c, rfl, -, -, -, h⟩ u hu
  have := h.oneCell
  simp at hu
  rcases hu with rfl | rfl | rfl <;> first | rfl | assumption
end Go.Tr
namespace Go.Proofs.YthikfifoomfjgaaGreat
open Go.RowKit Go.Tr
set_option linter.unusedVariables false
set_option linter.unusedSimpArgs false
theorem ref_both (L n : Nat) (hL : L ≤ 8796093022208) (w : World) (cs : List Value) (x : Slot) (hx : RSlot L 0 w (RMsg L 0 w n) cs x) (hk1 : x.k.length ≤ 1099511627776) (hv1 : x.v.length ≤ 1099511627776) :
    Calls Tryz.prog 75 #[.agg cs.toArray] w fun e w' => ∃ v', e = .returned v' ∧ RowOf (L + L) 0 w' 3 (RVal L 0 w' (RMsg L 0 w' n)) v' (x.k ++ x.v) ∧ Below w.heap.size w w' := by
  obtain ⟨c, d, rfl, h1, h2, h3, h4⟩ := hx
  have hl3 := h3.len
  have hl4 := h4.len
  have S3 := Lib.hid h3
  have S4 := Lib.hid h4
  obtain ⟨a1, cap1, rfl, -⟩ := h3
  obtain ⟨a2, cap2, rfl, -⟩ := h4
  obtain ⟨-, news3, g1, g2, g3, g4⟩ := S3.out.src rval_cells
  obtain ⟨-, news4, p1, p2, p3, p4⟩ := S4.out.src rval_cells
  have G2 := Lib.hid g2
  have G3 := Lib.hid g3
  have G4 := Lib.hid g4
  have P2 := Lib.hid p2
  have P3 := Lib.hid p3
  have P4 := Lib.hid p4
  clear g2 g3 g4 p2 p3 p4 S3 S4
  go_enter Tryz.func75, Tryz.ntmps75
  obtain ⟨i3, hi3, hz3, hs3, hb3⟩ := info_parts (P := Tryz.prog) (e := 39) (z := .agg #[.int .i64 0, .string "".toUTF8, .slice none 0 0]) (size := 3) (bytes := 48) (by kernel_rfl)
  have z3 : (Value.agg #[.int .i64 0, .string "".toUTF8, .slice none 0 0]).cells.size = 3 := rfl
  go_wp2_with (first
    | (refine wpList_append_src rfl _ _ 33 rfl (w.heap.size + 1) 39 i3 _ 3 48 Tryz.underlying33 hi3 hz3 hs3 hb3 z3 (by omega) (.slice none 0 0) 0 [] (by simp [go_sem]) (World.ownsRow_nil _ _ _ _) a1 x.k.length cap1 news3 (by simp [go_sem]) g1 (src_below (al1 _ _) G2.out) G3.out (by unfold maxLen; omega) (by omega) (by simp) ?_; rintro v1 w1 ho1 hg1;
        (have b1 := (al1 w (.cells #[.int .i64 x.no, .slice a1 x.k.length cap1, .slice a2 x.v.length cap2] 35)).grown hg1 (by simp) (by simp [Value.ownBlock]));
        (have m2 := hg1.cell (a := ⟨w.heap.size, 2, none⟩) (v := .slice a2 x.v.length cap2) (by simp [go_sem]) (by simp [Value.ownBlock]));
        (have hz1 : w.heap.size + 1 ≤ w1.heap.size := by have := hg1.size; simp at this; omega);
        (have B1 := Lib.hid b1); (have O1 := Lib.hid ho1); clear ho1 hg1 b1)
    | (refine wpList_append_src rfl _ _ 33 rfl (w.heap.size + 1) 39 i3 _ 3 48 Tryz.underlying33 hi3 hz3 hs3 hb3 z3 (by omega) v1 (0 + x.k.length) ([] ++ news3) (by simp [go_sem]) O1.out a2 x.v.length cap2 news4 (by simp [go_sem]) p1 (src_below B1.out P2.out) P3.out (by unfold maxLen; omega) (by omega) hz1 ?_; rintro v2 w2 ho2 hg2;
        (have b2 := B1.out.grown hg2 (by omega) (fun k hk => by have := (O1.out.lt k hk).1; omega)); (have B2 := Lib.hid b2); (have O2 := Lib.hid ho2); clear ho2 b2))
  refine ⟨rfl, v2, results_tmp (t := 2) rfl _ _ _, v2, rfl, Has.row (e := 39) (B := w.heap.size + 1) (R := RVal L 0 w2 (RMsg L 0 w2 n)) ⟨news3 ++ news4, ?_, ?_⟩ ?_ (by omega) (Keeps.refl _ _) (fun cs x _ h => h), B2.out⟩
  · have := O2.out
    simpa using this
  · exact Part.app g1 (G4.out.imp fun _ _ _ h => h.below B2.out) (P4.out.imp fun _ _ _ h => h.below B2.out)
  · simp; omega
end Go.Proofs.YthikfifoomfjgaaGreat
