/- Contracts of value.each at slots, values and messages: a new row, with what becomes of each element. -/
import Derived.Test.YthikfifoomfjgaaGreatSame
import Derived.Lib.LazyBuf
namespace Go.Tr
set_option linter.unusedVariables false
set_option linter.unusedSimpArgs false
/-- The first i elements of a row of cells read as those of a list. -/
def Part {α : Type} (k : Nat) (R : List Value → α → Prop) (ys : List Value) (xs : List α) (i : Nat) : Prop :=
  ∀ t (h : t < xs.length), t < i → ∃ cs, cs.length = k ∧ (∀ j u, cs[j]? = some u → ys[t * k + j]? = some u) ∧ R cs xs[t]
/-- A row of one's own, made in one piece; its elements lie behind it. -/
def Made {α : Type} (e k B : Nat) (w : World) (R : Nat → List Value → α → Prop) (v : Value) (xs : List α) : Prop :=
  (xs = [] ∧ v = .slice none 0 0) ∨ ∃ g ys, v = .slice (some ⟨g, 0, none⟩) xs.length xs.length ∧ w.ownsRow B e k v xs.length ys ∧ Part k (R (g + 1)) ys xs xs.length
theorem Part.imp {α : Type} {k : Nat} {R R' : List Value → α → Prop} {ys : List Value} {xs : List α} {i : Nat} (h : Part k R ys xs i) (hR : ∀ cs x, x ∈ xs → R cs x → R' cs x) : Part k R' ys xs i := fun t ht hi => by
  obtain ⟨cs, h1, h2, h3⟩ := h t ht hi
  exact ⟨cs, h1, h2, hR _ _ (List.getElem_mem ht) h3⟩
theorem Part.zero {α : Type} (k : Nat) (R : List Value → α → Prop) (ys : List Value) (xs : List α) : Part k R ys xs 0 := fun t ht hi => absurd hi (by omega)
theorem Part.next3 {α : Type} {R : List Value → α → Prop} {ys : List Value} {xs : List α} {i : Nat} (h : Part 3 R ys xs i) (hi : i < xs.length) (hy : ys.length = xs.length * 3) (d0 d1 d2 : Value) (hr : R [d0, d1, d2] xs[i]) :
    Part 3 R (((ys.set (i * 3) d0).set (i * 3 + 1) d1).set (i * 3 + 2) d2) xs (i + 1) := fun t ht hti => by
  by_cases e : t = i
  · subst e
    refine ⟨[d0, d1, d2], rfl, fun j u hj => ?_, hr⟩
    have hb : j < 3 := by have := (List.getElem?_eq_some_iff.1 hj).1; simpa using this
    match j, hb with
    | 0, _ => rw [List.getElem?_set_ne (by omega), List.getElem?_set_ne (by omega), Nat.add_zero, List.getElem?_set_self (by omega)]; simpa using hj
    | 1, _ => rw [List.getElem?_set_ne (by omega), List.getElem?_set_self (by simp; omega)]; simpa using hj
    | 2, _ => rw [List.getElem?_set_self (by simp; omega)]; simpa using hj
  · obtain ⟨cs, h1, h2, h3⟩ := h t ht (by omega)
    refine ⟨cs, h1, fun j u hj => ?_, h3⟩
    have hb : j < 3 := by have := (List.getElem?_eq_some_iff.1 hj).1; omega
    rw [List.getElem?_set_ne (by omega), List.getElem?_set_ne (by omega), List.getElem?_set_ne (by omega)]
    exact h2 j u hj
theorem Part.next1 {α : Type} {R : List Value → α → Prop} {ys : List Value} {xs : List α} {i : Nat} (h : Part 1 R ys xs i) (hi : i < xs.length) (hy : ys.length = xs.length * 1) (d0 : Value) (hr : R [d0] xs[i]) :
    Part 1 R (ys.set i d0) xs (i + 1) := fun t ht hti => by
  by_cases e : t = i
  · subst e
    refine ⟨[d0], rfl, fun j u hj => ?_, hr⟩
    have hb : j < 1 := by have := (List.getElem?_eq_some_iff.1 hj).1; simpa using this
    match j, hb with
    | 0, _ => rw [show t * 1 + 0 = t by omega, List.getElem?_set_self (by omega)]; simpa using hj
  · obtain ⟨cs, h1, h2, h3⟩ := h t ht (by omega)
    refine ⟨cs, h1, fun j u hj => ?_, h3⟩
    have hb : j < 1 := by have := (List.getElem?_eq_some_iff.1 hj).1; omega
    rw [List.getElem?_set_ne (by omega)]
    exact h2 j u hj
theorem owns_len {w : World} {base n size : Nat} {e : TypeId} {v : Value} {xs : List Value} (h : w.ownsRow base e size v n xs) : xs.length = n * size := h.1
theorem owns_below {w w' : World} {base n size : Nat} {e : TypeId} {v : Value} {xs : List Value} (h : w.ownsRow base e size v n xs) (hb : RowKit.Below w.heap.size w w') : w'.ownsRow base e size v n xs :=
  h.kept (row := none) ⟨hb.os, hb.tape, hb.output, hb.size, fun k hk _ => hb.block k hk⟩ (by cases v.ownBlock <;> simp)
theorem owns_stored3 {w : World} {base n cap g : Nat} {e : TypeId} {ys : List Value} (h : w.ownsRow base e 3 (.slice (some ⟨g, 0, none⟩) n cap) n ys) (o : Nat) (d0 d1 d2 : Value) :
    (w.setCells g o [d0, d1, d2]).ownsRow base e 3 (.slice (some ⟨g, 0, none⟩) n cap) n (((ys.set o d0).set (o + 1) d1).set (o + 2) d2) ∧ w.grownBy (w.setCells g o [d0, d1, d2]) (some g) := by
  have h0 := h.stored o d0
  have h1 := h0.1.stored (o + 1) d1
  have h2 := h1.1.stored (o + 2) d2
  refine ⟨h2.1, ⟨rfl, rfl, rfl, Nat.le_trans h0.2.size (Nat.le_trans h1.2.size h2.2.size), fun k hk hne => ?_⟩⟩
  have s0 := h0.2.size
  have s1 := h1.2.size
  exact (h2.2.block k (by omega) hne).trans ((h1.2.block k (by omega) hne).trans (h0.2.block k hk hne))
theorem owns_stored1 {w : World} {base n cap g : Nat} {e : TypeId} {ys : List Value} (h : w.ownsRow base e 1 (.slice (some ⟨g, 0, none⟩) n cap) n ys) (o : Nat) (d0 : Value) :
    (w.setCells g o [d0]).ownsRow base e 1 (.slice (some ⟨g, 0, none⟩) n cap) n (ys.set o d0) ∧ w.grownBy (w.setCells g o [d0]) (some g) := h.stored o d0
theorem owns_there {w : World} {base n cap g size : Nat} {e : TypeId} {ys : List Value} (h : w.ownsRow base e size (.slice (some ⟨g, 0, none⟩) n cap) n ys) (o m : Nat) (hm : o + m ≤ n * size) : w.there g o m := fun j hj => by
  refine ⟨?_, h.frozenAt _⟩
  rw [h.cellAt (o + j) (by omega), Option.isSome_iff_ne_none, ne_eq, List.getElem?_eq_none_iff, h.1]
  omega
theorem Made.row {α : Type} {L e k B B' : Nat} {w w' : World} {R : Nat → List Value → α → Prop} {R' : List Value → α → Prop} {v : Value} {xs : List α} (h : Made e k B w R v xs) (hL : xs.length ≤ L) (hL' : L ≤ maxLen) (hB : B' ≤ B) (hw : Keeps B w w')
    (hR : ∀ g cs x, B < g → x ∈ xs → R g cs x → R' cs x) : RowOf L B' w' k R' v xs := by
  rcases h with ⟨rfl, rfl⟩ | ⟨g, ys, rfl, ho, hp⟩
  · exact ⟨none, 0, rfl, by simp, by simp, by simp, by simp, by simp⟩
  · have hg := ho.lt g rfl
    refine ⟨_, _, rfl, hL, Nat.le_refl _, by omega, by simp, fun _ => ⟨g, 0, rfl, by omega, fun i hi => ?_⟩⟩
    obtain ⟨cs, h1, h2, h3⟩ := hp i hi hi
    refine ⟨cs, h1, fun j u hj => hw _ _ hg.1 ?_, hR _ _ _ (by omega) (List.getElem_mem hi) h3⟩
    have hj' : j < k := by have := (List.getElem?_eq_some_iff.1 hj).1; omega
    have hm : (i + 1) * k ≤ xs.length * k := Nat.mul_le_mul_right _ hi
    rw [Nat.add_mul] at hm
    rw [Nat.zero_add, ho.cellAt _ (by omega)]
    exact h2 j u hj
end Go.Tr
namespace Go.Proofs.YthikfifoomfjgaaGreat
open Go.RowKit Go.Tr
set_option linter.unusedVariables false
set_option linter.unusedSimpArgs false
section
attribute [local go_sem] run_store Option.isNone_none Option.isNone_some
set_option maxHeartbeats 1000000 in
theorem each_slot {α : Type} (L B : Nat) (hL : L ≤ 1099511627776) (R : World → List Value → α → Prop) (hR : Stands R) (h3 : Three R) (R' : Nat → World → List Value → α → Prop) (hK : ∀ B B' w w' cs x, B' ≤ B → Keeps B w w' → R' B w cs x → R' B' w' cs x) (h3' : ∀ B, Three (R' B))
    (g : Nat) (eg : ∀ args w, (callFunc g args).run Tryz.prog w = .ok (.enter g args) w)
    (hg : ∀ w cs x, R w cs x → Calls Tryz.prog g #[.agg cs.toArray] w fun e w' => ∃ ds, e = .returned (.agg ds.toArray) ∧ R' w.heap.size w' ds x ∧ Below w.heap.size w w')
    (w : World) (v : Value) (xs : List α) (hx : RowOf L B w 3 (R w) v xs) :
    Calls Tryz.prog 60 #[v, .func (.func g) #[] #[]] w fun e w' => ∃ v', e = .returned v' ∧ Made 35 3 w.heap.size w' (fun b => R' b w') v' xs ∧ Below w.heap.size w w' := by
  have HX := Lib.hid (fun wr (hb : Below w.heap.size w wr) => hx.imp hb fun cs x _ h => hR w wr cs x hb h)
  have HG := Lib.hid hg
  have HK := Lib.hid hK
  have H3 := Lib.hid h3'
  clear hg hK h3'
  obtain ⟨a1, cap1, rfl, q0, q1, q2, qn, -⟩ := hx
  unfold maxLen at q2
  have HN := Lib.hid qn
  clear qn
  cases a1 with
  | none =>
    have hz := HN.out rfl
    subst hz
    have hl : xs.length = 0 := by omega
    have hl2 : xs = [] := List.eq_nil_of_length_eq_zero hl
    subst hl2
    have hnil : ∀ w, Sem.run Tryz.prog (binOp .eql 26 (.slice none 0 0) (.slice none 0 0)) w = .ok (.bool true) w := by
      intro w
      exact run_eql_slice_nil w _ _ _ _ _ Tryz.underlying26
    go_enter Tryz.func60, Tryz.ntmps60
    go_wp2
    exact ⟨rfl, _, results_tmp rfl _ _ _, _, rfl, .inl ⟨rfl, rfl⟩, Below.refl _ _⟩
  | some ad =>
    have hnil : ∀ w, Sem.run Tryz.prog (binOp .eql 26 (.slice (some ad) xs.length cap1) (.slice none 0 0)) w = .ok (.bool false) w := by
      intro w
      exact run_eql_slice_nil w _ _ _ _ _ Tryz.underlying26
    go_enter Tryz.func60, Tryz.ntmps60
    obtain ⟨i3, hi3, hz3, hs3, hb3⟩ := info_parts (P := Tryz.prog) (e := 35) (z := .agg #[.int .i64 0, .slice none 0 0, .slice none 0 0]) (size := 3) (bytes := 56) (by kernel_rfl)
    go_wp2_with ((refine wpList_make_full _ rfl _ _ 26 rfl w.heap.size 35 i3 _ 3 Tryz.underlying26 hi3 hz3 hs3 .i64 .i64 _ _ xs.length (by simp [go_sem]) (by simp [go_sem]) rfl rfl (by rw [hb3]; omega) (by unfold maxLen; omega) (Nat.le_refl _) ?_; intro w1 ho1 hg1))
    have h1g := ho1.lt _ rfl
    have h1s := hg1.size
    have b1 : Below w.heap.size w w1 := (Below.refl _ _).grown hg1 (Nat.le_refl _) (by simp)
    have HO := Lib.hid ho1
    have HB := Lib.hid b1
    clear ho1 hg1 b1
    go_loopw [14] (fun i wr => ∃ (k : Nat) (ys : List Value), k ≤ xs.length ∧ i = .int .i64 k ∧ Below w.heap.size w wr ∧ w.heap.size < wr.heap.size ∧ Hid (wr.ownsRow w.heap.size 35 3 (.slice (some ⟨w.heap.size, 0, none⟩) xs.length xs.length) xs.length ys) ∧ Hid (Part 3 (R' (w.heap.size + 1) wr) ys xs k)) (fun i _ => xs.length - (intOf i).toNat)
    case atStart => exact ⟨0, _, by omega, rfl, HB.out, h1g.2, HO.out, Part.zero _ _ _ _⟩
    case round =>
      obtain ⟨k, ys, hk, rfl, hb, hsz, hown, hpart⟩ := hrel
      by_cases hlt : k < xs.length
      · obtain ⟨bx, ox, c0, c1, c2, e1, -, m0, m1, m2, n0, n1, n2, rx⟩ := (HX.out wr hb).get3 h3 k hlt
        cases e1
        have HC := Lib.hid (fun w' (hb' : Below wr.heap.size wr w') => HG.out w' _ _ (hR _ _ _ _ hb' rx))
        clear rx
        have bl := block_lt_of_cell m0
        have HS := Lib.hid (fun w' ds (b' : Below wr.heap.size wr w') (rd : R' wr.heap.size w' ds xs[k]) => (show ∃ d0 d1 d2, ds = [d0, d1, d2] ∧ d0.oneCell' = true ∧ d1.oneCell' = true ∧ d2.oneCell' = true ∧ w'.there w.heap.size (k * 3) 3 ∧
            (w'.setCells w.heap.size (k * 3) [d0, d1, d2]).ownsRow w.heap.size 35 3 (.slice (some ⟨w.heap.size, 0, none⟩) xs.length xs.length) xs.length (((ys.set (k * 3) d0).set (k * 3 + 1) d1).set (k * 3 + 2) d2) ∧
            Part 3 (R' (w.heap.size + 1) (w'.setCells w.heap.size (k * 3) [d0, d1, d2])) (((ys.set (k * 3) d0).set (k * 3 + 1) d1).set (k * 3 + 2) d2) xs (k + 1) ∧
            Below w.heap.size w (w'.setCells w.heap.size (k * 3) [d0, d1, d2]) ∧ w.heap.size < (w'.setCells w.heap.size (k * 3) [d0, d1, d2]).heap.size by
          obtain ⟨d0, d1, d2, rfl, o0, o1, o2⟩ := H3.out _ _ _ _ rd
          have ho := owns_below hown.out b'
          have hs := owns_stored3 ho (k * 3) d0 d1 d2
          have kp : Keeps (w.heap.size + 1) w' (w'.setCells w.heap.size (k * 3) [d0, d1, d2]) := .grown hs.2 (by simp)
          refine ⟨d0, d1, d2, rfl, o0, o1, o2, owns_there ho _ _ (by omega), hs.1, ?_, (hb.nx b').grown hs.2 (by have := b'.size; omega) (by simp), by have := b'.size; have := hs.2.size; omega⟩
          refine Part.next3 ?_ hlt ho.1 _ _ _ (HK.out _ _ _ _ _ _ (by omega) (kp.mono (by omega)) rd)
          exact hpart.out.imp fun cs x _ h => HK.out _ _ _ _ _ _ (Nat.le_refl _) kp (HK.out _ _ _ _ _ _ (Nat.le_refl _) (.of_below b') h)))
        clear hown hpart
        go_wp2
        refine (HC.out _ (Below.refl _ _)).mono ?_; rintro e w' ⟨ds, rfl, rd, b'⟩
        obtain ⟨d0, d1, d2, rfl, o0, o1, o2, hth, h5, h6, h7, h8⟩ := HS.out w' ds b' rd
        have H5 := Lib.hid h5
        have H6 := Lib.hid h6
        have H7 := Lib.hid h7
        clear HS HC rd b' h5 h6 h7
        have hz : w.heap.size < w'.heap.size := by
          have := hth 0 (by omega)
          obtain ⟨u, hu⟩ := Option.isSome_iff_exists.1 this.1
          exact block_lt_of_cell hu
        go_wp2_with (refine wpList_store_mid rfl _ _ _ rfl w.heap.size (k * 3) #[d0, d1, d2] (by simp [go_sem]) (by simp [go_sem]) hth (by kernel_rfl) (by simp [o0, o1, o2]) ?_)
        refine ⟨⟨k + 1, _, by omega, rfl, H7.out, h8, H5.out, H6.out⟩, ?_⟩
        simp only [intOf, Int.toNat_natCast]
        omega
      · have hkl : k = xs.length := by omega
        subst hkl
        go_wp2
        exact ⟨rfl, .slice (some ⟨w.heap.size, 0, none⟩) xs.length xs.length, results_tmp (t := 4) rfl _ _ _, _, rfl, .inr ⟨_, _, rfl, hown.out, hpart.out⟩, hb⟩
set_option maxHeartbeats 1000000 in
theorem each_val {α : Type} (L B : Nat) (hL : L ≤ 1099511627776) (R : World → List Value → α → Prop) (hR : Stands R) (h3 : Three R) (R' : Nat → World → List Value → α → Prop) (hK : ∀ B B' w w' cs x, B' ≤ B → Keeps B w w' → R' B w cs x → R' B' w' cs x) (h3' : ∀ B, Three (R' B))
    (g : Nat) (eg : ∀ args w, (callFunc g args).run Tryz.prog w = .ok (.enter g args) w)
    (hg : ∀ w cs x, R w cs x → Calls Tryz.prog g #[.agg cs.toArray] w fun e w' => ∃ ds, e = .returned (.agg ds.toArray) ∧ R' w.heap.size w' ds x ∧ Below w.heap.size w w')
    (w : World) (v : Value) (xs : List α) (hx : RowOf L B w 3 (R w) v xs) :
    Calls Tryz.prog 86 #[v, .func (.func g) #[] #[]] w fun e w' => ∃ v', e = .returned v' ∧ Made 39 3 w.heap.size w' (fun b => R' b w') v' xs ∧ Below w.heap.size w w' := by
  have HX := Lib.hid (fun wr (hb : Below w.heap.size w wr) => hx.imp hb fun cs x _ h => hR w wr cs x hb h)
  have HG := Lib.hid hg
  have HK := Lib.hid hK
  have H3 := Lib.hid h3'
  clear hg hK h3'
  obtain ⟨a1, cap1, rfl, q0, q1, q2, qn, -⟩ := hx
  unfold maxLen at q2
  have HN := Lib.hid qn
  clear qn
  cases a1 with
  | none =>
    have hz := HN.out rfl
    subst hz
    have hl : xs.length = 0 := by omega
    have hl2 : xs = [] := List.eq_nil_of_length_eq_zero hl
    subst hl2
    have hnil : ∀ w, Sem.run Tryz.prog (binOp .eql 33 (.slice none 0 0) (.slice none 0 0)) w = .ok (.bool true) w := by
      intro w
      exact run_eql_slice_nil w _ _ _ _ _ Tryz.underlying33
    go_enter Tryz.func86, Tryz.ntmps86
    go_wp2
    exact ⟨rfl, _, results_tmp rfl _ _ _, _, rfl, .inl ⟨rfl, rfl⟩, Below.refl _ _⟩
  | some ad =>
    have hnil : ∀ w, Sem.run Tryz.prog (binOp .eql 33 (.slice (some ad) xs.length cap1) (.slice none 0 0)) w = .ok (.bool false) w := by
      intro w
      exact run_eql_slice_nil w _ _ _ _ _ Tryz.underlying33
    go_enter Tryz.func86, Tryz.ntmps86
    obtain ⟨i3, hi3, hz3, hs3, hb3⟩ := info_parts (P := Tryz.prog) (e := 39) (z := .agg #[.int .i64 0, .string "".toUTF8, .slice none 0 0]) (size := 3) (bytes := 48) (by kernel_rfl)
    go_wp2_with ((refine wpList_make_full _ rfl _ _ 33 rfl w.heap.size 39 i3 _ 3 Tryz.underlying33 hi3 hz3 hs3 .i64 .i64 _ _ xs.length (by simp [go_sem]) (by simp [go_sem]) rfl rfl (by rw [hb3]; omega) (by unfold maxLen; omega) (Nat.le_refl _) ?_; intro w1 ho1 hg1))
    have h1g := ho1.lt _ rfl
    have h1s := hg1.size
    have b1 : Below w.heap.size w w1 := (Below.refl _ _).grown hg1 (Nat.le_refl _) (by simp)
    have HO := Lib.hid ho1
    have HB := Lib.hid b1
    clear ho1 hg1 b1
    go_loopw [14] (fun i wr => ∃ (k : Nat) (ys : List Value), k ≤ xs.length ∧ i = .int .i64 k ∧ Below w.heap.size w wr ∧ w.heap.size < wr.heap.size ∧ Hid (wr.ownsRow w.heap.size 39 3 (.slice (some ⟨w.heap.size, 0, none⟩) xs.length xs.length) xs.length ys) ∧ Hid (Part 3 (R' (w.heap.size + 1) wr) ys xs k)) (fun i _ => xs.length - (intOf i).toNat)
    case atStart => exact ⟨0, _, by omega, rfl, HB.out, h1g.2, HO.out, Part.zero _ _ _ _⟩
    case round =>
      obtain ⟨k, ys, hk, rfl, hb, hsz, hown, hpart⟩ := hrel
      by_cases hlt : k < xs.length
      · obtain ⟨bx, ox, c0, c1, c2, e1, -, m0, m1, m2, n0, n1, n2, rx⟩ := (HX.out wr hb).get3 h3 k hlt
        cases e1
        have HC := Lib.hid (fun w' (hb' : Below wr.heap.size wr w') => HG.out w' _ _ (hR _ _ _ _ hb' rx))
        clear rx
        have bl := block_lt_of_cell m0
        have HS := Lib.hid (fun w' ds (b' : Below wr.heap.size wr w') (rd : R' wr.heap.size w' ds xs[k]) => (show ∃ d0 d1 d2, ds = [d0, d1, d2] ∧ d0.oneCell' = true ∧ d1.oneCell' = true ∧ d2.oneCell' = true ∧ w'.there w.heap.size (k * 3) 3 ∧
            (w'.setCells w.heap.size (k * 3) [d0, d1, d2]).ownsRow w.heap.size 39 3 (.slice (some ⟨w.heap.size, 0, none⟩) xs.length xs.length) xs.length (((ys.set (k * 3) d0).set (k * 3 + 1) d1).set (k * 3 + 2) d2) ∧
            Part 3 (R' (w.heap.size + 1) (w'.setCells w.heap.size (k * 3) [d0, d1, d2])) (((ys.set (k * 3) d0).set (k * 3 + 1) d1).set (k * 3 + 2) d2) xs (k + 1) ∧
            Below w.heap.size w (w'.setCells w.heap.size (k * 3) [d0, d1, d2]) ∧ w.heap.size < (w'.setCells w.heap.size (k * 3) [d0, d1, d2]).heap.size by
          obtain ⟨d0, d1, d2, rfl, o0, o1, o2⟩ := H3.out _ _ _ _ rd
          have ho := owns_below hown.out b'
          have hs := owns_stored3 ho (k * 3) d0 d1 d2
          have kp : Keeps (w.heap.size + 1) w' (w'.setCells w.heap.size (k * 3) [d0, d1, d2]) := .grown hs.2 (by simp)
          refine ⟨d0, d1, d2, rfl, o0, o1, o2, owns_there ho _ _ (by omega), hs.1, ?_, (hb.nx b').grown hs.2 (by have := b'.size; omega) (by simp), by have := b'.size; have := hs.2.size; omega⟩
          refine Part.next3 ?_ hlt ho.1 _ _ _ (HK.out _ _ _ _ _ _ (by omega) (kp.mono (by omega)) rd)
          exact hpart.out.imp fun cs x _ h => HK.out _ _ _ _ _ _ (Nat.le_refl _) kp (HK.out _ _ _ _ _ _ (Nat.le_refl _) (.of_below b') h)))
        clear hown hpart
        go_wp2
        refine (HC.out _ (Below.refl _ _)).mono ?_; rintro e w' ⟨ds, rfl, rd, b'⟩
        obtain ⟨d0, d1, d2, rfl, o0, o1, o2, hth, h5, h6, h7, h8⟩ := HS.out w' ds b' rd
        have H5 := Lib.hid h5
        have H6 := Lib.hid h6
        have H7 := Lib.hid h7
        clear HS HC rd b' h5 h6 h7
        have hz : w.heap.size < w'.heap.size := by
          have := hth 0 (by omega)
          obtain ⟨u, hu⟩ := Option.isSome_iff_exists.1 this.1
          exact block_lt_of_cell hu
        go_wp2_with (refine wpList_store_mid rfl _ _ _ rfl w.heap.size (k * 3) #[d0, d1, d2] (by simp [go_sem]) (by simp [go_sem]) hth (by kernel_rfl) (by simp [o0, o1, o2]) ?_)
        refine ⟨⟨k + 1, _, by omega, rfl, H7.out, h8, H5.out, H6.out⟩, ?_⟩
        simp only [intOf, Int.toNat_natCast]
        omega
      · have hkl : k = xs.length := by omega
        subst hkl
        go_wp2
        exact ⟨rfl, .slice (some ⟨w.heap.size, 0, none⟩) xs.length xs.length, results_tmp (t := 4) rfl _ _ _, _, rfl, .inr ⟨_, _, rfl, hown.out, hpart.out⟩, hb⟩
set_option maxHeartbeats 1000000 in
theorem each_msg {α : Type} (L B : Nat) (hL : L ≤ 1099511627776) (R : World → List Value → α → Prop) (hR : Stands R) (h3 : One R) (R' : Nat → World → List Value → α → Prop) (hK : ∀ B B' w w' cs x, B' ≤ B → Keeps B w w' → R' B w cs x → R' B' w' cs x) (h3' : ∀ B, One (R' B))
    (g : Nat) (eg : ∀ args w, (callFunc g args).run Tryz.prog w = .ok (.enter g args) w)
    (hg : ∀ w cs x, R w cs x → Calls Tryz.prog g #[.agg cs.toArray] w fun e w' => ∃ ds, e = .returned (.agg ds.toArray) ∧ R' w.heap.size w' ds x ∧ Below w.heap.size w w')
    (w : World) (v : Value) (xs : List α) (hx : RowOf L B w 1 (R w) v xs) :
    Calls Tryz.prog 115 #[v, .func (.func g) #[] #[]] w fun e w' => ∃ v', e = .returned v' ∧ Made 28 1 w.heap.size w' (fun b => R' b w') v' xs ∧ Below w.heap.size w w' := by
  have HX := Lib.hid (fun wr (hb : Below w.heap.size w wr) => hx.imp hb fun cs x _ h => hR w wr cs x hb h)
  have HG := Lib.hid hg
  have HK := Lib.hid hK
  have H3 := Lib.hid h3'
  clear hg hK h3'
  obtain ⟨a1, cap1, rfl, q0, q1, q2, qn, -⟩ := hx
  unfold maxLen at q2
  have HN := Lib.hid qn
  clear qn
  cases a1 with
  | none =>
    have hz := HN.out rfl
    subst hz
    have hl : xs.length = 0 := by omega
    have hl2 : xs = [] := List.eq_nil_of_length_eq_zero hl
    subst hl2
    have hnil : ∀ w, Sem.run Tryz.prog (binOp .eql 37 (.slice none 0 0) (.slice none 0 0)) w = .ok (.bool true) w := by
      intro w
      exact run_eql_slice_nil w _ _ _ _ _ Tryz.underlying37
    go_enter Tryz.func115, Tryz.ntmps115
    go_wp2
    exact ⟨rfl, _, results_tmp rfl _ _ _, _, rfl, .inl ⟨rfl, rfl⟩, Below.refl _ _⟩
  | some ad =>
    have hnil : ∀ w, Sem.run Tryz.prog (binOp .eql 37 (.slice (some ad) xs.length cap1) (.slice none 0 0)) w = .ok (.bool false) w := by
      intro w
      exact run_eql_slice_nil w _ _ _ _ _ Tryz.underlying37
    go_enter Tryz.func115, Tryz.ntmps115
    obtain ⟨i3, hi3, hz3, hs3, hb3⟩ := info_parts (P := Tryz.prog) (e := 28) (z := .agg #[.slice none 0 0]) (size := 1) (bytes := 24) (by kernel_rfl)
    go_wp2_with ((refine wpList_make_full _ rfl _ _ 37 rfl w.heap.size 28 i3 _ 1 Tryz.underlying37 hi3 hz3 hs3 .i64 .i64 _ _ xs.length (by simp [go_sem]) (by simp [go_sem]) rfl rfl (by rw [hb3]; omega) (by unfold maxLen; omega) (Nat.le_refl _) ?_; intro w1 ho1 hg1))
    have h1g := ho1.lt _ rfl
    have h1s := hg1.size
    have b1 : Below w.heap.size w w1 := (Below.refl _ _).grown hg1 (Nat.le_refl _) (by simp)
    have HO := Lib.hid ho1
    have HB := Lib.hid b1
    clear ho1 hg1 b1
    go_loopw [14] (fun i wr => ∃ (k : Nat) (ys : List Value), k ≤ xs.length ∧ i = .int .i64 k ∧ Below w.heap.size w wr ∧ w.heap.size < wr.heap.size ∧ Hid (wr.ownsRow w.heap.size 28 1 (.slice (some ⟨w.heap.size, 0, none⟩) xs.length xs.length) xs.length ys) ∧ Hid (Part 1 (R' (w.heap.size + 1) wr) ys xs k)) (fun i _ => xs.length - (intOf i).toNat)
    case atStart => exact ⟨0, _, by omega, rfl, HB.out, h1g.2, HO.out, Part.zero _ _ _ _⟩
    case round =>
      obtain ⟨k, ys, hk, rfl, hb, hsz, hown, hpart⟩ := hrel
      by_cases hlt : k < xs.length
      · obtain ⟨bx, ox, c0, e1, -, m0, n0, rx⟩ := (HX.out wr hb).get1 h3 k hlt
        cases e1
        have HC := Lib.hid (fun w' (hb' : Below wr.heap.size wr w') => HG.out w' _ _ (hR _ _ _ _ hb' rx))
        clear rx
        have bl := block_lt_of_cell m0
        have HS := Lib.hid (fun w' ds (b' : Below wr.heap.size wr w') (rd : R' wr.heap.size w' ds xs[k]) => (show ∃ d0, ds = [d0] ∧ d0.oneCell' = true ∧ w'.there w.heap.size k 1 ∧
            (w'.setCells w.heap.size k [d0]).ownsRow w.heap.size 28 1 (.slice (some ⟨w.heap.size, 0, none⟩) xs.length xs.length) xs.length (ys.set k d0) ∧
            Part 1 (R' (w.heap.size + 1) (w'.setCells w.heap.size k [d0])) (ys.set k d0) xs (k + 1) ∧
            Below w.heap.size w (w'.setCells w.heap.size k [d0]) ∧ w.heap.size < (w'.setCells w.heap.size k [d0]).heap.size by
          obtain ⟨d0, rfl, o0⟩ := H3.out _ _ _ _ rd
          have ho := owns_below hown.out b'
          have hs := owns_stored1 ho k d0
          have kp : Keeps (w.heap.size + 1) w' (w'.setCells w.heap.size k [d0]) := .grown hs.2 (by simp)
          refine ⟨d0, rfl, o0, owns_there ho _ _ (by omega), hs.1, ?_, (hb.nx b').grown hs.2 (by have := b'.size; omega) (by simp), by have := b'.size; have := hs.2.size; omega⟩
          refine Part.next1 ?_ hlt ho.1 _ (HK.out _ _ _ _ _ _ (by omega) (kp.mono (by omega)) rd)
          exact hpart.out.imp fun cs x _ h => HK.out _ _ _ _ _ _ (Nat.le_refl _) kp (HK.out _ _ _ _ _ _ (Nat.le_refl _) (.of_below b') h)))
        clear hown hpart
        go_wp2
        refine (HC.out _ (Below.refl _ _)).mono ?_; rintro e w' ⟨ds, rfl, rd, b'⟩
        obtain ⟨d0, rfl, o0, hth, h5, h6, h7, h8⟩ := HS.out w' ds b' rd
        have H5 := Lib.hid h5
        have H6 := Lib.hid h6
        have H7 := Lib.hid h7
        clear HS HC rd b' h5 h6 h7
        have hz : w.heap.size < w'.heap.size := by
          have := hth 0 (by omega)
          obtain ⟨u, hu⟩ := Option.isSome_iff_exists.1 this.1
          exact block_lt_of_cell hu
        go_wp2_with (refine wpList_store_mid rfl _ _ _ rfl w.heap.size k #[d0] (by simp [go_sem]) (by simp [go_sem]) hth (by kernel_rfl) (by simp [o0]) ?_)
        refine ⟨⟨k + 1, _, by omega, rfl, H7.out, h8, H5.out, H6.out⟩, ?_⟩
        simp only [intOf, Int.toNat_natCast]
        omega
      · have hkl : k = xs.length := by omega
        subst hkl
        go_wp2
        exact ⟨rfl, .slice (some ⟨w.heap.size, 0, none⟩) xs.length xs.length, results_tmp (t := 4) rfl _ _ _, _, rfl, .inr ⟨_, _, rfl, hown.out, hpart.out⟩, hb⟩
end
end Go.Proofs.YthikfifoomfjgaaGreat
