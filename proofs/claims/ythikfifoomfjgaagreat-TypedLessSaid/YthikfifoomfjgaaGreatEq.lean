/- Contracts of slices.EqualFunc at slots, values and messages: do two rows have as many elements, in order the same? -/
import Derived.Test.YthikfifoomfjgaaGreatRows
import Derived.Test.YthikfifoomfjgaaGreatTree
import Derived.Shelf.Abstract
namespace Go.Tr
theorem al2 (w : World) (o p : Obj) : RowKit.Below w.heap.size w ((w.alloc o).alloc p) := RowKit.Below.nx (al1 w o) (al1 _ p)
def eqAll {α : Type} (eq : α → α → Bool) (xs ys : List α) : Bool := decide (xs.length = ys.length) && (xs.zip ys).all fun p => eq p.1 p.2
theorem eqAll_stop {α : Type} (eq : α → α → Bool) (xs ys : List α) (k : Nat) (h1 : k < xs.length) (h2 : k < ys.length) (h : eq xs[k] ys[k] = false) : eqAll eq xs ys = false := by
  simp only [eqAll, Bool.and_eq_false_iff]
  right
  rw [List.all_eq_false]
  exact ⟨(xs[k], ys[k]), by rw [List.mem_iff_getElem]; exact ⟨k, by simp; omega, by simp⟩, by simp [h]⟩
theorem eqAll_end {α : Type} (eq : α → α → Bool) (xs ys : List α) (hl : xs.length = ys.length) (h : ∀ j (h1 : j < xs.length) (h2 : j < ys.length), eq xs[j] ys[j] = true) : eqAll eq xs ys = true := by
  simp only [eqAll, Bool.and_eq_true, decide_eq_true_eq, List.all_eq_true]
  refine ⟨hl, fun p hp => ?_⟩
  obtain ⟨j, hj, rfl⟩ := List.mem_iff_getElem.1 hp
  simp only [List.length_zip] at hj
  simp only [List.getElem_zip]
  exact h j (by omega) (by omega)
end Go.Tr
namespace Go.Proofs.YthikfifoomfjgaaGreat
open Go.RowKit Go.Tr
set_option linter.unusedVariables false
set_option linter.unusedSimpArgs false
section
attribute [local go_sem] run_store
set_option maxHeartbeats 1000000 in
theorem equalFunc_slot {α : Type} (L B : Nat) (hL : L ≤ maxLen) (R : World → List Value → α → Prop) (hR : Stands R) (h3 : Three R) (eq : α → α → Bool) (g : Nat) (eg : ∀ args w, (callFunc g args).run Tryz.prog w = .ok (.enter g args) w)
    (hg : ∀ w cs ds x y, R w cs x → R w ds y → Calls Tryz.prog g #[.agg cs.toArray, .agg ds.toArray] w fun e w' => e = .returned (.bool (eq x y)) ∧ Below w.heap.size w w')
    (w : World) (v1 v2 : Value) (xs ys : List α) (hx : RowOf L B w 3 (R w) v1 xs) (hy : RowOf L B w 3 (R w) v2 ys) :
    Calls Tryz.prog 109 #[v1, v2, .func (.func g) #[] #[]] w fun e w' => e = .returned (.bool (eqAll eq xs ys)) ∧ Below w.heap.size w w' := by
  have HX := Lib.hid (fun wr (hb : Below w.heap.size w wr) => hx.imp hb fun cs x _ h => hR w wr cs x hb h)
  have HY := Lib.hid (fun wr (hb : Below w.heap.size w wr) => hy.imp hb fun cs x _ h => hR w wr cs x hb h)
  have HG := Lib.hid hg
  clear hg
  obtain ⟨a1, cap1, rfl, q0, q1, q2, -, -⟩ := hx
  obtain ⟨a2, cap2, rfl, r0, r1, r2, -, -⟩ := hy
  unfold maxLen at hL q2 r2
  by_cases hl : xs.length = ys.length
  · have hne : ((xs.length : Int) != (ys.length : Int)) = false := by rw [hl]; simp
    have HL := Lib.hid hl
    have hl1 : xs.length ≤ ys.length := by omega
    have hl2 : ys.length ≤ xs.length := by omega
    clear hl
    go_enter Tryz.func109, Tryz.ntmps109
    go_wp2
    go_loopw [17] (fun i wr => ∃ k : Nat, k ≤ xs.length ∧ i = .int .i64 k ∧ Below w.heap.size w wr ∧ Hid (∀ j (h1 : j < xs.length) (h2 : j < ys.length), j < k → eq xs[j] ys[j] = true)) (fun i _ => xs.length - (intOf i).toNat)
    case atStart => exact ⟨0, by omega, rfl, Below.refl _ _, (fun j h1 h2 h => absurd h (by omega))⟩
    case round =>
      obtain ⟨k, hk, rfl, hb, hall⟩ := hrel
      by_cases hlt : k < xs.length
      · have hlt2 : k < ys.length := by omega
        obtain ⟨b1, o1, c0, c1, c2, e1, -, m0, m1, m2, n0, n1, n2, rx⟩ := (HX.out wr hb).get3 h3 k hlt
        obtain ⟨b2, o2, d0, d1, d2, e2, -, p0, p1, p2, z0, z1, z2, ry⟩ := (HY.out wr hb).get3 h3 k hlt2
        subst e1 e2
        have HC := Lib.hid (fun w' (hb' : Below wr.heap.size wr w') => HG.out w' _ _ _ _ (hR _ _ _ _ hb' rx) (hR _ _ _ _ hb' ry))
        clear rx ry
        have hbz := hb.size
        have bl := block_lt_of_cell m0
        have bl2 := block_lt_of_cell p0
        cases hq : eq xs[k] ys[k] with
        | true =>
          have hnew : ∀ j (h1 : j < xs.length) (h2 : j < ys.length), j < k + 1 → eq xs[j] ys[j] = true := by
            intro j h1 h2 hj
            rcases Nat.lt_or_ge j k with h | h
            · exact hall.out j h1 h2 h
            · have : j = k := by omega
              subst this; exact hq
          have HN := Lib.hid hnew
          rw [hq] at HC
          clear hnew hq
          go_wp2
          refine (HC.out _ (al2 _ _ _)).mono ?_; rintro e w' ⟨rfl, b'⟩
          go_wp2
          refine ⟨⟨k + 1, by omega, rfl, hb.nx ((al2 _ _ _).nx b'), HN.out⟩, ?_⟩
          simp only [intOf, Int.toNat_natCast]
          omega
        | false =>
          have HN := Lib.hid (eqAll_stop eq xs ys k hlt hlt2 hq)
          rw [hq] at HC
          clear hq
          go_wp2
          refine (HC.out _ (al2 _ _ _)).mono ?_; rintro e w' ⟨rfl, b'⟩
          go_wp2
          exact ⟨rfl, _, results_tmp rfl _ _ _, by rw [HN.out]; rfl, hb.nx ((al2 _ _ _).nx b')⟩
      · have hkl : k = xs.length := by omega
        have HN := Lib.hid (eqAll_end eq xs ys HL.out fun j h1 h2 => hall.out j h1 h2 (by omega))
        subst hkl
        go_wp2
        exact ⟨rfl, _, results_tmp rfl _ _ _, by rw [HN.out]; rfl, hb⟩
  · have hne : ((xs.length : Int) != (ys.length : Int)) = true := by simp; omega
    have HN := Lib.hid (show eqAll eq xs ys = false by simp [eqAll, hl])
    clear hl
    go_enter Tryz.func109, Tryz.ntmps109
    go_wp2
    exact ⟨rfl, _, results_tmp rfl _ _ _, by rw [HN.out]; rfl, Below.refl _ _⟩
set_option maxHeartbeats 1000000 in
theorem equalFunc_val {α : Type} (L B : Nat) (hL : L ≤ maxLen) (R : World → List Value → α → Prop) (hR : Stands R) (h3 : Three R) (eq : α → α → Bool) (g : Nat) (eg : ∀ args w, (callFunc g args).run Tryz.prog w = .ok (.enter g args) w)
    (hg : ∀ w cs ds x y, R w cs x → R w ds y → Calls Tryz.prog g #[.agg cs.toArray, .agg ds.toArray] w fun e w' => e = .returned (.bool (eq x y)) ∧ Below w.heap.size w w')
    (w : World) (v1 v2 : Value) (xs ys : List α) (hx : RowOf L B w 3 (R w) v1 xs) (hy : RowOf L B w 3 (R w) v2 ys) :
    Calls Tryz.prog 110 #[v1, v2, .func (.func g) #[] #[]] w fun e w' => e = .returned (.bool (eqAll eq xs ys)) ∧ Below w.heap.size w w' := by
  have HX := Lib.hid (fun wr (hb : Below w.heap.size w wr) => hx.imp hb fun cs x _ h => hR w wr cs x hb h)
  have HY := Lib.hid (fun wr (hb : Below w.heap.size w wr) => hy.imp hb fun cs x _ h => hR w wr cs x hb h)
  have HG := Lib.hid hg
  clear hg
  obtain ⟨a1, cap1, rfl, q0, q1, q2, -, -⟩ := hx
  obtain ⟨a2, cap2, rfl, r0, r1, r2, -, -⟩ := hy
  unfold maxLen at hL q2 r2
  by_cases hl : xs.length = ys.length
  · have hne : ((xs.length : Int) != (ys.length : Int)) = false := by rw [hl]; simp
    have HL := Lib.hid hl
    have hl1 : xs.length ≤ ys.length := by omega
    have hl2 : ys.length ≤ xs.length := by omega
    clear hl
    go_enter Tryz.func110, Tryz.ntmps110
    go_wp2
    go_loopw [17] (fun i wr => ∃ k : Nat, k ≤ xs.length ∧ i = .int .i64 k ∧ Below w.heap.size w wr ∧ Hid (∀ j (h1 : j < xs.length) (h2 : j < ys.length), j < k → eq xs[j] ys[j] = true)) (fun i _ => xs.length - (intOf i).toNat)
    case atStart => exact ⟨0, by omega, rfl, Below.refl _ _, (fun j h1 h2 h => absurd h (by omega))⟩
    case round =>
      obtain ⟨k, hk, rfl, hb, hall⟩ := hrel
      by_cases hlt : k < xs.length
      · have hlt2 : k < ys.length := by omega
        obtain ⟨b1, o1, c0, c1, c2, e1, -, m0, m1, m2, n0, n1, n2, rx⟩ := (HX.out wr hb).get3 h3 k hlt
        obtain ⟨b2, o2, d0, d1, d2, e2, -, p0, p1, p2, z0, z1, z2, ry⟩ := (HY.out wr hb).get3 h3 k hlt2
        subst e1 e2
        have HC := Lib.hid (fun w' (hb' : Below wr.heap.size wr w') => HG.out w' _ _ _ _ (hR _ _ _ _ hb' rx) (hR _ _ _ _ hb' ry))
        clear rx ry
        have hbz := hb.size
        have bl := block_lt_of_cell m0
        have bl2 := block_lt_of_cell p0
        cases hq : eq xs[k] ys[k] with
        | true =>
          have hnew : ∀ j (h1 : j < xs.length) (h2 : j < ys.length), j < k + 1 → eq xs[j] ys[j] = true := by
            intro j h1 h2 hj
            rcases Nat.lt_or_ge j k with h | h
            · exact hall.out j h1 h2 h
            · have : j = k := by omega
              subst this; exact hq
          have HN := Lib.hid hnew
          rw [hq] at HC
          clear hnew hq
          go_wp2
          refine (HC.out _ (al2 _ _ _)).mono ?_; rintro e w' ⟨rfl, b'⟩
          go_wp2
          refine ⟨⟨k + 1, by omega, rfl, hb.nx ((al2 _ _ _).nx b'), HN.out⟩, ?_⟩
          simp only [intOf, Int.toNat_natCast]
          omega
        | false =>
          have HN := Lib.hid (eqAll_stop eq xs ys k hlt hlt2 hq)
          rw [hq] at HC
          clear hq
          go_wp2
          refine (HC.out _ (al2 _ _ _)).mono ?_; rintro e w' ⟨rfl, b'⟩
          go_wp2
          exact ⟨rfl, _, results_tmp rfl _ _ _, by rw [HN.out]; rfl, hb.nx ((al2 _ _ _).nx b')⟩
      · have hkl : k = xs.length := by omega
        have HN := Lib.hid (eqAll_end eq xs ys HL.out fun j h1 h2 => hall.out j h1 h2 (by omega))
        subst hkl
        go_wp2
        exact ⟨rfl, _, results_tmp rfl _ _ _, by rw [HN.out]; rfl, hb⟩
  · have hne : ((xs.length : Int) != (ys.length : Int)) = true := by simp; omega
    have HN := Lib.hid (show eqAll eq xs ys = false by simp [eqAll, hl])
    clear hl
    go_enter Tryz.func110, Tryz.ntmps110
    go_wp2
    exact ⟨rfl, _, results_tmp rfl _ _ _, by rw [HN.out]; rfl, Below.refl _ _⟩
set_option maxHeartbeats 1000000 in
theorem equalFunc_msg {α : Type} (L B : Nat) (hL : L ≤ maxLen) (R : World → List Value → α → Prop) (hR : Stands R) (h3 : One R) (eq : α → α → Bool) (g : Nat) (eg : ∀ args w, (callFunc g args).run Tryz.prog w = .ok (.enter g args) w)
    (hg : ∀ w cs ds x y, R w cs x → R w ds y → Calls Tryz.prog g #[.agg cs.toArray, .agg ds.toArray] w fun e w' => e = .returned (.bool (eq x y)) ∧ Below w.heap.size w w')
    (w : World) (v1 v2 : Value) (xs ys : List α) (hx : RowOf L B w 1 (R w) v1 xs) (hy : RowOf L B w 1 (R w) v2 ys) :
    Calls Tryz.prog 137 #[v1, v2, .func (.func g) #[] #[]] w fun e w' => e = .returned (.bool (eqAll eq xs ys)) ∧ Below w.heap.size w w' := by
  have HX := Lib.hid (fun wr (hb : Below w.heap.size w wr) => hx.imp hb fun cs x _ h => hR w wr cs x hb h)
  have HY := Lib.hid (fun wr (hb : Below w.heap.size w wr) => hy.imp hb fun cs x _ h => hR w wr cs x hb h)
  have HG := Lib.hid hg
  clear hg
  obtain ⟨a1, cap1, rfl, q0, q1, q2, -, -⟩ := hx
  obtain ⟨a2, cap2, rfl, r0, r1, r2, -, -⟩ := hy
  unfold maxLen at hL q2 r2
  by_cases hl : xs.length = ys.length
  · have hne : ((xs.length : Int) != (ys.length : Int)) = false := by rw [hl]; simp
    have HL := Lib.hid hl
    have hl1 : xs.length ≤ ys.length := by omega
    have hl2 : ys.length ≤ xs.length := by omega
    clear hl
    go_enter Tryz.func137, Tryz.ntmps137
    go_wp2
    go_loopw [17] (fun i wr => ∃ k : Nat, k ≤ xs.length ∧ i = .int .i64 k ∧ Below w.heap.size w wr ∧ Hid (∀ j (h1 : j < xs.length) (h2 : j < ys.length), j < k → eq xs[j] ys[j] = true)) (fun i _ => xs.length - (intOf i).toNat)
    case atStart => exact ⟨0, by omega, rfl, Below.refl _ _, (fun j h1 h2 h => absurd h (by omega))⟩
    case round =>
      obtain ⟨k, hk, rfl, hb, hall⟩ := hrel
      by_cases hlt : k < xs.length
      · have hlt2 : k < ys.length := by omega
        obtain ⟨b1, o1, c0, e1, -, m0, n0, rx⟩ := (HX.out wr hb).get1 h3 k hlt
        obtain ⟨b2, o2, d0, e2, -, p0, z0, ry⟩ := (HY.out wr hb).get1 h3 k hlt2
        subst e1 e2
        have HC := Lib.hid (fun w' (hb' : Below wr.heap.size wr w') => HG.out w' _ _ _ _ (hR _ _ _ _ hb' rx) (hR _ _ _ _ hb' ry))
        clear rx ry
        have hbz := hb.size
        have bl := block_lt_of_cell m0
        have bl2 := block_lt_of_cell p0
        cases hq : eq xs[k] ys[k] with
        | true =>
          have hnew : ∀ j (h1 : j < xs.length) (h2 : j < ys.length), j < k + 1 → eq xs[j] ys[j] = true := by
            intro j h1 h2 hj
            rcases Nat.lt_or_ge j k with h | h
            · exact hall.out j h1 h2 h
            · have : j = k := by omega
              subst this; exact hq
          have HN := Lib.hid hnew
          rw [hq] at HC
          clear hnew hq
          go_wp2
          refine (HC.out _ (al2 _ _ _)).mono ?_; rintro e w' ⟨rfl, b'⟩
          go_wp2
          refine ⟨⟨k + 1, by omega, rfl, hb.nx ((al2 _ _ _).nx b'), HN.out⟩, ?_⟩
          simp only [intOf, Int.toNat_natCast]
          omega
        | false =>
          have HN := Lib.hid (eqAll_stop eq xs ys k hlt hlt2 hq)
          rw [hq] at HC
          clear hq
          go_wp2
          refine (HC.out _ (al2 _ _ _)).mono ?_; rintro e w' ⟨rfl, b'⟩
          go_wp2
          exact ⟨rfl, _, results_tmp rfl _ _ _, by rw [HN.out]; rfl, hb.nx ((al2 _ _ _).nx b')⟩
      · have hkl : k = xs.length := by omega
        have HN := Lib.hid (eqAll_end eq xs ys HL.out fun j h1 h2 => hall.out j h1 h2 (by omega))
        subst hkl
        go_wp2
        exact ⟨rfl, _, results_tmp rfl _ _ _, by rw [HN.out]; rfl, hb⟩
  · have hne : ((xs.length : Int) != (ys.length : Int)) = true := by simp; omega
    have HN := Lib.hid (show eqAll eq xs ys = false by simp [eqAll, hl])
    clear hl
    go_enter Tryz.func137, Tryz.ntmps137
    go_wp2
    exact ⟨rfl, _, results_tmp rfl _ _ _, by rw [HN.out]; rfl, Below.refl _ _⟩
end
end Go.Proofs.YthikfifoomfjgaaGreat
