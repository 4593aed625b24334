-- PRINTED by print.py (a twelfth state) out of the translation. Not trusted: Lean checks it.
import Derived.Test.YtlokcpfkaijchaaPAx0
namespace Go.Proofs.Ytlokcpfkaijchaa.PA
open Go.RowKit Go.Proofs.YtlokcpfkaijchaaW.PrintWords Go.Proofs.YtlokcpfkaijchaaW.PrintLast
set_option linter.unusedVariables false
set_option linter.unusedSimpArgs false

/-! ### truffleref08_has: function 30 -/
def truffleref08_has.l0 : Nat → List ByteArray → Int → ByteArray → Int → Option (Bool)
  | 0, _, _, _, _ => none
  | k + 1, x0, x1, x2, x7 => if x7 < x1 then (if 0 ≤ x7 then (if x7 < (x0.length : Int) then (if (rdOf ByteArray.empty x0 x7).toList = x2.toList then (some true) else (truffleref08_has.l0 k x0 x1 x2 (wrap64 (x7 + 1)))) else (none)) else (none)) else (some false)
def truffleref08_has.f (k : Nat) (l0 : List ByteArray) (a1 : Int) (a2 : ByteArray) : Option (Bool) := truffleref08_has.l0 k l0 a1 a2 0
theorem truffleref08_has.mono_l : ∀ k, (∀ y0 y1 y2 y3, LeO (truffleref08_has.l0 k y0 y1 y2 y3) (truffleref08_has.l0 (k + 1) y0 y1 y2 y3))
  | 0 => fun _ _ _ _ r h => by simp [truffleref08_has.l0] at h
  | k + 1 => by
    have ih0 := truffleref08_has.mono_l k
    · intro y0 y1 y2 y3
      unfold truffleref08_has.l0
      repeat' first
      | (with_reducible exact ih0 _ _ _ _)
      | (with_reducible exact LeO.refl _)
      | (with_reducible exact LeO.none _)
      | (with_reducible refine LeO.ite ?_ ?_)
      | (with_reducible refine LeO.bind ?_ (fun _ => ?_))
      | exact ih0 _ _ _ _
      | exact LeO.none _
      | refine LeO.ite ?_ ?_
      | refine LeO.bind ?_ (fun _ => ?_)
theorem truffleref08_has.mono : ∀ a0 a1 a2 k, LeO (truffleref08_has.f k a0 a1 a2) (truffleref08_has.f (k + 1) a0 a1 a2) := by
  intro a0 a1 a2 k
  have ih0 := truffleref08_has.mono_l k
  unfold truffleref08_has.f
  repeat' first
      | (with_reducible exact ih0 _ _ _ _)
      | (with_reducible exact LeO.refl _)
      | (with_reducible exact LeO.none _)
      | (with_reducible refine LeO.ite ?_ ?_)
      | (with_reducible refine LeO.bind ?_ (fun _ => ?_))
      | exact ih0 _ _ _ _
      | exact LeO.none _
      | refine LeO.ite ?_ ?_
      | refine LeO.bind ?_ (fun _ => ?_)
set_option maxHeartbeats 8000000 in
set_option maxRecDepth 100000 in
theorem truffleref08_has.calls (k : Nat) (A0 : Option Addr) (c0 : Nat) (l0 : List ByteArray) (a1 : Int) (a2 : ByteArray) (r : Bool) (w : World) (hr0 : Kd.C Kd.string w A0 l0.length l0) (hc0 : l0.length ≤ c0) (h : truffleref08_has.f k l0 a1 a2 = some r) :
    Calls Try.prog 30 #[.slice A0 l0.length c0, .int .i64 a1, .string a2] w fun e w' => e = .returned (.bool r) ∧ Drawn0 w w' := by
  have HR0 := Aside0.mk hr0
  have HC0 := Aside0.mk hc0
  clear hr0 hc0
  have H : (truffleref08_has.l0 k l0 a1 a2 0) = some r := h
  clear h
  have H' := Aside0.mk H
  clear H
  go_enter Try.func30, Try.ntmps30
  go_wp2
  go_loopg [7] k (fun kq v7 w' => ∃ (x7_1 : Int), v7 = .int .i64 x7_1 ∧ Aside0 (truffleref08_has.l0 kq l0 a1 a2 x7_1 = some r) ∧ Aside0 (kq ≤ k) ∧ Drawn0 w w')
  case atStart => exact ⟨(0), (by first | rfl | (simp; done) | (simp [*]; done)), H', ⟨Nat.le_refl _⟩, by repeat (first | exact Drawn0.refl _ | apply Drawn0.step)⟩
  case round =>
    clear H'
    try clear p2
    try clear c3
    obtain ⟨x7_1, rfl, HA, HK1, ⟨m1, rfl⟩⟩ := hrel
    cases gk with
    | zero => exact absurd HA.out (by simp [truffleref08_has.l0])
    | succ k1 =>
      have H := HA.out
      clear HA
      simp only [truffleref08_has.l0] at H
      by_cases c4 : x7_1 < a1
      · rw [if_pos c4] at H
        have c4b0 : decide (x7_1 < a1) = true := decide_eq_true c4
        clear c4
        by_cases c5 : 0 ≤ x7_1
        · rw [if_pos c5] at H
          have c5b0 : decide (0 ≤ x7_1) = true := decide_eq_true c5
          clear c5
          by_cases c6 : x7_1 < (l0.length : Int)
          · rw [if_pos c6] at H
            have c6b0 : decide (x7_1 < (l0.length : Int)) = true := decide_eq_true c6
            clear c6
            by_cases c7 : (rdOf ByteArray.empty l0 x7_1).toList = a2.toList
            · rw [if_pos c7] at H
              have c7b0 : ((rdOf ByteArray.empty l0 x7_1).toList == a2.toList) = true := beq_iff_eq.mpr c7
              have c7b1 : ((rdOf ByteArray.empty l0 x7_1).toList != a2.toList) = false := bne_eq_false_iff_eq.mpr c7
              clear c7
              obtain rfl := Option.some.inj H
              have p291 : 0 ≤ (x7_1 : Int) := of_decide_eq_true (by first | (with_reducible assumption) | assumption)
              have q291 : x7_1 < (l0.length : Int) := of_decide_eq_true (by first | (with_reducible assumption) | assumption)
              obtain ⟨ad291, e291, hx291_0⟩ := Kd.at_string HR0.out x7_1 p291 q291
              cases e291
              replace p291 := eq_true p291
              replace q291 := eq_true q291
              go_wp2
              go_ret
              exact ⟨by first | rfl | (simp; done) | (simp [*]; done), by repeat (first | exact Drawn0.refl _ | apply Drawn0.step)⟩
            · rw [if_neg c7] at H
              have c7b0 : ((rdOf ByteArray.empty l0 x7_1).toList == a2.toList) = false := beq_eq_false_iff_ne.mpr c7
              have c7b1 : ((rdOf ByteArray.empty l0 x7_1).toList != a2.toList) = true := bne_iff_ne.mpr c7
              have H' := Aside0.mk H
              clear H
              have p291 : 0 ≤ (x7_1 : Int) := of_decide_eq_true (by first | (with_reducible assumption) | assumption)
              have q291 : x7_1 < (l0.length : Int) := of_decide_eq_true (by first | (with_reducible assumption) | assumption)
              obtain ⟨ad291, e291, hx291_0⟩ := Kd.at_string HR0.out x7_1 p291 q291
              cases e291
              replace p291 := eq_true p291
              replace q291 := eq_true q291
              go_wp2
              go_roundg k1
              case measure => have := HK1.out; omega
              case rel => exact ⟨(wrap64 (x7_1 + 1)), (by first | rfl | (simp; done) | (simp [*]; done)), H', ⟨by have := HK1.out; omega⟩, by repeat (first | exact Drawn0.refl _ | apply Drawn0.step)⟩
          · rw [if_neg c6] at H
            exact absurd H (by simp)
        · rw [if_neg c5] at H
          exact absurd H (by simp)
      · rw [if_neg c4] at H
        have c4b0 : decide (x7_1 < a1) = false := decide_eq_false c4
        clear c4
        obtain rfl := Option.some.inj H
        go_wp2
        go_ret
        exact ⟨by first | rfl | (simp; done) | (simp [*]; done), by repeat (first | exact Drawn0.refl _ | apply Drawn0.step)⟩

/-! ### truffleref08_Type: function 31 -/
def truffleref08_Type.l0 : Nat → ByteArray → List ByteArray → List Int → Int → Option (Int × Bool)
  | 0, _, _, _, _ => none
  | k + 1, x0, x4, x5, x6 => if x6 < (x4.length : Int) then (if 0 ≤ x6 then (if (rdOf ByteArray.empty x4 x6).toList = x0.toList then (if x0.toList = ([] : List UInt8) then (truffleref08_Type.l0 k x0 x4 x5 (wrap64 (x6 + 1))) else (if x6 < (x5.length : Int) then (some (rd x5 x6, true)) else (none))) else (truffleref08_Type.l0 k x0 x4 x5 (wrap64 (x6 + 1)))) else (none)) else (some (0, false))
def truffleref08_Type.f (k : Nat) (a0 : ByteArray) : Option (Int × Bool) := truffleref08_Type.l0 k a0 (([(⟨#[105, 110, 116, 54, 52]⟩ : ByteArray), (⟨#[115, 105, 110, 116, 54, 52]⟩ : ByteArray), (⟨#[117, 105, 110, 116, 51, 50]⟩ : ByteArray), (⟨#[98, 111, 111, 108]⟩ : ByteArray), (⟨#[102, 105, 120, 101, 100, 51, 50]⟩ : ByteArray), (⟨#[115, 102, 105, 120, 101, 100, 54, 52]⟩ : ByteArray), (⟨#[]⟩ : ByteArray), (⟨#[115, 116, 114, 105, 110, 103]⟩ : ByteArray), (⟨#[98, 121, 116, 101, 115]⟩ : ByteArray)] : List ByteArray)) (([0, 1, 2, 3, 4, 5, 6, 7, 8] : List Int)) 0
theorem truffleref08_Type.mono_l : ∀ k, (∀ y0 y1 y2 y3, LeO (truffleref08_Type.l0 k y0 y1 y2 y3) (truffleref08_Type.l0 (k + 1) y0 y1 y2 y3))
  | 0 => fun _ _ _ _ r h => by simp [truffleref08_Type.l0] at h
  | k + 1 => by
    have ih0 := truffleref08_Type.mono_l k
    · intro y0 y1 y2 y3
      unfold truffleref08_Type.l0
      repeat' first
      | (with_reducible exact ih0 _ _ _ _)
      | (with_reducible exact LeO.refl _)
      | (with_reducible exact LeO.none _)
      | (with_reducible refine LeO.ite ?_ ?_)
      | (with_reducible refine LeO.bind ?_ (fun _ => ?_))
      | exact ih0 _ _ _ _
      | exact LeO.none _
      | refine LeO.ite ?_ ?_
      | refine LeO.bind ?_ (fun _ => ?_)
theorem truffleref08_Type.mono : ∀ a0 k, LeO (truffleref08_Type.f k a0) (truffleref08_Type.f (k + 1) a0) := by
  intro a0 k
  have ih0 := truffleref08_Type.mono_l k
  unfold truffleref08_Type.f
  repeat' first
      | (with_reducible exact ih0 _ _ _ _)
      | (with_reducible exact LeO.refl _)
      | (with_reducible exact LeO.none _)
      | (with_reducible refine LeO.ite ?_ ?_)
      | (with_reducible refine LeO.bind ?_ (fun _ => ?_))
      | exact ih0 _ _ _ _
      | exact LeO.none _
      | refine LeO.ite ?_ ?_
      | refine LeO.bind ?_ (fun _ => ?_)
set_option maxHeartbeats 8000000 in
set_option maxRecDepth 100000 in
theorem truffleref08_Type.calls (k : Nat) (a0 : ByteArray) (r1 : Int) (r2 : Bool) (w : World) (h : truffleref08_Type.f k a0 = some (r1, r2)) :
    Calls Try.prog 31 #[.string a0] w fun e w' => e = .returned (.tuple #[.int .i64 r1, .bool r2]) ∧ Below w.heap.size w w' := by
  have HB := Aside0.mk (Below.refl w.heap.size w)
  have H : (truffleref08_Type.l0 k a0 (([(⟨#[105, 110, 116, 54, 52]⟩ : ByteArray), (⟨#[115, 105, 110, 116, 54, 52]⟩ : ByteArray), (⟨#[117, 105, 110, 116, 51, 50]⟩ : ByteArray), (⟨#[98, 111, 111, 108]⟩ : ByteArray), (⟨#[102, 105, 120, 101, 100, 51, 50]⟩ : ByteArray), (⟨#[115, 102, 105, 120, 101, 100, 54, 52]⟩ : ByteArray), (⟨#[]⟩ : ByteArray), (⟨#[115, 116, 114, 105, 110, 103]⟩ : ByteArray), (⟨#[98, 121, 116, 101, 115]⟩ : ByteArray)] : List ByteArray)) (([0, 1, 2, 3, 4, 5, 6, 7, 8] : List Int)) 0) = some (r1, r2) := h
  clear h
  obtain ⟨y292, hy292⟩ : ∃ y_ : List ByteArray, y_ = (([(⟨#[105, 110, 116, 54, 52]⟩ : ByteArray), (⟨#[115, 105, 110, 116, 54, 52]⟩ : ByteArray), (⟨#[117, 105, 110, 116, 51, 50]⟩ : ByteArray), (⟨#[98, 111, 111, 108]⟩ : ByteArray), (⟨#[102, 105, 120, 101, 100, 51, 50]⟩ : ByteArray), (⟨#[115, 102, 105, 120, 101, 100, 54, 52]⟩ : ByteArray), (⟨#[]⟩ : ByteArray), (⟨#[115, 116, 114, 105, 110, 103]⟩ : ByteArray), (⟨#[98, 121, 116, 101, 115]⟩ : ByteArray)] : List ByteArray)) := ⟨_, rfl⟩
  replace H : (truffleref08_Type.l0 k a0 y292 (([0, 1, 2, 3, 4, 5, 6, 7, 8] : List Int)) 0) = some (r1, r2) := by first | (rw [hy292]; with_reducible exact H) | (have H2_ := (Option.bind_some _ _).symm.trans H; rw [hy292]; with_reducible exact H2_) | (have H2_ := (Option.bind_some _ _).symm.trans H; with_reducible exact H2_) | with_reducible exact H | (rw [hy292]; exact H) | exact H
  have Ny292 := Aside0.mk hy292
  clear hy292
  obtain ⟨y295, hy295⟩ : ∃ y_ : List Int, y_ = (([0, 1, 2, 3, 4, 5, 6, 7, 8] : List Int)) := ⟨_, rfl⟩
  replace H : (truffleref08_Type.l0 k a0 y292 y295 0) = some (r1, r2) := by first | (rw [hy295]; with_reducible exact H) | (have H2_ := (Option.bind_some _ _).symm.trans H; rw [hy295]; with_reducible exact H2_) | (have H2_ := (Option.bind_some _ _).symm.trans H; with_reducible exact H2_) | with_reducible exact H | (rw [hy295]; exact H) | exact H
  have Ny295 := Aside0.mk hy295
  clear hy295
  have H' := Aside0.mk H
  clear H
  go_enter Try.func31, Try.ntmps31
  go_wp2_with (first | ((with_reducible refine gate_dst (N := 7) rfl ?_); refine Kd.R_lit Kd.string _ 9 ?hg (N := 7) ?hd (xs := ([(⟨#[105, 110, 116, 54, 52]⟩ : ByteArray), (⟨#[115, 105, 110, 116, 54, 52]⟩ : ByteArray), (⟨#[117, 105, 110, 116, 51, 50]⟩ : ByteArray), (⟨#[98, 111, 111, 108]⟩ : ByteArray), (⟨#[102, 105, 120, 101, 100, 51, 50]⟩ : ByteArray), (⟨#[115, 102, 105, 120, 101, 100, 54, 52]⟩ : ByteArray), (⟨#[]⟩ : ByteArray), (⟨#[115, 116, 114, 105, 110, 103]⟩ : ByteArray), (⟨#[98, 121, 116, 101, 115]⟩ : ByteArray)] : List ByteArray)) (inner := [.string (⟨#[105, 110, 116, 54, 52]⟩ : ByteArray), .string (⟨#[115, 105, 110, 116, 54, 52]⟩ : ByteArray), .string (⟨#[117, 105, 110, 116, 51, 50]⟩ : ByteArray), .string (⟨#[98, 111, 111, 108]⟩ : ByteArray), .string (⟨#[102, 105, 120, 101, 100, 51, 50]⟩ : ByteArray), .string (⟨#[115, 102, 105, 120, 101, 100, 54, 52]⟩ : ByteArray), .string (⟨#[]⟩ : ByteArray), .string (⟨#[115, 116, 114, 105, 110, 103]⟩ : ByteArray), .string (⟨#[98, 121, 116, 101, 115]⟩ : ByteArray)]) (ok := fun _ => True) (okp := fun _ => True) ?hr ?hp (fun _ hk => hk) trivial (Below.refl _ _) (Nat.le_refl _) (by simp) ?_; (case hd => rfl); (case hg => rfl); (case hr => first | (go_simp; done) | (go_simp; rfl)); (case hp => exact (Reps.one (show Kd.M Kd.string _ _ _ (⟨#[105, 110, 116, 54, 52]⟩ : ByteArray) [.string (⟨#[105, 110, 116, 54, 52]⟩ : ByteArray)] from rfl) (Reps.one (show Kd.M Kd.string _ _ _ (⟨#[115, 105, 110, 116, 54, 52]⟩ : ByteArray) [.string (⟨#[115, 105, 110, 116, 54, 52]⟩ : ByteArray)] from rfl) (Reps.one (show Kd.M Kd.string _ _ _ (⟨#[117, 105, 110, 116, 51, 50]⟩ : ByteArray) [.string (⟨#[117, 105, 110, 116, 51, 50]⟩ : ByteArray)] from rfl) (Reps.one (show Kd.M Kd.string _ _ _ (⟨#[98, 111, 111, 108]⟩ : ByteArray) [.string (⟨#[98, 111, 111, 108]⟩ : ByteArray)] from rfl) (Reps.one (show Kd.M Kd.string _ _ _ (⟨#[102, 105, 120, 101, 100, 51, 50]⟩ : ByteArray) [.string (⟨#[102, 105, 120, 101, 100, 51, 50]⟩ : ByteArray)] from rfl) (Reps.one (show Kd.M Kd.string _ _ _ (⟨#[115, 102, 105, 120, 101, 100, 54, 52]⟩ : ByteArray) [.string (⟨#[115, 102, 105, 120, 101, 100, 54, 52]⟩ : ByteArray)] from rfl) (Reps.one (show Kd.M Kd.string _ _ _ (⟨#[]⟩ : ByteArray) [.string (⟨#[]⟩ : ByteArray)] from rfl) (Reps.one (show Kd.M Kd.string _ _ _ (⟨#[115, 116, 114, 105, 110, 103]⟩ : ByteArray) [.string (⟨#[115, 116, 114, 105, 110, 103]⟩ : ByteArray)] from rfl) (Reps.one (show Kd.M Kd.string _ _ _ (⟨#[98, 121, 116, 101, 115]⟩ : ByteArray) [.string (⟨#[98, 121, 116, 101, 115]⟩ : ByteArray)] from rfl) (Reps.none _ _))))))))))); intro v293 w2 ho3 hb hg_ hnew_; clear hg_ hnew_; (first | rw [← Ny292.out] at ho3 | (simp only [Int.reduceToNat] at ho3; rw [← Ny292.out] at ho3)); have n0_ := Aside0.mk (Kd.R_lower ho3 (below_size (by repeat (first | (with_reducible first | exact HB.out | apply below_alloc | apply pw_below_drewN | apply below_drew1) | exact HB.out)))); have n1_ := Aside0.mk (below_step (by repeat (first | (with_reducible first | exact HB.out | apply below_alloc | apply pw_below_drewN | apply below_drew1) | exact HB.out)) hb); clear HB; have HO294 := n0_; have HB := n1_; clear n0_ n1_; clear hb ho3) | ((with_reducible refine gate_dst (N := 8) rfl ?_); refine Kd.R_lit (Kd.int .i64) _ 3 ?hg (N := 8) ?hd (xs := ([0, 1, 2, 3, 4, 5, 6, 7, 8] : List Int)) (inner := [.int .i64 0, .int .i64 1, .int .i64 2, .int .i64 3, .int .i64 4, .int .i64 5, .int .i64 6, .int .i64 7, .int .i64 8]) (ok := fun _ => True) (okp := fun _ => True) ?hr ?hp (fun _ hk => hk) trivial (Below.refl _ _) (Nat.le_refl _) (by simp) ?_; (case hd => rfl); (case hg => rfl); (case hr => first | (go_simp; done) | (go_simp; rfl)); (case hp => exact (Reps.one (show Kd.M (Kd.int .i64) _ _ _ 0 [.int .i64 0] from rfl) (Reps.one (show Kd.M (Kd.int .i64) _ _ _ 1 [.int .i64 1] from rfl) (Reps.one (show Kd.M (Kd.int .i64) _ _ _ 2 [.int .i64 2] from rfl) (Reps.one (show Kd.M (Kd.int .i64) _ _ _ 3 [.int .i64 3] from rfl) (Reps.one (show Kd.M (Kd.int .i64) _ _ _ 4 [.int .i64 4] from rfl) (Reps.one (show Kd.M (Kd.int .i64) _ _ _ 5 [.int .i64 5] from rfl) (Reps.one (show Kd.M (Kd.int .i64) _ _ _ 6 [.int .i64 6] from rfl) (Reps.one (show Kd.M (Kd.int .i64) _ _ _ 7 [.int .i64 7] from rfl) (Reps.one (show Kd.M (Kd.int .i64) _ _ _ 8 [.int .i64 8] from rfl) (Reps.none _ _))))))))))); intro v296 w4 ho5 hb hg_ hnew_; clear hg_ hnew_; (first | rw [← Ny295.out] at ho5 | (simp only [Int.reduceToNat] at ho5; rw [← Ny295.out] at ho5)); have n0_ := Aside0.mk (Kd.R_below (by (with_reducible repeat (first | apply Kd.R_alloc | apply Kd.R_drewN | apply Kd.R_drew)); exact HO294.out) hb); have n1_ := Aside0.mk (Kd.R_lower ho5 (below_size (by repeat (first | (with_reducible first | exact HB.out | apply below_alloc | apply pw_below_drewN | apply below_drew1) | exact HB.out)))); have n2_ := Aside0.mk (below_step (by repeat (first | (with_reducible first | exact HB.out | apply below_alloc | apply pw_below_drewN | apply below_drew1) | exact HB.out)) hb); clear HO294; clear HB; have HO294 := n0_; have HO297 := n1_; have HB := n2_; clear n0_ n1_ n2_; clear hb ho5))
  go_loopg [6] k (fun kq v6 w' => ∃ (x6_1 : Int), v6 = .int .i64 x6_1 ∧ Aside0 (truffleref08_Type.l0 kq a0 y292 y295 x6_1 = some (r1, r2)) ∧ Aside0 (kq ≤ k) ∧ Aside0 (Kd.R Kd.string 9 w' w.heap.size (fun _ => True) v293 y292) ∧ Aside0 (Kd.R (Kd.int .i64) 3 w' w.heap.size (fun _ => True) v296 y295) ∧ Aside0 (Below w.heap.size w w'))
  case atStart => exact ⟨(0), (by first | rfl | (simp; done) | (simp [*]; done)), H', ⟨Nat.le_refl _⟩, ⟨by (with_reducible repeat (first | apply Kd.R_alloc | apply Kd.R_drewN | apply Kd.R_drew)); exact HO294.out⟩, ⟨by (with_reducible repeat (first | apply Kd.R_alloc | apply Kd.R_drewN | apply Kd.R_drew)); exact HO297.out⟩, ⟨by repeat (first | (with_reducible first | exact HB.out | apply below_alloc | apply pw_below_drewN | apply below_drew1) | exact HB.out)⟩⟩
  case round =>
    clear H'
    try clear p2
    try clear c3
    obtain ⟨x6_1, rfl, HA, HK1, HO_4, HO_5, HB⟩ := hrel
    cases gk with
    | zero => exact absurd HA.out (by simp [truffleref08_Type.l0])
    | succ k1 =>
      have H := HA.out
      clear HA
      simp only [truffleref08_Type.l0] at H
      by_cases c6 : x6_1 < (y292.length : Int)
      · rw [if_pos c6] at H
        have c6b0 : decide (x6_1 < (y292.length : Int)) = true := decide_eq_true c6
        clear c6
        by_cases c7 : 0 ≤ x6_1
        · rw [if_pos c7] at H
          have c7b0 : decide (0 ≤ x6_1) = true := decide_eq_true c7
          clear c7
          by_cases c8 : (rdOf ByteArray.empty y292 x6_1).toList = a0.toList
          · rw [if_pos c8] at H
            have c8b0 : ((rdOf ByteArray.empty y292 x6_1).toList == a0.toList) = true := beq_iff_eq.mpr c8
            have c8b1 : ((rdOf ByteArray.empty y292 x6_1).toList != a0.toList) = false := bne_eq_false_iff_eq.mpr c8
            clear c8
            by_cases c9 : a0.toList = ([] : List UInt8)
            · rw [if_pos c9] at H
              have c9b0 : (a0.toList == ([] : List UInt8)) = true := beq_iff_eq.mpr c9
              have c9b1 : (a0.toList != ([] : List UInt8)) = false := bne_eq_false_iff_eq.mpr c9
              clear c9
              have H' := Aside0.mk H
              clear H
              obtain ⟨Ao10, co10, eo10⟩ := Kd.R_slice HO_4.out
              subst eo10
              have p298 : 0 ≤ (x6_1 : Int) := of_decide_eq_true (by first | (with_reducible assumption) | assumption)
              have q298 : x6_1 < (y292.length : Int) := of_decide_eq_true (by first | (with_reducible assumption) | assumption)
              obtain ⟨ad298, e298, hx298_0⟩ := Kd.at_string (Kd.R_reads' HO_4.out).2.2 x6_1 p298 q298
              cases e298
              replace p298 := eq_true p298
              replace q298 := eq_true q298
              go_wp2
              go_roundg k1
              case measure => have := HK1.out; omega
              case rel => exact ⟨(wrap64 (x6_1 + 1)), (by first | rfl | (simp; done) | (simp [*]; done)), H', ⟨by have := HK1.out; omega⟩, ⟨by (with_reducible repeat (first | apply Kd.R_alloc | apply Kd.R_drewN | apply Kd.R_drew)); exact HO_4.out⟩, ⟨by (with_reducible repeat (first | apply Kd.R_alloc | apply Kd.R_drewN | apply Kd.R_drew)); exact HO_5.out⟩, ⟨by repeat (first | (with_reducible first | exact HB.out | apply below_alloc | apply pw_below_drewN | apply below_drew1) | exact HB.out)⟩⟩
            · rw [if_neg c9] at H
              have c9b0 : (a0.toList == ([] : List UInt8)) = false := beq_eq_false_iff_ne.mpr c9
              have c9b1 : (a0.toList != ([] : List UInt8)) = true := bne_iff_ne.mpr c9
              by_cases c11 : x6_1 < (y295.length : Int)
              · rw [if_pos c11] at H
                have c11b0 : decide (x6_1 < (y295.length : Int)) = true := decide_eq_true c11
                clear c11
                simp only [Option.some.injEq, Prod.mk.injEq] at H
                obtain ⟨rfl, rfl⟩ := H
                obtain ⟨Ao12, co12, eo12⟩ := Kd.R_slice HO_4.out
                subst eo12
                have p298 : 0 ≤ (x6_1 : Int) := of_decide_eq_true (by first | (with_reducible assumption) | assumption)
                have q298 : x6_1 < (y292.length : Int) := of_decide_eq_true (by first | (with_reducible assumption) | assumption)
                obtain ⟨ad298, e298, hx298_0⟩ := Kd.at_string (Kd.R_reads' HO_4.out).2.2 x6_1 p298 q298
                cases e298
                replace p298 := eq_true p298
                replace q298 := eq_true q298
                obtain ⟨Ao13, co13, eo13⟩ := Kd.R_slice HO_5.out
                subst eo13
                have p299 : 0 ≤ (x6_1 : Int) := of_decide_eq_true (by first | (with_reducible assumption) | assumption)
                have q299 : x6_1 < (y295.length : Int) := of_decide_eq_true (by first | (with_reducible assumption) | assumption)
                obtain ⟨ad299, e299, hx299_0⟩ := Kd.at_int (Kd.R_reads' HO_5.out).2.2 x6_1 p299 q299
                cases e299
                replace p299 := eq_true p299
                replace q299 := eq_true q299
                go_wp2
                go_ret2
                exact ⟨by first | rfl | (simp [errW_none, errW_some] <;> rfl) | (simp [*, errW_none, errW_some] <;> rfl), by repeat (first | (with_reducible first | exact HB.out | apply below_alloc | apply pw_below_drewN | apply below_drew1) | exact HB.out)⟩
              · rw [if_neg c11] at H
                exact absurd H (by simp)
          · rw [if_neg c8] at H
            have c8b0 : ((rdOf ByteArray.empty y292 x6_1).toList == a0.toList) = false := beq_eq_false_iff_ne.mpr c8
            have c8b1 : ((rdOf ByteArray.empty y292 x6_1).toList != a0.toList) = true := bne_iff_ne.mpr c8
            have H' := Aside0.mk H
            clear H
            obtain ⟨Ao14, co14, eo14⟩ := Kd.R_slice HO_4.out
            subst eo14
            have p298 : 0 ≤ (x6_1 : Int) := of_decide_eq_true (by first | (with_reducible assumption) | assumption)
            have q298 : x6_1 < (y292.length : Int) := of_decide_eq_true (by first | (with_reducible assumption) | assumption)
            obtain ⟨ad298, e298, hx298_0⟩ := Kd.at_string (Kd.R_reads' HO_4.out).2.2 x6_1 p298 q298
            cases e298
            replace p298 := eq_true p298
            replace q298 := eq_true q298
            go_wp2
            go_roundg k1
            case measure => have := HK1.out; omega
            case rel => exact ⟨(wrap64 (x6_1 + 1)), (by first | rfl | (simp; done) | (simp [*]; done)), H', ⟨by have := HK1.out; omega⟩, ⟨by (with_reducible repeat (first | apply Kd.R_alloc | apply Kd.R_drewN | apply Kd.R_drew)); exact HO_4.out⟩, ⟨by (with_reducible repeat (first | apply Kd.R_alloc | apply Kd.R_drewN | apply Kd.R_drew)); exact HO_5.out⟩, ⟨by repeat (first | (with_reducible first | exact HB.out | apply below_alloc | apply pw_below_drewN | apply below_drew1) | exact HB.out)⟩⟩
        · rw [if_neg c7] at H
          exact absurd H (by simp)
      · rw [if_neg c6] at H
        have c6b0 : decide (x6_1 < (y292.length : Int)) = false := decide_eq_false c6
        clear c6
        simp only [Option.some.injEq, Prod.mk.injEq] at H
        obtain ⟨rfl, rfl⟩ := H
        obtain ⟨Ao15, co15, eo15⟩ := Kd.R_slice HO_4.out
        subst eo15
        go_wp2
        go_ret2
        exact ⟨by first | rfl | (simp [errW_none, errW_some] <;> rfl) | (simp [*, errW_none, errW_some] <;> rfl), by repeat (first | (with_reducible first | exact HB.out | apply below_alloc | apply pw_below_drewN | apply below_drew1) | exact HB.out)⟩

-- GIVEN: function 13 (truffleref08_May)

-- NOT PRINTED: function 32 (api_Frame)

-- GIVEN: function 15 (valid_Step)

-- NOT PRINTED: function 4 (trufflelaw18_ValidSteps)

/-! ### truffleref08_By: function 16 -/
mutual
def truffleref08_By.j0 : Nat → Int → Int → Bool → List (S77) → List (S81) → Option (Int × ByteArray × Int × Int × Bool × Int × Int × Bool)
  | 0, _, _, _, _, _ => none
  | k + 1, x1, x2, x17, x315000, x315001 => if x17 = true then (some (0, (⟨#[]⟩ : ByteArray), 0, 0, false, 0, 0, false)) else (truffleref08_By.l0 k x1 x2 0 x315000 x315001)
def truffleref08_By.l0 : Nat → Int → Int → Int → List (S77) → List (S81) → Option (Int × ByteArray × Int × Int × Bool × Int × Int × Bool)
  | 0, _, _, _, _, _ => none
  | k + 1, x1, x2, x8, x315000, x315001 => if 0 ≤ x1 then (if x1 < (x315000.length : Int) then (if x8 < (((rd_T77 x315000 x1).f1).length : Int) then (if 0 ≤ x8 then (if ((rd_T38 ((rd_T77 x315000 x1).f1) x8).f0) = x2 then (some ((rd_T38 ((rd_T77 x315000 x1).f1) x8).f0, (rd_T38 ((rd_T77 x315000 x1).f1) x8).f1, (rd_T38 ((rd_T77 x315000 x1).f1) x8).f2, (rd_T38 ((rd_T77 x315000 x1).f1) x8).f3, (rd_T38 ((rd_T77 x315000 x1).f1) x8).f4, (rd_T38 ((rd_T77 x315000 x1).f1) x8).f5, (rd_T38 ((rd_T77 x315000 x1).f1) x8).f6, true)) else (truffleref08_By.l0 k x1 x2 (wrap64 (x8 + 1)) x315000 x315001)) else (none)) else (some (0, (⟨#[]⟩ : ByteArray), 0, 0, false, 0, 0, false))) else (none)) else (none)
end
def truffleref08_By.f (k : Nat) (l0_0 : List (S77)) (l0_1 : List (S81)) (a1 : Int) (a2 : Int) : Option (Int × ByteArray × Int × Int × Bool × Int × Int × Bool) := if a1 < 0 then (truffleref08_By.j0 k a1 a2 true l0_0 l0_1) else (truffleref08_By.j0 k a1 a2 (decide (a1 ≥ (l0_0.length : Int))) l0_0 l0_1)
theorem truffleref08_By.mono_l : ∀ k, (∀ y0 y1 y2 y3 y4, LeO (truffleref08_By.j0 k y0 y1 y2 y3 y4) (truffleref08_By.j0 (k + 1) y0 y1 y2 y3 y4)) ∧ (∀ y0 y1 y2 y3 y4, LeO (truffleref08_By.l0 k y0 y1 y2 y3 y4) (truffleref08_By.l0 (k + 1) y0 y1 y2 y3 y4))
  | 0 => ⟨fun _ _ _ _ _ r h => by simp [truffleref08_By.j0] at h, fun _ _ _ _ _ r h => by simp [truffleref08_By.l0] at h⟩
  | k + 1 => by
    obtain ⟨ih0, ih1⟩ := truffleref08_By.mono_l k
    refine ⟨?_, ?_⟩
    · intro y0 y1 y2 y3 y4
      unfold truffleref08_By.j0
      repeat' first
      | (with_reducible exact ih0 _ _ _ _ _)
      | (with_reducible exact ih1 _ _ _ _ _)
      | (with_reducible exact LeO.refl _)
      | (with_reducible exact LeO.none _)
      | (with_reducible refine LeO.ite ?_ ?_)
      | (with_reducible refine LeO.bind ?_ (fun _ => ?_))
      | exact ih0 _ _ _ _ _
      | exact ih1 _ _ _ _ _
      | exact LeO.none _
      | refine LeO.ite ?_ ?_
      | refine LeO.bind ?_ (fun _ => ?_)
    · intro y0 y1 y2 y3 y4
      unfold truffleref08_By.l0
      repeat' first
      | (with_reducible exact ih0 _ _ _ _ _)
      | (with_reducible exact ih1 _ _ _ _ _)
      | (with_reducible exact LeO.refl _)
      | (with_reducible exact LeO.none _)
      | (with_reducible refine LeO.ite ?_ ?_)
      | (with_reducible refine LeO.bind ?_ (fun _ => ?_))
      | exact ih0 _ _ _ _ _
      | exact ih1 _ _ _ _ _
      | exact LeO.none _
      | refine LeO.ite ?_ ?_
      | refine LeO.bind ?_ (fun _ => ?_)
theorem truffleref08_By.mono : ∀ a0 a1 a2 a3 k, LeO (truffleref08_By.f k a0 a1 a2 a3) (truffleref08_By.f (k + 1) a0 a1 a2 a3) := by
  intro a0 a1 a2 a3 k
  obtain ⟨ih0, ih1⟩ := truffleref08_By.mono_l k
  unfold truffleref08_By.f
  repeat' first
      | (with_reducible exact ih0 _ _ _ _ _)
      | (with_reducible exact ih1 _ _ _ _ _)
      | (with_reducible exact LeO.refl _)
      | (with_reducible exact LeO.none _)
      | (with_reducible refine LeO.ite ?_ ?_)
      | (with_reducible refine LeO.bind ?_ (fun _ => ?_))
      | exact ih0 _ _ _ _ _
      | exact ih1 _ _ _ _ _
      | exact LeO.none _
      | refine LeO.ite ?_ ?_
      | refine LeO.bind ?_ (fun _ => ?_)
set_option maxHeartbeats 8000000 in
set_option maxRecDepth 100000 in
theorem truffleref08_By.calls (k : Nat) (A0_0 : Option Addr) (c0_0 : Nat) (l0_0 : List (S77)) (A0_1 : Option Addr) (c0_1 : Nat) (l0_1 : List (S81)) (a1 : Int) (a2 : Int) (r1 : Int) (r2 : ByteArray) (r3 : Int) (r4 : Int) (r5 : Bool) (r6 : Int) (r7 : Int) (r8 : Bool) (w : World) (hr0_0 : Kd.C k77 w A0_0 l0_0.length l0_0) (hc0_0 : l0_0.length ≤ c0_0) (hr0_1 : Kd.C k81 w A0_1 l0_1.length l0_1) (hc0_1 : l0_1.length ≤ c0_1) (h : truffleref08_By.f k l0_0 l0_1 a1 a2 = some (r1, r2, r3, r4, r5, r6, r7, r8)) :
    Calls Try.prog 16 #[.agg #[.slice A0_0 l0_0.length c0_0, .slice A0_1 l0_1.length c0_1], .int .i64 a1, .int .i64 a2] w fun e w' => e = .returned (.tuple #[.agg #[.int .i64 r1, .string r2, .int .i64 r3, .int .i64 r4, .bool r5, .int .i64 r6, .int .i64 r7], .bool r8]) ∧ Below w.heap.size w w' := by
  have hu25 := Try.underlying25
  have hu38 := Try.underlying38
  have HR0_0 := Aside0.mk hr0_0
  have HC0_0 := Aside0.mk hc0_0
  clear hr0_0 hc0_0
  have HR0_1 := Aside0.mk hr0_1
  have HC0_1 := Aside0.mk hc0_1
  clear hr0_1 hc0_1
  have HB := Aside0.mk (Below.refl w.heap.size w)
  have H : (if a1 < 0 then (truffleref08_By.j0 k a1 a2 true l0_0 l0_1) else (truffleref08_By.j0 k a1 a2 (decide (a1 ≥ (l0_0.length : Int))) l0_0 l0_1)) = some (r1, r2, r3, r4, r5, r6, r7, r8) := h
  clear h
  have HC4 := Aside0.mk H
  clear H
  go_enter Try.func16, Try.ntmps16
  go_upto_region 1 with (first | ((with_reducible refine gate_dst (N := 3) rfl ?_); refine box_event ?hg (N := 3) ?hd (cs := #[.slice A0_0 l0_0.length c0_0, .slice A0_1 l0_1.length c0_1]) (t := 25) ?hr ?_; (case hd => rfl); (case hg => rfl); (case hr => first | (go_simp; done) | (go_simp; rfl)); intro gb314 hg w5 hbox hb; have n0_ := Aside0.mk (below_step (by repeat (first | (with_reducible first | exact HB.out | apply below_alloc | apply pw_below_drewN | apply below_drew1) | exact HB.out)) hb); have n1_ := Aside0.mk (hbox); have n2_ := Aside0.mk ((by rw [hg]; exact (below_size (by repeat (first | (with_reducible first | exact HB.out | apply below_alloc | apply pw_below_drewN | apply below_drew1) | exact HB.out))) : w.heap.size ≤ gb314)); have n3_ := Aside0.mk ((by rw [hg]; exact (below_size (by repeat (first | (with_reducible first | exact HB.out | apply below_alloc | apply pw_below_drewN | apply below_drew1) | exact HB.out))) : w.heap.size ≤ gb314)); clear HB; have HB := n0_; have BK314 := n1_; have GW314 := n2_; have GE314 := n3_; clear n0_ n1_ n2_ n3_; clear hb hbox hg) | ((with_reducible refine gate_dst (N := 6) rfl ?_); refine box_event ?hg (N := 6) ?hd (cs := #[.int .i64 0, .string (⟨#[]⟩ : ByteArray), .int .i64 0, .int .i64 0, .bool false, .int .i64 0, .int .i64 0]) (t := 38) ?hr ?_; (case hd => rfl); (case hg => rfl); (case hr => first | (go_simp; done) | (go_simp; rfl)); intro gb315 hg w6 hbox hb; have n0_ := Aside0.mk (blk_below (g := gb314) (o := .cells #[.slice A0_0 l0_0.length c0_0, .slice A0_1 l0_1.length c0_1] 25 (0, 0)) (by (with_reducible repeat (first | refine blk_drewN ?_ _ | refine blk_drew ?_ | refine blk_alloc ?_ _)); exact BK314.out) hb); have n1_ := Aside0.mk (below_step (by repeat (first | (with_reducible first | exact HB.out | apply below_alloc | apply pw_below_drewN | apply below_drew1 | refine below_set ?_ GE314.out) | exact HB.out)) hb); have n2_ := Aside0.mk (hbox); have n3_ := Aside0.mk ((by rw [hg]; exact (below_size (by repeat (first | (with_reducible first | exact HB.out | apply below_alloc | apply pw_below_drewN | apply below_drew1 | refine below_set ?_ GE314.out) | exact HB.out))) : w.heap.size ≤ gb315)); have n4_ := Aside0.mk ((by rw [hg]; exact (below_size (by repeat (first | (with_reducible first | exact HB.out | apply below_alloc | apply pw_below_drewN | apply below_drew1 | refine below_set ?_ GE314.out) | exact HB.out))) : w.heap.size ≤ gb315)); have n5_ := Aside0.mk ((by rw [hg]; exact Nat.ne_of_lt (blk_lt (g := gb314) (o := .cells #[.slice A0_0 l0_0.length c0_0, .slice A0_1 l0_1.length c0_1] 25 (0, 0)) (by (with_reducible repeat (first | refine blk_drewN ?_ _ | refine blk_drew ?_ | refine blk_alloc ?_ _)); exact BK314.out)) : gb314 ≠ gb315)); have n6_ := Aside0.mk ((by rw [hg]; exact Nat.ne_of_gt (blk_lt (g := gb314) (o := .cells #[.slice A0_0 l0_0.length c0_0, .slice A0_1 l0_1.length c0_1] 25 (0, 0)) (by (with_reducible repeat (first | refine blk_drewN ?_ _ | refine blk_drew ?_ | refine blk_alloc ?_ _)); exact BK314.out)) : gb315 ≠ gb314)); clear BK314; clear HB; have BK314 := n0_; have HB := n1_; have BK315 := n2_; have GW315 := n3_; have GE315 := n4_; have NB314_315 := n5_; have NB315_314 := n6_; clear n0_ n1_ n2_ n3_ n4_ n5_ n6_; clear hb hbox hg))
  (try simp only [Act.put, List.setIfInBounds_toArray, List.set_cons_zero, List.set_cons_succ])
  go_cut [17] (fun v17 wc => ∃ (kq : Nat) (x17_3 : Bool), v17 = .bool x17_3 ∧ Aside0 (truffleref08_By.j0 kq a1 a2 x17_3 l0_0 l0_1 = some (r1, r2, r3, r4, r5, r6, r7, r8)) ∧ Aside0 (kq ≤ k) ∧ Aside0 (wc.heap[gb314]? = some (.cells #[(.slice A0_0 l0_0.length c0_0), (.slice A0_1 l0_1.length c0_1)] 25 (0, 0))) ∧ Aside0 (wc.heap[gb315]? = some (.cells #[.int .i64 0, .string (⟨#[]⟩ : ByteArray), .int .i64 0, .int .i64 0, .bool false, .int .i64 0, .int .i64 0] 38 (0, 0))) ∧ Aside0 (Below w.heap.size w wc))
  case first =>
    have H := HC4.out
    clear HC4
    by_cases c7 : a1 < 0
    · rw [if_pos c7] at H
      have c7b0 : decide (a1 < 0) = true := decide_eq_true c7
      clear c7
      (first | rw [c7b0] | (simp only [i64_w, i32_w]; rw [c7b0]) | skip)
      have H' := Aside0.mk H
      clear H
      go_wp2
      go_meet
      case rel => exact ⟨_, (true), (by first | rfl | (simp; done) | (simp [*]; done)), H', ⟨by first | omega | exact Nat.le_refl _⟩, ⟨by (with_reducible repeat (first | refine blk_drewN ?_ _ | refine blk_drew ?_ | refine blk_alloc ?_ _)); exact BK314.out⟩, ⟨by (with_reducible repeat (first | refine blk_drewN ?_ _ | refine blk_drew ?_ | refine blk_alloc ?_ _)); exact BK315.out⟩, ⟨by repeat (first | (with_reducible first | exact HB.out | apply below_alloc | apply pw_below_drewN | apply below_drew1 | refine below_set ?_ GE314.out | refine below_set ?_ GE315.out) | exact HB.out)⟩⟩
    · rw [if_neg c7] at H
      have c7b0 : decide (a1 < 0) = false := decide_eq_false c7
      clear c7
      (first | rw [c7b0] | (simp only [i64_w, i32_w]; rw [c7b0]) | skip)
      have H' := Aside0.mk H
      clear H
      have hnb8 := NB314_315.out
      have hnc8 := NB315_314.out
      have hcz9_0 : w6.cell? ⟨gb314, 0, none⟩ = some (.slice A0_0 l0_0.length c0_0) := (blk_cell BK314.out 0).trans rfl
      have hcz9_1 : w6.cell? ⟨gb314, 1, none⟩ = some (.slice A0_1 l0_1.length c0_1) := (blk_cell BK314.out 1).trans rfl
      have hfz9_0 := blk_frozen BK314.out 0
      have hfz9_1 := blk_frozen BK314.out 1
      go_wp2
      go_meet
      case rel => exact ⟨_, (decide (a1 ≥ (l0_0.length : Int))), (by first | rfl | (simp; done) | (simp [*]; done)), H', ⟨by first | omega | exact Nat.le_refl _⟩, ⟨by (with_reducible repeat (first | refine blk_drewN ?_ _ | refine blk_drew ?_ | refine blk_alloc ?_ _)); exact BK314.out⟩, ⟨by (with_reducible repeat (first | refine blk_drewN ?_ _ | refine blk_drew ?_ | refine blk_alloc ?_ _)); exact BK315.out⟩, ⟨by repeat (first | (with_reducible first | exact HB.out | apply below_alloc | apply pw_below_drewN | apply below_drew1 | refine below_set ?_ GE314.out | refine below_set ?_ GE315.out) | exact HB.out)⟩⟩
  case rest =>
    clear HC4
    try clear c1
    try clear p2
    try clear c7
    try clear c7b0
    try clear c8
    try clear hcz9_0
    try clear hcz9_1
    try clear hfz9_0
    try clear hfz9_1
    obtain ⟨kq, x17_3, rfl, HA, HJ3, BK314, BK315, HB⟩ := hcut
    cases kq with
    | zero => exact absurd HA.out (by simp [truffleref08_By.j0])
    | succ kj3 =>
      have H := HA.out
      clear HA
      simp only [truffleref08_By.j0] at H
      by_cases c10 : x17_3 = true
      · subst c10
        have H1 : (some (0, (⟨#[]⟩ : ByteArray), 0, 0, false, 0, 0, false)) = some (r1, r2, r3, r4, r5, r6, r7, r8) := by rw [if_pos rfl] at H; exact H
        clear H
        have H := H1
        clear H1
        simp only [Option.some.injEq, Prod.mk.injEq] at H
        obtain ⟨rfl, rfl, rfl, rfl, rfl, rfl, rfl, rfl⟩ := H
        have hnb11 := NB315_314.out
        have hnc11 := NB314_315.out
        have hcz12_0 : wc.cell? ⟨gb315, 0, none⟩ = some (.int .i64 0) := (blk_cell BK315.out 0).trans rfl
        have hcz12_1 : wc.cell? ⟨gb315, 1, none⟩ = some (.string (⟨#[]⟩ : ByteArray)) := (blk_cell BK315.out 1).trans rfl
        have hcz12_2 : wc.cell? ⟨gb315, 2, none⟩ = some (.int .i64 0) := (blk_cell BK315.out 2).trans rfl
        have hcz12_3 : wc.cell? ⟨gb315, 3, none⟩ = some (.int .i64 0) := (blk_cell BK315.out 3).trans rfl
        have hcz12_4 : wc.cell? ⟨gb315, 4, none⟩ = some (.bool false) := (blk_cell BK315.out 4).trans rfl
        have hcz12_5 : wc.cell? ⟨gb315, 5, none⟩ = some (.int .i64 0) := (blk_cell BK315.out 5).trans rfl
        have hcz12_6 : wc.cell? ⟨gb315, 6, none⟩ = some (.int .i64 0) := (blk_cell BK315.out 6).trans rfl
        have hfz12_0 := blk_frozen BK315.out 0
        have hfz12_1 := blk_frozen BK315.out 1
        have hfz12_2 := blk_frozen BK315.out 2
        have hfz12_3 := blk_frozen BK315.out 3
        have hfz12_4 := blk_frozen BK315.out 4
        have hfz12_5 := blk_frozen BK315.out 5
        have hfz12_6 := blk_frozen BK315.out 6
        go_wp2
        refine bodyPost_ret (results_ct rfl _ _ gb315 38 #[.int .i64 0, .string (⟨#[]⟩ : ByteArray), .int .i64 0, .int .i64 0, .bool false, .int .i64 0, .int .i64 0] (0, 0) _ rfl (by (with_reducible repeat (first | refine blk_drewN ?_ _ | refine blk_drew ?_ | refine blk_alloc ?_ _)); refine blk_put (cs := #[.int .i64 0, .string (⟨#[]⟩ : ByteArray), .int .i64 0, .int .i64 0, .bool false, .int .i64 0, .int .i64 0]) ?_ 6 _ rfl; (with_reducible repeat (first | refine blk_drewN ?_ _ | refine blk_drew ?_ | refine blk_alloc ?_ _)); refine blk_put (cs := #[.int .i64 0, .string (⟨#[]⟩ : ByteArray), .int .i64 0, .int .i64 0, .bool false, .int .i64 0, .int .i64 0]) ?_ 5 _ rfl; (with_reducible repeat (first | refine blk_drewN ?_ _ | refine blk_drew ?_ | refine blk_alloc ?_ _)); refine blk_put (cs := #[.int .i64 0, .string (⟨#[]⟩ : ByteArray), .int .i64 0, .int .i64 0, .bool false, .int .i64 0, .int .i64 0]) ?_ 4 _ rfl; (with_reducible repeat (first | refine blk_drewN ?_ _ | refine blk_drew ?_ | refine blk_alloc ?_ _)); refine blk_put (cs := #[.int .i64 0, .string (⟨#[]⟩ : ByteArray), .int .i64 0, .int .i64 0, .bool false, .int .i64 0, .int .i64 0]) ?_ 3 _ rfl; (with_reducible repeat (first | refine blk_drewN ?_ _ | refine blk_drew ?_ | refine blk_alloc ?_ _)); refine blk_put (cs := #[.int .i64 0, .string (⟨#[]⟩ : ByteArray), .int .i64 0, .int .i64 0, .bool false, .int .i64 0, .int .i64 0]) ?_ 2 _ rfl; (with_reducible repeat (first | refine blk_drewN ?_ _ | refine blk_drew ?_ | refine blk_alloc ?_ _)); refine blk_put (cs := #[.int .i64 0, .string (⟨#[]⟩ : ByteArray), .int .i64 0, .int .i64 0, .bool false, .int .i64 0, .int .i64 0]) ?_ 1 _ rfl; (with_reducible repeat (first | refine blk_drewN ?_ _ | refine blk_drew ?_ | refine blk_alloc ?_ _)); refine blk_put (cs := #[.int .i64 0, .string (⟨#[]⟩ : ByteArray), .int .i64 0, .int .i64 0, .bool false, .int .i64 0, .int .i64 0]) ?_ 0 _ rfl; (with_reducible repeat (first | refine blk_drewN ?_ _ | refine blk_drew ?_ | refine blk_alloc ?_ _)); exact BK315.out) Try.underlying38 rfl (by kernel_rfl)) rfl ?_
        exact ⟨by first | rfl | (simp [errW_none, errW_some] <;> rfl) | (simp [*, errW_none, errW_some] <;> rfl), by repeat (first | (with_reducible first | exact HB.out | apply below_alloc | apply pw_below_drewN | apply below_drew1 | refine below_set ?_ GE314.out | refine below_set ?_ GE315.out) | exact HB.out)⟩
      · replace c10 := Bool.eq_false_iff.mpr c10
        subst c10
        have H1 : (truffleref08_By.l0 kj3 a1 a2 0 l0_0 l0_1) = some (r1, r2, r3, r4, r5, r6, r7, r8) := by rw [if_neg (show ¬ (false = true) by decide)] at H; exact H
        clear H
        have H := H1
        clear H1
        have H' := Aside0.mk H
        clear H
        go_wp2
        go_loopg [8] kj3 (fun kq v8 w' => ∃ (x8_2 : Int) (x316000_2 : Int) (x316001_2 : ByteArray) (x316002_2 : Int) (x316003_2 : Int) (x316004_2 : Bool) (x316005_2 : Int) (x316006_2 : Int), v8 = .int .i64 x8_2 ∧ Aside0 (truffleref08_By.l0 kq a1 a2 x8_2 l0_0 l0_1 = some (r1, r2, r3, r4, r5, r6, r7, r8)) ∧ Aside0 (kq ≤ kj3) ∧ Aside0 (w'.heap[gb314]? = some (.cells #[(.slice A0_0 l0_0.length c0_0), (.slice A0_1 l0_1.length c0_1)] 25 (0, 0))) ∧ Aside0 (w'.heap[gb315]? = some (.cells #[.int .i64 x316000_2, .string x316001_2, .int .i64 x316002_2, .int .i64 x316003_2, .bool x316004_2, .int .i64 x316005_2, .int .i64 x316006_2] 38 (0, 0))) ∧ Aside0 (Below w.heap.size w w'))
        case atStart => exact ⟨(0), (0), ((⟨#[]⟩ : ByteArray)), (0), (0), (false), (0), (0), (by first | rfl | (simp; done) | (simp [*]; done)), H', ⟨Nat.le_refl _⟩, ⟨by (with_reducible repeat (first | refine blk_drewN ?_ _ | refine blk_drew ?_ | refine blk_alloc ?_ _)); exact BK314.out⟩, ⟨by (with_reducible repeat (first | refine blk_drewN ?_ _ | refine blk_drew ?_ | refine blk_alloc ?_ _)); exact BK315.out⟩, ⟨by repeat (first | (with_reducible first | exact HB.out | apply below_alloc | apply pw_below_drewN | apply below_drew1 | refine below_set ?_ GE314.out | refine below_set ?_ GE315.out) | exact HB.out)⟩⟩
        case round =>
          clear H'
          try clear c1
          try clear p2
          try clear c7
          try clear c7b0
          try clear c8
          try clear c10
          try clear c11
          try clear hcz12_0
          try clear hcz12_1
          try clear hcz12_2
          try clear hcz12_3
          try clear hcz12_4
          try clear hcz12_5
          try clear hcz12_6
          try clear hcz9_0
          try clear hcz9_1
          try clear hfz12_0
          try clear hfz12_1
          try clear hfz12_2
          try clear hfz12_3
          try clear hfz12_4
          try clear hfz12_5
          try clear hfz12_6
          try clear hfz9_0
          try clear hfz9_1
          try clear p2
          obtain ⟨x8_2, x316000_2, x316001_2, x316002_2, x316003_2, x316004_2, x316005_2, x316006_2, rfl, HA, HK2, BK314, BK315, HB⟩ := hrel
          cases gk with
          | zero => exact absurd HA.out (by simp [truffleref08_By.l0])
          | succ k2 =>
            have H := HA.out
            clear HA
            simp only [truffleref08_By.l0] at H
            by_cases c13 : 0 ≤ a1
            · rw [if_pos c13] at H
              have c13b0 : decide (0 ≤ a1) = true := decide_eq_true c13
              clear c13
              by_cases c14 : a1 < (l0_0.length : Int)
              · rw [if_pos c14] at H
                have c14b0 : decide (a1 < (l0_0.length : Int)) = true := decide_eq_true c14
                clear c14
                by_cases c15 : x8_2 < (((rd_T77 l0_0 a1).f1).length : Int)
                · rw [if_pos c15] at H
                  have c15b0 : decide (x8_2 < (((rd_T77 l0_0 a1).f1).length : Int)) = true := decide_eq_true c15
                  clear c15
                  by_cases c16 : 0 ≤ x8_2
                  · rw [if_pos c16] at H
                    have c16b0 : decide (0 ≤ x8_2) = true := decide_eq_true c16
                    clear c16
                    by_cases c17 : ((rd_T38 ((rd_T77 l0_0 a1).f1) x8_2).f0) = a2
                    · rw [if_pos c17] at H
                      have c17b0 : (((rd_T38 ((rd_T77 l0_0 a1).f1) x8_2).f0) == a2) = true := beq_iff_eq.mpr c17
                      have c17b1 : (((rd_T38 ((rd_T77 l0_0 a1).f1) x8_2).f0) != a2) = false := bne_eq_false_iff_eq.mpr c17
                      clear c17
                      simp only [Option.some.injEq, Prod.mk.injEq] at H
                      obtain ⟨rfl, rfl, rfl, rfl, rfl, rfl, rfl, rfl⟩ := H
                      have hnb18 := NB314_315.out
                      have hnc18 := NB315_314.out
                      have hcz19_0 : wr.cell? ⟨gb314, 0, none⟩ = some (.slice A0_0 l0_0.length c0_0) := (blk_cell BK314.out 0).trans rfl
                      have hcz19_1 : wr.cell? ⟨gb314, 1, none⟩ = some (.slice A0_1 l0_1.length c0_1) := (blk_cell BK314.out 1).trans rfl
                      have hfz19_0 := blk_frozen BK314.out 0
                      have hfz19_1 := blk_frozen BK314.out 1
                      have p316 : 0 ≤ (a1 : Int) := of_decide_eq_true (by first | (with_reducible assumption) | assumption)
                      have q316 : a1 < (l0_0.length : Int) := of_decide_eq_true (by first | (with_reducible assumption) | assumption)
                      obtain ⟨ad316, A316_1, c316_1, e316, hx316_0, hx316_1, hl316_1, hi316_1⟩ := at_T77 HR0_0.out a1 p316 q316
                      cases e316
                      replace hx316_0 := (HB.out.cell (World.block_lt_of_cell? w _ hx316_0)).trans hx316_0
                      replace hx316_1 := (HB.out.cell (World.block_lt_of_cell? w _ hx316_1)).trans hx316_1
                      have HR316_1 := Aside0.mk hi316_1
                      have HC316_1 := Aside0.mk hl316_1
                      clear hi316_1 hl316_1
                      replace p316 := eq_true p316
                      replace q316 := eq_true q316
                      have p317 : 0 ≤ (a1 : Int) := of_decide_eq_true (by first | (with_reducible assumption) | assumption)
                      have q317 : a1 < (l0_0.length : Int) := of_decide_eq_true (by first | (with_reducible assumption) | assumption)
                      obtain ⟨ad317, A317_1, c317_1, e317, hx317_0, hx317_1, hl317_1, hi317_1⟩ := at_T77 HR0_0.out a1 p317 q317
                      obtain rfl : ad316 = ad317 := (by injection e317)
                      replace hx317_0 := (HB.out.cell (World.block_lt_of_cell? w _ hx317_0)).trans hx317_0
                      replace hx317_1 := (HB.out.cell (World.block_lt_of_cell? w _ hx317_1)).trans hx317_1
                      have HR317_1 := Aside0.mk hi317_1
                      have HC317_1 := Aside0.mk hl317_1
                      clear hi317_1 hl317_1
                      replace p317 := eq_true p317
                      replace q317 := eq_true q317
                      have ea_ := Option.some.inj (hx316_1.symm.trans hx317_1)
                      injection ea_ with ea_ en_ ec_
                      subst ea_
                      subst ec_
                      clear en_
                      have p318 : 0 ≤ (x8_2 : Int) := of_decide_eq_true (by first | (with_reducible assumption) | assumption)
                      have q318 : x8_2 < (((rd_T77 l0_0 a1).f1).length : Int) := of_decide_eq_true (by first | (with_reducible assumption) | assumption)
                      obtain ⟨ad318, e318, hx318_0, hx318_1, hx318_2, hx318_3, hx318_4, hx318_5, hx318_6⟩ := at_T38 HR317_1.out x8_2 p318 q318
                      cases e318
                      replace hx318_0 := (HB.out.cell (World.block_lt_of_cell? w _ hx318_0)).trans hx318_0
                      replace hx318_1 := (HB.out.cell (World.block_lt_of_cell? w _ hx318_1)).trans hx318_1
                      replace hx318_2 := (HB.out.cell (World.block_lt_of_cell? w _ hx318_2)).trans hx318_2
                      replace hx318_3 := (HB.out.cell (World.block_lt_of_cell? w _ hx318_3)).trans hx318_3
                      replace hx318_4 := (HB.out.cell (World.block_lt_of_cell? w _ hx318_4)).trans hx318_4
                      replace hx318_5 := (HB.out.cell (World.block_lt_of_cell? w _ hx318_5)).trans hx318_5
                      replace hx318_6 := (HB.out.cell (World.block_lt_of_cell? w _ hx318_6)).trans hx318_6
                      replace p318 := eq_true p318
                      replace q318 := eq_true q318
                      have p319 : 0 ≤ (a1 : Int) := of_decide_eq_true (by first | (with_reducible assumption) | assumption)
                      have q319 : a1 < (l0_0.length : Int) := of_decide_eq_true (by first | (with_reducible assumption) | assumption)
                      obtain ⟨ad319, A319_1, c319_1, e319, hx319_0, hx319_1, hl319_1, hi319_1⟩ := at_T77 HR0_0.out a1 p319 q319
                      obtain rfl : ad316 = ad319 := (by injection e319)
                      replace hx319_0 := (HB.out.cell (World.block_lt_of_cell? w _ hx319_0)).trans hx319_0
                      replace hx319_1 := (HB.out.cell (World.block_lt_of_cell? w _ hx319_1)).trans hx319_1
                      have HR319_1 := Aside0.mk hi319_1
                      have HC319_1 := Aside0.mk hl319_1
                      clear hi319_1 hl319_1
                      replace p319 := eq_true p319
                      replace q319 := eq_true q319
                      have ea_ := Option.some.inj (hx316_1.symm.trans hx319_1)
                      injection ea_ with ea_ en_ ec_
                      subst ea_
                      subst ec_
                      clear en_
                      have p320 : 0 ≤ (x8_2 : Int) := of_decide_eq_true (by first | (with_reducible assumption) | assumption)
                      have q320 : x8_2 < (((rd_T77 l0_0 a1).f1).length : Int) := of_decide_eq_true (by first | (with_reducible assumption) | assumption)
                      obtain ⟨ad320, e320, hx320_0, hx320_1, hx320_2, hx320_3, hx320_4, hx320_5, hx320_6⟩ := at_T38 HR319_1.out x8_2 p320 q320
                      cases e320
                      replace hx320_0 := (HB.out.cell (World.block_lt_of_cell? w _ hx320_0)).trans hx320_0
                      replace hx320_1 := (HB.out.cell (World.block_lt_of_cell? w _ hx320_1)).trans hx320_1
                      replace hx320_2 := (HB.out.cell (World.block_lt_of_cell? w _ hx320_2)).trans hx320_2
                      replace hx320_3 := (HB.out.cell (World.block_lt_of_cell? w _ hx320_3)).trans hx320_3
                      replace hx320_4 := (HB.out.cell (World.block_lt_of_cell? w _ hx320_4)).trans hx320_4
                      replace hx320_5 := (HB.out.cell (World.block_lt_of_cell? w _ hx320_5)).trans hx320_5
                      replace hx320_6 := (HB.out.cell (World.block_lt_of_cell? w _ hx320_6)).trans hx320_6
                      replace p320 := eq_true p320
                      replace q320 := eq_true q320
                      have hcz20_0 : wr.cell? ⟨gb315, 0, none⟩ = some (.int .i64 x316000_2) := (blk_cell BK315.out 0).trans rfl
                      have hcz20_1 : wr.cell? ⟨gb315, 1, none⟩ = some (.string x316001_2) := (blk_cell BK315.out 1).trans rfl
                      have hcz20_2 : wr.cell? ⟨gb315, 2, none⟩ = some (.int .i64 x316002_2) := (blk_cell BK315.out 2).trans rfl
                      have hcz20_3 : wr.cell? ⟨gb315, 3, none⟩ = some (.int .i64 x316003_2) := (blk_cell BK315.out 3).trans rfl
                      have hcz20_4 : wr.cell? ⟨gb315, 4, none⟩ = some (.bool x316004_2) := (blk_cell BK315.out 4).trans rfl
                      have hcz20_5 : wr.cell? ⟨gb315, 5, none⟩ = some (.int .i64 x316005_2) := (blk_cell BK315.out 5).trans rfl
                      have hcz20_6 : wr.cell? ⟨gb315, 6, none⟩ = some (.int .i64 x316006_2) := (blk_cell BK315.out 6).trans rfl
                      have hfz20_0 := blk_frozen BK315.out 0
                      have hfz20_1 := blk_frozen BK315.out 1
                      have hfz20_2 := blk_frozen BK315.out 2
                      have hfz20_3 := blk_frozen BK315.out 3
                      have hfz20_4 := blk_frozen BK315.out 4
                      have hfz20_5 := blk_frozen BK315.out 5
                      have hfz20_6 := blk_frozen BK315.out 6
                      go_wp2
                      refine bodyPost_ret (results_ct rfl _ _ gb315 38 #[.int .i64 ((rd_T38 ((rd_T77 l0_0 a1).f1) x8_2).f0), .string ((rd_T38 ((rd_T77 l0_0 a1).f1) x8_2).f1), .int .i64 ((rd_T38 ((rd_T77 l0_0 a1).f1) x8_2).f2), .int .i64 ((rd_T38 ((rd_T77 l0_0 a1).f1) x8_2).f3), .bool ((rd_T38 ((rd_T77 l0_0 a1).f1) x8_2).f4), .int .i64 ((rd_T38 ((rd_T77 l0_0 a1).f1) x8_2).f5), .int .i64 ((rd_T38 ((rd_T77 l0_0 a1).f1) x8_2).f6)] (0, 0) _ rfl (by (with_reducible repeat (first | refine blk_drewN ?_ _ | refine blk_drew ?_ | refine blk_alloc ?_ _)); refine blk_put (cs := #[.int .i64 ((rd_T38 ((rd_T77 l0_0 a1).f1) x8_2).f0), .string ((rd_T38 ((rd_T77 l0_0 a1).f1) x8_2).f1), .int .i64 ((rd_T38 ((rd_T77 l0_0 a1).f1) x8_2).f2), .int .i64 ((rd_T38 ((rd_T77 l0_0 a1).f1) x8_2).f3), .bool ((rd_T38 ((rd_T77 l0_0 a1).f1) x8_2).f4), .int .i64 ((rd_T38 ((rd_T77 l0_0 a1).f1) x8_2).f5), .int .i64 x316006_2]) ?_ 6 _ rfl; (with_reducible repeat (first | refine blk_drewN ?_ _ | refine blk_drew ?_ | refine blk_alloc ?_ _)); refine blk_put (cs := #[.int .i64 ((rd_T38 ((rd_T77 l0_0 a1).f1) x8_2).f0), .string ((rd_T38 ((rd_T77 l0_0 a1).f1) x8_2).f1), .int .i64 ((rd_T38 ((rd_T77 l0_0 a1).f1) x8_2).f2), .int .i64 ((rd_T38 ((rd_T77 l0_0 a1).f1) x8_2).f3), .bool ((rd_T38 ((rd_T77 l0_0 a1).f1) x8_2).f4), .int .i64 x316005_2, .int .i64 x316006_2]) ?_ 5 _ rfl; (with_reducible repeat (first | refine blk_drewN ?_ _ | refine blk_drew ?_ | refine blk_alloc ?_ _)); refine blk_put (cs := #[.int .i64 ((rd_T38 ((rd_T77 l0_0 a1).f1) x8_2).f0), .string ((rd_T38 ((rd_T77 l0_0 a1).f1) x8_2).f1), .int .i64 ((rd_T38 ((rd_T77 l0_0 a1).f1) x8_2).f2), .int .i64 ((rd_T38 ((rd_T77 l0_0 a1).f1) x8_2).f3), .bool x316004_2, .int .i64 x316005_2, .int .i64 x316006_2]) ?_ 4 _ rfl; (with_reducible repeat (first | refine blk_drewN ?_ _ | refine blk_drew ?_ | refine blk_alloc ?_ _)); refine blk_put (cs := #[.int .i64 ((rd_T38 ((rd_T77 l0_0 a1).f1) x8_2).f0), .string ((rd_T38 ((rd_T77 l0_0 a1).f1) x8_2).f1), .int .i64 ((rd_T38 ((rd_T77 l0_0 a1).f1) x8_2).f2), .int .i64 x316003_2, .bool x316004_2, .int .i64 x316005_2, .int .i64 x316006_2]) ?_ 3 _ rfl; (with_reducible repeat (first | refine blk_drewN ?_ _ | refine blk_drew ?_ | refine blk_alloc ?_ _)); refine blk_put (cs := #[.int .i64 ((rd_T38 ((rd_T77 l0_0 a1).f1) x8_2).f0), .string ((rd_T38 ((rd_T77 l0_0 a1).f1) x8_2).f1), .int .i64 x316002_2, .int .i64 x316003_2, .bool x316004_2, .int .i64 x316005_2, .int .i64 x316006_2]) ?_ 2 _ rfl; (with_reducible repeat (first | refine blk_drewN ?_ _ | refine blk_drew ?_ | refine blk_alloc ?_ _)); refine blk_put (cs := #[.int .i64 ((rd_T38 ((rd_T77 l0_0 a1).f1) x8_2).f0), .string x316001_2, .int .i64 x316002_2, .int .i64 x316003_2, .bool x316004_2, .int .i64 x316005_2, .int .i64 x316006_2]) ?_ 1 _ rfl; (with_reducible repeat (first | refine blk_drewN ?_ _ | refine blk_drew ?_ | refine blk_alloc ?_ _)); refine blk_put (cs := #[.int .i64 x316000_2, .string x316001_2, .int .i64 x316002_2, .int .i64 x316003_2, .bool x316004_2, .int .i64 x316005_2, .int .i64 x316006_2]) ?_ 0 _ rfl; (with_reducible repeat (first | refine blk_drewN ?_ _ | refine blk_drew ?_ | refine blk_alloc ?_ _)); exact BK315.out) Try.underlying38 rfl (by kernel_rfl)) rfl ?_
                      exact ⟨by first | rfl | (simp [errW_none, errW_some] <;> rfl) | (simp [*, errW_none, errW_some] <;> rfl), by repeat (first | (with_reducible first | exact HB.out | apply below_alloc | apply pw_below_drewN | apply below_drew1 | refine below_set ?_ GE314.out | refine below_set ?_ GE315.out) | exact HB.out)⟩
                    · rw [if_neg c17] at H
                      have c17b0 : (((rd_T38 ((rd_T77 l0_0 a1).f1) x8_2).f0) == a2) = false := beq_eq_false_iff_ne.mpr c17
                      have c17b1 : (((rd_T38 ((rd_T77 l0_0 a1).f1) x8_2).f0) != a2) = true := bne_iff_ne.mpr c17
                      have H' := Aside0.mk H
                      clear H
                      have hnb21 := NB314_315.out
                      have hnc21 := NB315_314.out
                      have hcz22_0 : wr.cell? ⟨gb314, 0, none⟩ = some (.slice A0_0 l0_0.length c0_0) := (blk_cell BK314.out 0).trans rfl
                      have hcz22_1 : wr.cell? ⟨gb314, 1, none⟩ = some (.slice A0_1 l0_1.length c0_1) := (blk_cell BK314.out 1).trans rfl
                      have hfz22_0 := blk_frozen BK314.out 0
                      have hfz22_1 := blk_frozen BK314.out 1
                      have p316 : 0 ≤ (a1 : Int) := of_decide_eq_true (by first | (with_reducible assumption) | assumption)
                      have q316 : a1 < (l0_0.length : Int) := of_decide_eq_true (by first | (with_reducible assumption) | assumption)
                      obtain ⟨ad316, A316_1, c316_1, e316, hx316_0, hx316_1, hl316_1, hi316_1⟩ := at_T77 HR0_0.out a1 p316 q316
                      cases e316
                      replace hx316_0 := (HB.out.cell (World.block_lt_of_cell? w _ hx316_0)).trans hx316_0
                      replace hx316_1 := (HB.out.cell (World.block_lt_of_cell? w _ hx316_1)).trans hx316_1
                      have HR316_1 := Aside0.mk hi316_1
                      have HC316_1 := Aside0.mk hl316_1
                      clear hi316_1 hl316_1
                      replace p316 := eq_true p316
                      replace q316 := eq_true q316
                      have p317 : 0 ≤ (a1 : Int) := of_decide_eq_true (by first | (with_reducible assumption) | assumption)
                      have q317 : a1 < (l0_0.length : Int) := of_decide_eq_true (by first | (with_reducible assumption) | assumption)
                      obtain ⟨ad317, A317_1, c317_1, e317, hx317_0, hx317_1, hl317_1, hi317_1⟩ := at_T77 HR0_0.out a1 p317 q317
                      obtain rfl : ad316 = ad317 := (by injection e317)
                      replace hx317_0 := (HB.out.cell (World.block_lt_of_cell? w _ hx317_0)).trans hx317_0
                      replace hx317_1 := (HB.out.cell (World.block_lt_of_cell? w _ hx317_1)).trans hx317_1
                      have HR317_1 := Aside0.mk hi317_1
                      have HC317_1 := Aside0.mk hl317_1
                      clear hi317_1 hl317_1
                      replace p317 := eq_true p317
                      replace q317 := eq_true q317
                      have ea_ := Option.some.inj (hx316_1.symm.trans hx317_1)
                      injection ea_ with ea_ en_ ec_
                      subst ea_
                      subst ec_
                      clear en_
                      have p318 : 0 ≤ (x8_2 : Int) := of_decide_eq_true (by first | (with_reducible assumption) | assumption)
                      have q318 : x8_2 < (((rd_T77 l0_0 a1).f1).length : Int) := of_decide_eq_true (by first | (with_reducible assumption) | assumption)
                      obtain ⟨ad318, e318, hx318_0, hx318_1, hx318_2, hx318_3, hx318_4, hx318_5, hx318_6⟩ := at_T38 HR317_1.out x8_2 p318 q318
                      cases e318
                      replace hx318_0 := (HB.out.cell (World.block_lt_of_cell? w _ hx318_0)).trans hx318_0
                      replace hx318_1 := (HB.out.cell (World.block_lt_of_cell? w _ hx318_1)).trans hx318_1
                      replace hx318_2 := (HB.out.cell (World.block_lt_of_cell? w _ hx318_2)).trans hx318_2
                      replace hx318_3 := (HB.out.cell (World.block_lt_of_cell? w _ hx318_3)).trans hx318_3
                      replace hx318_4 := (HB.out.cell (World.block_lt_of_cell? w _ hx318_4)).trans hx318_4
                      replace hx318_5 := (HB.out.cell (World.block_lt_of_cell? w _ hx318_5)).trans hx318_5
                      replace hx318_6 := (HB.out.cell (World.block_lt_of_cell? w _ hx318_6)).trans hx318_6
                      replace p318 := eq_true p318
                      replace q318 := eq_true q318
                      go_wp2
                      go_roundg k2
                      case measure => have := HJ3.out; have := HK2.out; omega
                      case rel => exact ⟨(wrap64 (x8_2 + 1)), (x316000_2), (x316001_2), (x316002_2), (x316003_2), (x316004_2), (x316005_2), (x316006_2), (by first | rfl | (simp; done) | (simp [*]; done)), H', ⟨by have := HJ3.out; have := HK2.out; omega⟩, ⟨by (with_reducible repeat (first | refine blk_drewN ?_ _ | refine blk_drew ?_ | refine blk_alloc ?_ _)); exact BK314.out⟩, ⟨by (with_reducible repeat (first | refine blk_drewN ?_ _ | refine blk_drew ?_ | refine blk_alloc ?_ _)); exact BK315.out⟩, ⟨by repeat (first | (with_reducible first | exact HB.out | apply below_alloc | apply pw_below_drewN | apply below_drew1 | refine below_set ?_ GE314.out | refine below_set ?_ GE315.out) | exact HB.out)⟩⟩
                  · rw [if_neg c16] at H
                    exact absurd H (by simp)
                · rw [if_neg c15] at H
                  have c15b0 : decide (x8_2 < (((rd_T77 l0_0 a1).f1).length : Int)) = false := decide_eq_false c15
                  clear c15
                  simp only [Option.some.injEq, Prod.mk.injEq] at H
                  obtain ⟨rfl, rfl, rfl, rfl, rfl, rfl, rfl, rfl⟩ := H
                  have hnb23 := NB314_315.out
                  have hnc23 := NB315_314.out
                  have hcz24_0 : wr.cell? ⟨gb314, 0, none⟩ = some (.slice A0_0 l0_0.length c0_0) := (blk_cell BK314.out 0).trans rfl
                  have hcz24_1 : wr.cell? ⟨gb314, 1, none⟩ = some (.slice A0_1 l0_1.length c0_1) := (blk_cell BK314.out 1).trans rfl
                  have hfz24_0 := blk_frozen BK314.out 0
                  have hfz24_1 := blk_frozen BK314.out 1
                  have p316 : 0 ≤ (a1 : Int) := of_decide_eq_true (by first | (with_reducible assumption) | assumption)
                  have q316 : a1 < (l0_0.length : Int) := of_decide_eq_true (by first | (with_reducible assumption) | assumption)
                  obtain ⟨ad316, A316_1, c316_1, e316, hx316_0, hx316_1, hl316_1, hi316_1⟩ := at_T77 HR0_0.out a1 p316 q316
                  cases e316
                  replace hx316_0 := (HB.out.cell (World.block_lt_of_cell? w _ hx316_0)).trans hx316_0
                  replace hx316_1 := (HB.out.cell (World.block_lt_of_cell? w _ hx316_1)).trans hx316_1
                  have HR316_1 := Aside0.mk hi316_1
                  have HC316_1 := Aside0.mk hl316_1
                  clear hi316_1 hl316_1
                  replace p316 := eq_true p316
                  replace q316 := eq_true q316
                  have hcz25_0 : wr.cell? ⟨gb315, 0, none⟩ = some (.int .i64 x316000_2) := (blk_cell BK315.out 0).trans rfl
                  have hcz25_1 : wr.cell? ⟨gb315, 1, none⟩ = some (.string x316001_2) := (blk_cell BK315.out 1).trans rfl
                  have hcz25_2 : wr.cell? ⟨gb315, 2, none⟩ = some (.int .i64 x316002_2) := (blk_cell BK315.out 2).trans rfl
                  have hcz25_3 : wr.cell? ⟨gb315, 3, none⟩ = some (.int .i64 x316003_2) := (blk_cell BK315.out 3).trans rfl
                  have hcz25_4 : wr.cell? ⟨gb315, 4, none⟩ = some (.bool x316004_2) := (blk_cell BK315.out 4).trans rfl
                  have hcz25_5 : wr.cell? ⟨gb315, 5, none⟩ = some (.int .i64 x316005_2) := (blk_cell BK315.out 5).trans rfl
                  have hcz25_6 : wr.cell? ⟨gb315, 6, none⟩ = some (.int .i64 x316006_2) := (blk_cell BK315.out 6).trans rfl
                  have hfz25_0 := blk_frozen BK315.out 0
                  have hfz25_1 := blk_frozen BK315.out 1
                  have hfz25_2 := blk_frozen BK315.out 2
                  have hfz25_3 := blk_frozen BK315.out 3
                  have hfz25_4 := blk_frozen BK315.out 4
                  have hfz25_5 := blk_frozen BK315.out 5
                  have hfz25_6 := blk_frozen BK315.out 6
                  go_wp2
                  refine bodyPost_ret (results_ct rfl _ _ gb315 38 #[.int .i64 0, .string (⟨#[]⟩ : ByteArray), .int .i64 0, .int .i64 0, .bool false, .int .i64 0, .int .i64 0] (0, 0) _ rfl (by (with_reducible repeat (first | refine blk_drewN ?_ _ | refine blk_drew ?_ | refine blk_alloc ?_ _)); refine blk_put (cs := #[.int .i64 0, .string (⟨#[]⟩ : ByteArray), .int .i64 0, .int .i64 0, .bool false, .int .i64 0, .int .i64 x316006_2]) ?_ 6 _ rfl; (with_reducible repeat (first | refine blk_drewN ?_ _ | refine blk_drew ?_ | refine blk_alloc ?_ _)); refine blk_put (cs := #[.int .i64 0, .string (⟨#[]⟩ : ByteArray), .int .i64 0, .int .i64 0, .bool false, .int .i64 x316005_2, .int .i64 x316006_2]) ?_ 5 _ rfl; (with_reducible repeat (first | refine blk_drewN ?_ _ | refine blk_drew ?_ | refine blk_alloc ?_ _)); refine blk_put (cs := #[.int .i64 0, .string (⟨#[]⟩ : ByteArray), .int .i64 0, .int .i64 0, .bool x316004_2, .int .i64 x316005_2, .int .i64 x316006_2]) ?_ 4 _ rfl; (with_reducible repeat (first | refine blk_drewN ?_ _ | refine blk_drew ?_ | refine blk_alloc ?_ _)); refine blk_put (cs := #[.int .i64 0, .string (⟨#[]⟩ : ByteArray), .int .i64 0, .int .i64 x316003_2, .bool x316004_2, .int .i64 x316005_2, .int .i64 x316006_2]) ?_ 3 _ rfl; (with_reducible repeat (first | refine blk_drewN ?_ _ | refine blk_drew ?_ | refine blk_alloc ?_ _)); refine blk_put (cs := #[.int .i64 0, .string (⟨#[]⟩ : ByteArray), .int .i64 x316002_2, .int .i64 x316003_2, .bool x316004_2, .int .i64 x316005_2, .int .i64 x316006_2]) ?_ 2 _ rfl; (with_reducible repeat (first | refine blk_drewN ?_ _ | refine blk_drew ?_ | refine blk_alloc ?_ _)); refine blk_put (cs := #[.int .i64 0, .string x316001_2, .int .i64 x316002_2, .int .i64 x316003_2, .bool x316004_2, .int .i64 x316005_2, .int .i64 x316006_2]) ?_ 1 _ rfl; (with_reducible repeat (first | refine blk_drewN ?_ _ | refine blk_drew ?_ | refine blk_alloc ?_ _)); refine blk_put (cs := #[.int .i64 x316000_2, .string x316001_2, .int .i64 x316002_2, .int .i64 x316003_2, .bool x316004_2, .int .i64 x316005_2, .int .i64 x316006_2]) ?_ 0 _ rfl; (with_reducible repeat (first | refine blk_drewN ?_ _ | refine blk_drew ?_ | refine blk_alloc ?_ _)); exact BK315.out) Try.underlying38 rfl (by kernel_rfl)) rfl ?_
                  exact ⟨by first | rfl | (simp [errW_none, errW_some] <;> rfl) | (simp [*, errW_none, errW_some] <;> rfl), by repeat (first | (with_reducible first | exact HB.out | apply below_alloc | apply pw_below_drewN | apply below_drew1 | refine below_set ?_ GE314.out | refine below_set ?_ GE315.out) | exact HB.out)⟩
              · rw [if_neg c14] at H
                exact absurd H (by simp)
            · rw [if_neg c13] at H
              exact absurd H (by simp)

-- GIVEN: function 34 (varint_Put)

/-! ### tag_head_number: function 55 -/
def tag_head_number.f (a0_0 : Int) (a0_1 : Int) : Option (Int) := some (Go.bits .or .u64 (IntKind.u64.wrap ((IntKind.u64.wrap (a0_0)) * 8)) (IntKind.u64.wrap (a0_1)))
set_option maxHeartbeats 8000000 in
set_option maxRecDepth 100000 in
theorem tag_head_number.calls (a0_0 : Int) (a0_1 : Int) (r : Int) (w : World) (h : tag_head_number.f a0_0 a0_1 = some r) :
    Calls Try.prog 55 #[.agg #[.int .i64 a0_0, .int .i64 a0_1]] w fun e w' => e = .returned (.int .u64 r) ∧ Below w.heap.size w w' := by
  have hu110 := Try.underlying110
  have HB := Aside0.mk (Below.refl w.heap.size w)
  have H : (some (Go.bits .or .u64 (IntKind.u64.wrap ((IntKind.u64.wrap (a0_0)) * 8)) (IntKind.u64.wrap (a0_1)))) = some r := h
  clear h
  obtain rfl := Option.some.inj H
  go_enter Try.func55, Try.ntmps55
  go_wp2_with (first | ((with_reducible refine gate_dst (N := 1) rfl ?_); refine box_event ?hg (N := 1) ?hd (cs := #[.int .i64 a0_0, .int .i64 a0_1]) (t := 110) ?hr ?_; (case hd => rfl); (case hg => rfl); (case hr => first | (go_simp; done) | (go_simp; rfl)); intro gb321 hg w2 hbox hb; have n0_ := Aside0.mk (below_step (by repeat (first | (with_reducible first | exact HB.out | apply below_alloc | apply pw_below_drewN | apply below_drew1) | exact HB.out)) hb); have n1_ := Aside0.mk (hbox); have n2_ := Aside0.mk ((by rw [hg]; exact (below_size (by repeat (first | (with_reducible first | exact HB.out | apply below_alloc | apply pw_below_drewN | apply below_drew1) | exact HB.out))) : w.heap.size ≤ gb321)); have n3_ := Aside0.mk ((by rw [hg]; exact (below_size (by repeat (first | (with_reducible first | exact HB.out | apply below_alloc | apply pw_below_drewN | apply below_drew1) | exact HB.out))) : w.heap.size ≤ gb321)); clear HB; have HB := n0_; have BK321 := n1_; have GW321 := n2_; have GE321 := n3_; clear n0_ n1_ n2_ n3_; clear hb hbox hg; have hcz3_0 : w2.cell? ⟨gb321, 0, none⟩ = some (.int .i64 a0_0) := (blk_cell BK321.out 0).trans rfl; have hcz3_1 : w2.cell? ⟨gb321, 1, none⟩ = some (.int .i64 a0_1) := (blk_cell BK321.out 1).trans rfl; have hfz3_0 := blk_frozen BK321.out 0; have hfz3_1 := blk_frozen BK321.out 1))
  go_ret
  exact ⟨by first | rfl | (simp [errW_none, errW_some] <;> rfl) | (simp [*, errW_none, errW_some] <;> rfl), by repeat (first | (with_reducible first | exact HB.out | apply below_alloc | apply pw_below_drewN | apply below_drew1 | refine below_set ?_ GE321.out) | exact HB.out)⟩

end Go.Proofs.Ytlokcpfkaijchaa.PA
