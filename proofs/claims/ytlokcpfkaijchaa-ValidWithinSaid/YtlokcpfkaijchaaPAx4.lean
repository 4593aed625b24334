-- PRINTED by print.py (a twelfth state) out of the translation. Not trusted: Lean checks it.
import Derived.Test.YtlokcpfkaijchaaPAx0
namespace Go.Proofs.Ytlokcpfkaijchaa.PA
open Go.RowKit Go.Proofs.YtlokcpfkaijchaaW.PrintWords Go.Proofs.YtlokcpfkaijchaaW.PrintLast
set_option linter.unusedVariables false
set_option linter.unusedSimpArgs false

/-! ### valid_Start: function 14 -/
def valid_Start.f (a0 : Int) (l1 : List Int) : Option ((List (S40))) := some (([(⟨false, a0, (⟨0, (⟨#[]⟩ : ByteArray), 0, 0, false, 0, 0⟩ : S38), 0, (l1.length : Int), 1⟩ : S40)] : List (S40)))
set_option maxHeartbeats 8000000 in
set_option maxRecDepth 100000 in
theorem valid_Start.calls (a0 : Int) (A1 : Option Addr) (c1 : Nat) (l1 : List Int) (r : List (S40)) (w : World) (hr1 : Kd.C (Kd.int .u8) w A1 l1.length l1) (hc1 : l1.length ≤ c1) (h : valid_Start.f a0 l1 = some r) :
    Calls Try.prog 14 #[.int .i64 a0, .slice A1 l1.length c1] w fun e w' => ∃ v0_ : Value, e = .returned (v0_) ∧ Kd.R k40 40 w' w.heap.size (fun _ => True) v0_ r ∧ Below w.heap.size w w' := by
  have hu40 := Try.underlying40
  have HR1 := Aside0.mk hr1
  have HC1 := Aside0.mk hc1
  clear hr1 hc1
  have HB := Aside0.mk (Below.refl w.heap.size w)
  have H : (some (([(⟨false, a0, (⟨0, (⟨#[]⟩ : ByteArray), 0, 0, false, 0, 0⟩ : S38), 0, (l1.length : Int), 1⟩ : S40)] : List (S40)))) = some r := h
  clear h
  obtain ⟨y101, hy101⟩ : ∃ y_ : List (S40), y_ = (([(⟨false, a0, (⟨0, (⟨#[]⟩ : ByteArray), 0, 0, false, 0, 0⟩ : S38), 0, (l1.length : Int), 1⟩ : S40)] : List (S40))) := ⟨_, rfl⟩
  replace H : (some y101) = some r := by first | (rw [hy101]; with_reducible exact H) | (have H2_ := (Option.bind_some _ _).symm.trans H; rw [hy101]; with_reducible exact H2_) | (have H2_ := (Option.bind_some _ _).symm.trans H; with_reducible exact H2_) | with_reducible exact H | (rw [hy101]; exact H) | exact H
  have Ny101 := Aside0.mk hy101
  clear hy101
  obtain rfl := Option.some.inj H
  go_enter Try.func14, Try.ntmps14
  go_wp2_with (first | ((with_reducible refine gate_dst (N := 9) rfl ?_); refine Kd.R_lit k40 _ 40 ?hg (N := 9) ?hd (xs := ([(⟨false, a0, (⟨0, (⟨#[]⟩ : ByteArray), 0, 0, false, 0, 0⟩ : S38), 0, (l1.length : Int), 1⟩ : S40)] : List (S40))) (inner := [.bool false, .int .i64 a0, .int .i64 0, .string (⟨#[]⟩ : ByteArray), .int .i64 0, .int .i64 0, .bool false, .int .i64 0, .int .i64 0, .int .i64 0, .int .i64 (l1.length : Int), .int .i64 1]) (ok := fun _ => True) (okp := fun _ => True) ?hr ?hp (fun _ hk => hk) trivial (Below.refl _ _) (Nat.le_refl _) (by simp) ?_; (case hd => rfl); (case hg => rfl); (case hr => first | (go_simp; done) | (go_simp; rfl)); (case hp => exact (Reps.front (show Kd.M k40 _ _ _ (⟨false, a0, (⟨0, (⟨#[]⟩ : ByteArray), 0, 0, false, 0, 0⟩ : S38), 0, (l1.length : Int), 1⟩ : S40) [.bool false, .int .i64 a0, .int .i64 0, .string (⟨#[]⟩ : ByteArray), .int .i64 0, .int .i64 0, .bool false, .int .i64 0, .int .i64 0, .int .i64 0, .int .i64 (l1.length : Int), .int .i64 1] from (k40_mkM _ _ _ (⟨false, a0, (⟨0, (⟨#[]⟩ : ByteArray), 0, 0, false, 0, 0⟩ : S38), 0, (l1.length : Int), 1⟩ : S40) )) rfl (Reps.none _ _) rfl)); intro v102 w3 ho4 hb hg_ hnew_; clear hg_ hnew_; (first | rw [← Ny101.out] at ho4 | (simp only [Int.reduceToNat] at ho4; rw [← Ny101.out] at ho4)); have n0_ := Aside0.mk (Kd.R_lower ho4 (below_size (by repeat (first | (with_reducible first | exact HB.out | apply below_alloc | apply pw_below_drewN | apply below_drew1) | exact HB.out)))); have n1_ := Aside0.mk (below_step (by repeat (first | (with_reducible first | exact HB.out | apply below_alloc | apply pw_below_drewN | apply below_drew1) | exact HB.out)) hb); clear HB; have HO103 := n0_; have HB := n1_; clear n0_ n1_; clear hb ho4))
  go_ret
  exact ⟨_, by first | rfl | (simp [errW_none, errW_some] <;> rfl) | (simp [*, errW_none, errW_some] <;> rfl), by (with_reducible repeat (first | apply Kd.R_alloc | apply Kd.R_drewN | apply Kd.R_drew)); exact HO103.out, by repeat (first | (with_reducible first | exact HB.out | apply below_alloc | apply pw_below_drewN | apply below_drew1) | exact HB.out)⟩

end Go.Proofs.Ytlokcpfkaijchaa.PA
