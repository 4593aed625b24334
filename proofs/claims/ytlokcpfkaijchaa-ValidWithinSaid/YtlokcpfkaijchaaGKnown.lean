/- Contract of tag.Known: the four wire types. -/
import Derived.Test.YtlokcpfkaijchaaPAx0
import Derived.Test.YtlokcpfkaijchaaLib
namespace Go.Proofs.Ytlokcpfkaijchaa.PA
open Go.RowKit Go.Proofs.YtlokcpfkaijchaaW.PrintWords Go.Proofs.YtlokcpfkaijchaaW.PrintLast Go.Proofs.YtlokcpfkaijchaaW.PrintMore
set_option linter.unusedVariables false
set_option linter.unusedSimpArgs false
/-- The wire types. -/
def isWire (a : Int) : Bool := a == 0 || a == 1 || a == 2 || a == 5
def tag_Known.f (a0 : Int) : Option (Bool) := some (isWire a0)
theorem ret_bool {a b : Bool} (h : a = b) : Ending.returned (.bool a) = .returned (.bool b) := by rw [h]
def wireNo (k : Nat) : Int := if k = 0 then 0 else if k = 1 then 1 else if k = 2 then 2 else 5
theorem isWire_of (a : Int) (k : Nat) (h : (wireNo k == a) = true) : isWire a = true := by
  unfold isWire wireNo at *
  simp at h ⊢
  split at h <;> (try split at h) <;> (try split at h) <;> omega
theorem isWire_not (a : Int) (h : ∀ j, j < 4 → (wireNo j == a) = false) : isWire a = false := by
  have h0 := h 0 (by omega)
  have h1 := h 1 (by omega)
  have h2 := h 2 (by omega)
  have h3 := h 3 (by omega)
  simp [wireNo] at h0 h1 h2 h3
  simp [isWire]; omega
set_option maxHeartbeats 1000000 in
theorem tag_Known.calls (a0 : Int) (r : Bool) (w : World) (h : tag_Known.f a0 = some r) :
    Calls Try.prog 53 #[.int .i64 a0] w fun e w' => e = .returned (.bool r) ∧ Drawn0 w w' := by
  obtain rfl := Option.some.inj h
  clear h
  have i0 : ∀ w, (Instr.index 139 (.agg #[.int .i64 0, .int .i64 1, .int .i64 2, .int .i64 5]) (.int .i64 0)).run Try.prog w = .ok (.int .i64 0) w := fun _ => by kernel_rfl
  have i1 : ∀ w, (Instr.index 139 (.agg #[.int .i64 0, .int .i64 1, .int .i64 2, .int .i64 5]) (.int .i64 1)).run Try.prog w = .ok (.int .i64 1) w := fun _ => by kernel_rfl
  have i2 : ∀ w, (Instr.index 139 (.agg #[.int .i64 0, .int .i64 1, .int .i64 2, .int .i64 5]) (.int .i64 2)).run Try.prog w = .ok (.int .i64 2) w := fun _ => by kernel_rfl
  have i3 : ∀ w, (Instr.index 139 (.agg #[.int .i64 0, .int .i64 1, .int .i64 2, .int .i64 5]) (.int .i64 3)).run Try.prog w = .ok (.int .i64 5) w := fun _ => by kernel_rfl
  have ix : ∀ (k : Nat) (w : World), k < 4 → (Instr.index 139 (.agg #[.int .i64 0, .int .i64 1, .int .i64 2, .int .i64 5]) (.int .i64 k)).run Try.prog w = .ok (.int .i64 (wireNo k)) w := by
    intro k w hk
    have h : k = 0 ∨ k = 1 ∨ k = 2 ∨ k = 3 := by omega
    rcases h with rfl | rfl | rfl | rfl
    · exact i0 w
    · exact i1 w
    · exact i2 w
    · exact i3 w
  clear i0 i1 i2 i3
  have IX := Lib.hid ix
  clear ix
  go_enter Try.func53, Try.ntmps53
  go_wp2
  go_loop [6] (fun i => ∃ k : Nat, k ≤ 4 ∧ i = .int .i64 k ∧ Hid (∀ j, j < k → (wireNo j == a0) = false)) (fun i => 4 - (intOf i).toNat)
  case atStart => exact ⟨0, by omega, rfl, fun j hj => absurd hj (by omega)⟩
  case round =>
    obtain ⟨k, hk, rfl, hall⟩ := hrel
    by_cases hlt : k < 4
    · have ixk := fun w => IX.out k w hlt
      cases hq : (wireNo k == a0) with
      | true =>
        have HQ := Lib.hid (isWire_of a0 k hq)
        go_wp2
        go_ret
        exact ⟨ret_bool HQ.out.symm, Drawn0.refl _⟩
      | false =>
        have hnew : ∀ j, j < k + 1 → (wireNo j == a0) = false := by
          intro j hj
          rcases Nat.lt_or_ge j k with h | h
          · exact hall.out j h
          · have : j = k := by omega
            subst this; exact hq
        have HN := Lib.hid hnew
        clear hnew
        go_wp2
        go_round
        case rel => exact ⟨k + 1, by omega, by go_num, HN.out⟩
        case measure => simp [intOf]; omega
    · have hk4 : k = 4 := by omega
      subst hk4
      have HN := Lib.hid (isWire_not a0 hall.out)
      go_wp2
      go_ret
      exact ⟨ret_bool HN.out.symm, Drawn0.refl _⟩
end Go.Proofs.Ytlokcpfkaijchaa.PA
