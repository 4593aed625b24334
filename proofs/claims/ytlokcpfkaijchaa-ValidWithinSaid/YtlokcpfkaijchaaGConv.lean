/- Contracts of conv.Wire and conv.Of, as the other texts ask for them. -/
import Derived.Test.YtlokcpfkaijchaaPAx0
import Derived.Test.YtlokcpfkaijchaaConv3
namespace Go.Proofs.Ytlokcpfkaijchaa.PA
open Go.RowKit Go.Proofs.YtlokcpfkaijchaaW.PrintWords Go.Proofs.YtlokcpfkaijchaaW.PrintLast Go.Proofs.YtlokcpfkaijchaaW.PrintMore
set_option linter.unusedVariables false
def conv_Wire.f (a0 : Int) : Option (Int) := some (wireOf a0)
theorem conv_Wire.calls (a0 : Int) (r : Int) (w : World) (h : conv_Wire.f a0 = some r) :
    Calls Try.prog 76 #[.int .i64 a0] w fun e w' => e = .returned (.int .i64 r) ∧ Below w.heap.size w w' := by
  obtain rfl := Option.some.inj h
  exact conv_wire a0 w
/-- A number of 64 bits. -/
def isU64 (n : Int) : Bool := decide (0 ≤ n) && decide (n < 18446744073709551616)
def conv_Of.f (a0 : Int) (a1 : Int) : Option (Int × Bool) := if isU64 a1 = true then some (if kindIn a0 = true then ofN a0 a1 else 0, kindIn a0) else none
theorem conv_Of.calls (a0 : Int) (a1 : Int) (r1 : Int) (r2 : Bool) (w : World) (h : conv_Of.f a0 a1 = some (r1, r2)) :
    Calls Try.prog 78 #[.int .i64 a0, .int .u64 a1] w fun e w' => e = .returned (.tuple #[.int .i64 r1, .bool r2]) ∧ Below w.heap.size w w' := by
  unfold conv_Of.f at h
  split at h
  · rename_i hu
    obtain ⟨h0, h1⟩ : 0 ≤ a1 ∧ a1 < 18446744073709551616 := by simpa [isU64] using hu
    have h' := Option.some.inj h
    simp only [Prod.mk.injEq] at h'
    obtain ⟨rfl, rfl⟩ := h'
    by_cases hk : 0 ≤ a0 ∧ a0 < 7
    · have e : kindIn a0 = true := by simp [kindIn, hk]
      rw [if_pos e, e]
      exact conv_of_in a0 a1 hk.1 hk.2 h0 h1 w
    · have e : kindIn a0 = false := by simp [kindIn]; omega
      rw [e]
      exact conv_of_out a0 a1 (by omega) w
  · cases h
end Go.Proofs.Ytlokcpfkaijchaa.PA
