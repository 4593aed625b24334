/- Contract of conv.Fits, as the other texts ask for it. -/
import Derived.Test.YthikfifoomfjgaaGreatPAx0
import Derived.Test.YthikfifoomfjgaaGreatConvFits
namespace Go.Proofs.YthikfifoomfjgaaGreat.PA
open Go.RowKit Go.Proofs.YthikfifoomfjgaaGreatW.PrintWords Go.Proofs.YthikfifoomfjgaaGreatW.PrintLast Go.Proofs.YthikfifoomfjgaaGreatW.PrintMore
set_option linter.unusedVariables false
/-- A number of 64 bits, with a sign. -/
def isI64 (n : Int) : Bool := decide (-9223372036854775808 ≤ n) && decide (n < 9223372036854775808)
def conv_Fits.f (a0 : Int) (a1 : Int) : Option (Bool) := if isI64 a1 = true then some (fitsB a0 a1) else none
theorem conv_Fits.calls (a0 : Int) (a1 : Int) (r : Bool) (w : World) (h : conv_Fits.f a0 a1 = some r) :
    Calls Tryz.prog 82 #[.int .i64 a0, .int .i64 a1] w fun e w' => e = .returned (.bool r) ∧ Below w.heap.size w w' := by
  unfold conv_Fits.f at h
  split at h
  · rename_i hu
    obtain ⟨h0, h1⟩ : -9223372036854775808 ≤ a1 ∧ a1 < 9223372036854775808 := by simpa [isI64] using hu
    obtain rfl := Option.some.inj h
    exact conv_fits a0 a1 h0 h1 w
  · cases h
end Go.Proofs.YthikfifoomfjgaaGreat.PA
