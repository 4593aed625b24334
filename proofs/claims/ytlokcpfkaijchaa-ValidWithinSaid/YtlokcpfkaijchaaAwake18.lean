/- The example of chapter 18 is as it should be; blocks of two cells. -/
import Derived.Test.YtlokcpfkaijchaaPAx10
import Derived.Test.YtlokcpfkaijchaaGLib
namespace Go.Proofs.Ytlokcpfkaijchaa.PA
open Go.RowKit Go.Proofs.YtlokcpfkaijchaaW.PrintWords Go.Proofs.YtlokcpfkaijchaaW.PrintLast Go.Proofs.YtlokcpfkaijchaaW.PrintMore
set_option linter.unusedVariables false
set_option linter.unusedSimpArgs false
theorem awake18_true : trufflelaw18_awake.f = some true := by kernel_rfl
theorem awake18 (w : World) : Calls Try.prog 10 #[] w fun e w' => e = .returned (.bool true) ∧ Below w.heap.size w w' := trufflelaw18_awake.calls true w awake18_true
/-- A block of two cells. -/
def Box2 (k : Nat) (w : World) (c0 c1 : Value) : Prop := k < w.heap.size ∧ w.cell? ⟨k, 0, none⟩ = some c0 ∧ w.cell? ⟨k, 1, none⟩ = some c1
theorem Box2.below {k : Nat} {w w' : World} {c0 c1 : Value} (h : Box2 k w c0 c1) (hb : Below w.heap.size w w') : Box2 k w' c0 c1 :=
  ⟨Nat.lt_of_lt_of_le h.1 hb.size, (hb.cell h.1).trans h.2.1, (hb.cell h.1).trans h.2.2⟩
theorem Box2.new (w : World) (c0 c1 : Value) (t : TypeId) : Box2 w.heap.size (w.alloc (.cells #[c0, c1] t)) c0 c1 := by
  refine ⟨by simp, ?_, ?_⟩ <;> simp [go_sem]
theorem Box2.cells {k : Nat} {w w' : World} {c0 c1 : Value} (h : Box2 k w c0 c1) (hb : Below w.heap.size w w') : w'.cell? ⟨k, 0, none⟩ = some c0 ∧ w'.cell? ⟨k, 1, none⟩ = some c1 := (h.below hb).2
end Go.Proofs.Ytlokcpfkaijchaa.PA
