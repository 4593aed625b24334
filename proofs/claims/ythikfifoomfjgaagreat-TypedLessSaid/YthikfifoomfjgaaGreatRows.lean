/-
  NARROWER THAN 'FOR EVERY INPUT', by the rows' own cells (each row's printed sentence says how): TypedSlots: loops · TypedTells: loops · TypedVal: loops · TypedWrong: loops · TypedNormal: loops · TypedLess: loops.
  DERIVED. THE GIVEN ROWS OF THIS SEAT. 6 by the template 'for every input the law returns true; each argument reads behind the call as it read before'; 0 by the template 'total and deterministic' (their statements: YthikfifoomfjgaaGreatTotals.lean).
  GIVEN WITH THE SEED: the statements are not yours to turn. If you find one false, say at which input.
  Laid BY PROGRAM, IN A SANDBOX (cutbox-rows.mjs): the forced cells as the released guide's own fill.sh prints them over the translation 28385ccacee4662d… (all of the seat's roots in one cut). By AI agents, Wed Nov 11 2026. No macro, syntax, notation, axiom, sorry.
-/
import Derived.Test.YthikfifoomfjgaaGreatChecked
import GoSem.Claim
import GoSem.ClaimJoined
import GoSem.ClaimMapViews
import Derived.JoinedTies
import Derived.KernelRfl
namespace Go.Proofs.YthikfifoomfjgaaGreat
/- THE CELL 'sum', in the pinned program and in every row, IS THE sha256 OF THE DUMP (.gsa) THAT YthikfifoomfjgaaGreatProg.lean LOADS. Nothing in Lean hashes anything: it is a label: what it is worth is what the hold of that sum in a sandbox is worth. -/
noncomputable def Tryz.pinned : Pinned := { name := "ythikfifoomfjgaagreat", sum := "28385ccacee4662d21e2dff78dd77801061940afc7b1ed89525f89f86564d0e0", checked := Tryz.checked }
namespace Rows
def none {H : Type} : Left H := { results := [], args := [] }

/-- 'trufflelaw10.TypedSlots': WHATEVER THE INPUT: true; the input reads as it did. -/
def typedSlotsSpec : ChangeSpec := { name := "typedSlots", fn := fun _ => fun
  | [d1, d2, d3, d4, d5] => { results := [.lit (.bool true)], args := [d1, d2, d3, d4, d5] }
  | _ => none }
def typedSlotsRow : OpenClaim := { program := "ythikfifoomfjgaagreat", sum := "28385ccacee4662d21e2dff78dd77801061940afc7b1ed89525f89f86564d0e0", func := "truffle/trufflelaw10.TypedSlots", spec := "typedSlots", unfollowed := true, recurses := true, loops := true, plainKeys := false, apart := false }
def TypedSlotsSaid : Prop := typedSlotsRow.holds Tryz.pinned (OpenSpec.ofChange typedSlotsSpec)

/-- ITS FALSE NEIGHBOUR: 'it returns false'. Refute it at one input. -/
def typedSlotsWrong : ChangeSpec := { name := "typedSlots", fn := fun _ => fun
  | [d1, d2, d3, d4, d5] => { results := [.lit (.bool false)], args := [d1, d2, d3, d4, d5] }
  | _ => none }
def TypedSlotsWrongFalsely : Prop := typedSlotsRow.holds Tryz.pinned (OpenSpec.ofChange typedSlotsWrong)

/-- 'trufflelaw10.TypedTells': WHATEVER THE INPUT: true; the input reads as it did. -/
def typedTellsSpec : ChangeSpec := { name := "typedTells", fn := fun _ => fun
  | [d1, d2, d3, d4, d5, d6] => { results := [.lit (.bool true)], args := [d1, d2, d3, d4, d5, d6] }
  | _ => none }
def typedTellsRow : OpenClaim := { program := "ythikfifoomfjgaagreat", sum := "28385ccacee4662d21e2dff78dd77801061940afc7b1ed89525f89f86564d0e0", func := "truffle/trufflelaw10.TypedTells", spec := "typedTells", unfollowed := true, recurses := true, loops := true, plainKeys := false, apart := false }
def TypedTellsSaid : Prop := typedTellsRow.holds Tryz.pinned (OpenSpec.ofChange typedTellsSpec)

/-- ITS FALSE NEIGHBOUR: 'it returns false'. Refute it at one input. -/
def typedTellsWrong : ChangeSpec := { name := "typedTells", fn := fun _ => fun
  | [d1, d2, d3, d4, d5, d6] => { results := [.lit (.bool false)], args := [d1, d2, d3, d4, d5, d6] }
  | _ => none }
def TypedTellsWrongFalsely : Prop := typedTellsRow.holds Tryz.pinned (OpenSpec.ofChange typedTellsWrong)

/-- 'trufflelaw10.TypedVal': WHATEVER THE INPUT: true; the input reads as it did. -/
def typedValSpec : ChangeSpec := { name := "typedVal", fn := fun _ => fun
  | [d1, d2, d3, d4] => { results := [.lit (.bool true)], args := [d1, d2, d3, d4] }
  | _ => none }
def typedValRow : OpenClaim := { program := "ythikfifoomfjgaagreat", sum := "28385ccacee4662d21e2dff78dd77801061940afc7b1ed89525f89f86564d0e0", func := "truffle/trufflelaw10.TypedVal", spec := "typedVal", unfollowed := true, recurses := true, loops := true, plainKeys := false, apart := false }
def TypedValSaid : Prop := typedValRow.holds Tryz.pinned (OpenSpec.ofChange typedValSpec)

/-- ITS FALSE NEIGHBOUR: 'it returns false'. Refute it at one input. -/
def typedValWrong : ChangeSpec := { name := "typedVal", fn := fun _ => fun
  | [d1, d2, d3, d4] => { results := [.lit (.bool false)], args := [d1, d2, d3, d4] }
  | _ => none }
def TypedValWrongFalsely : Prop := typedValRow.holds Tryz.pinned (OpenSpec.ofChange typedValWrong)

/-- 'trufflelaw10.TypedWrong': WHATEVER THE INPUT: true; the input reads as it did. -/
def typedWrongSpec : ChangeSpec := { name := "typedWrong", fn := fun _ => fun
  | [d1, d2, d3, d4, d5] => { results := [.lit (.bool true)], args := [d1, d2, d3, d4, d5] }
  | _ => none }
def typedWrongRow : OpenClaim := { program := "ythikfifoomfjgaagreat", sum := "28385ccacee4662d21e2dff78dd77801061940afc7b1ed89525f89f86564d0e0", func := "truffle/trufflelaw10.TypedWrong", spec := "typedWrong", unfollowed := true, recurses := true, loops := true, plainKeys := false, apart := false }
def TypedWrongSaid : Prop := typedWrongRow.holds Tryz.pinned (OpenSpec.ofChange typedWrongSpec)

/-- ITS FALSE NEIGHBOUR: 'it returns false'. Refute it at one input. -/
def typedWrongWrong : ChangeSpec := { name := "typedWrong", fn := fun _ => fun
  | [d1, d2, d3, d4, d5] => { results := [.lit (.bool false)], args := [d1, d2, d3, d4, d5] }
  | _ => none }
def TypedWrongWrongFalsely : Prop := typedWrongRow.holds Tryz.pinned (OpenSpec.ofChange typedWrongWrong)

/-- 'trufflelaw10.TypedNormal': WHATEVER THE INPUT: true; the input reads as it did. -/
def typedNormalSpec : ChangeSpec := { name := "typedNormal", fn := fun _ => fun
  | [d1, d2, d3] => { results := [.lit (.bool true)], args := [d1, d2, d3] }
  | _ => none }
def typedNormalRow : OpenClaim := { program := "ythikfifoomfjgaagreat", sum := "28385ccacee4662d21e2dff78dd77801061940afc7b1ed89525f89f86564d0e0", func := "truffle/trufflelaw10.TypedNormal", spec := "typedNormal", unfollowed := true, recurses := true, loops := true, plainKeys := false, apart := false }
def TypedNormalSaid : Prop := typedNormalRow.holds Tryz.pinned (OpenSpec.ofChange typedNormalSpec)

/-- ITS FALSE NEIGHBOUR: 'it returns false'. Refute it at one input. -/
def typedNormalWrong : ChangeSpec := { name := "typedNormal", fn := fun _ => fun
  | [d1, d2, d3] => { results := [.lit (.bool false)], args := [d1, d2, d3] }
  | _ => none }
def TypedNormalWrongFalsely : Prop := typedNormalRow.holds Tryz.pinned (OpenSpec.ofChange typedNormalWrong)

/-- 'trufflelaw10.TypedLess': WHATEVER THE INPUT: true; the input reads as it did. -/
def typedLessSpec : ChangeSpec := { name := "typedLess", fn := fun _ => fun
  | [d1, d2, d3, d4] => { results := [.lit (.bool true)], args := [d1, d2, d3, d4] }
  | _ => none }
def typedLessRow : OpenClaim := { program := "ythikfifoomfjgaagreat", sum := "28385ccacee4662d21e2dff78dd77801061940afc7b1ed89525f89f86564d0e0", func := "truffle/trufflelaw10.TypedLess", spec := "typedLess", inPlace := ["slices.overlaps[truffle/api.Slot]"], unfollowed := true, recurses := true, loops := true, plainKeys := false, apart := false }
def TypedLessSaid : Prop := typedLessRow.holds Tryz.pinned (OpenSpec.ofChange typedLessSpec)

/-- ITS FALSE NEIGHBOUR: 'it returns false'. Refute it at one input. -/
def typedLessWrong : ChangeSpec := { name := "typedLess", fn := fun _ => fun
  | [d1, d2, d3, d4] => { results := [.lit (.bool false)], args := [d1, d2, d3, d4] }
  | _ => none }
def TypedLessWrongFalsely : Prop := typedLessRow.holds Tryz.pinned (OpenSpec.ofChange typedLessWrong)

/- THE SECOND FORM. 'bulk': how many values and letters a reading holds, each counted each time it is reached (what is shared counts as often as it is met; a slice's spare places count too). A statement '..UptoSaid' is the law's where the arguments, and the package variables that the reading takes, are together of bulk at most 1048576: NARROWER than '..Said'. Prove '..Said' where nothing that the law and all that it calls make is longer than what came in: it says more and counts as full. Else prove '..UptoSaid'. A law counts once. -/
mutual
def uptoBulk {H : Type} : DataW H → Nat
  | .lit (.string bytes) => bytes.length + 1
  | .lit _ => 1
  | .nil => 1
  | .ptr d => uptoBulk d + 1
  | .slice elems spare => uptoBulkAll elems + uptoBulkAll spare + 1
  | .agg parts => uptoBulkAll parts + 1
  | .iface _ d => uptoBulk d + 1
  | .map entries => uptoBulkEntries entries + 1
  | .held _ => 1
def uptoBulkAll {H : Type} : List (DataW H) → Nat
  | [] => 0
  | d :: r => uptoBulk d + uptoBulkAll r
def uptoBulkEntries {H : Type} : List (Lit × DataW H) → Nat
  | [] => 0
  | x :: r => uptoBulkEntry x + uptoBulkEntries r
def uptoBulkEntry {H : Type} : Lit × DataW H → Nat
  | (.string bytes, d) => bytes.length + uptoBulk d + 1
  | (_, d) => uptoBulk d + 1
 end
def uptoSmall : (H : Type) → List (DataW H) → Bool := fun _ ds => decide (uptoBulkAll ds ≤ 1048576)
def OpenSpec.upto (s : _root_.Go.ChangeSpec) : _root_.Go.OpenSpec := { _root_.Go.OpenSpec.ofChange s with cond := some uptoSmall }

/-- 'trufflelaw10.TypedSlots', WHERE WHAT IT READS IS OF BULK AT MOST 1048576: true; the input reads as it did. -/
def typedSlotsUptoRow : OpenClaim := { program := "ythikfifoomfjgaagreat", sum := "28385ccacee4662d21e2dff78dd77801061940afc7b1ed89525f89f86564d0e0", func := "truffle/trufflelaw10.TypedSlots", spec := "typedSlots", unfollowed := true, recurses := true, loops := true, plainKeys := false, apart := false, narrowed := true }
def TypedSlotsUptoSaid : Prop := typedSlotsUptoRow.holds Tryz.pinned (OpenSpec.upto typedSlotsSpec)

/-- 'trufflelaw10.TypedTells', WHERE WHAT IT READS IS OF BULK AT MOST 1048576: true; the input reads as it did. -/
def typedTellsUptoRow : OpenClaim := { program := "ythikfifoomfjgaagreat", sum := "28385ccacee4662d21e2dff78dd77801061940afc7b1ed89525f89f86564d0e0", func := "truffle/trufflelaw10.TypedTells", spec := "typedTells", unfollowed := true, recurses := true, loops := true, plainKeys := false, apart := false, narrowed := true }
def TypedTellsUptoSaid : Prop := typedTellsUptoRow.holds Tryz.pinned (OpenSpec.upto typedTellsSpec)

/-- 'trufflelaw10.TypedVal', WHERE WHAT IT READS IS OF BULK AT MOST 1048576: true; the input reads as it did. -/
def typedValUptoRow : OpenClaim := { program := "ythikfifoomfjgaagreat", sum := "28385ccacee4662d21e2dff78dd77801061940afc7b1ed89525f89f86564d0e0", func := "truffle/trufflelaw10.TypedVal", spec := "typedVal", unfollowed := true, recurses := true, loops := true, plainKeys := false, apart := false, narrowed := true }
def TypedValUptoSaid : Prop := typedValUptoRow.holds Tryz.pinned (OpenSpec.upto typedValSpec)

/-- 'trufflelaw10.TypedWrong', WHERE WHAT IT READS IS OF BULK AT MOST 1048576: true; the input reads as it did. -/
def typedWrongUptoRow : OpenClaim := { program := "ythikfifoomfjgaagreat", sum := "28385ccacee4662d21e2dff78dd77801061940afc7b1ed89525f89f86564d0e0", func := "truffle/trufflelaw10.TypedWrong", spec := "typedWrong", unfollowed := true, recurses := true, loops := true, plainKeys := false, apart := false, narrowed := true }
def TypedWrongUptoSaid : Prop := typedWrongUptoRow.holds Tryz.pinned (OpenSpec.upto typedWrongSpec)

/-- 'trufflelaw10.TypedNormal', WHERE WHAT IT READS IS OF BULK AT MOST 1048576: true; the input reads as it did. -/
def typedNormalUptoRow : OpenClaim := { program := "ythikfifoomfjgaagreat", sum := "28385ccacee4662d21e2dff78dd77801061940afc7b1ed89525f89f86564d0e0", func := "truffle/trufflelaw10.TypedNormal", spec := "typedNormal", unfollowed := true, recurses := true, loops := true, plainKeys := false, apart := false, narrowed := true }
def TypedNormalUptoSaid : Prop := typedNormalUptoRow.holds Tryz.pinned (OpenSpec.upto typedNormalSpec)

/-- 'trufflelaw10.TypedLess', WHERE WHAT IT READS IS OF BULK AT MOST 1048576: true; the input reads as it did. -/
def typedLessUptoRow : OpenClaim := { program := "ythikfifoomfjgaagreat", sum := "28385ccacee4662d21e2dff78dd77801061940afc7b1ed89525f89f86564d0e0", func := "truffle/trufflelaw10.TypedLess", spec := "typedLess", inPlace := ["slices.overlaps[truffle/api.Slot]"], unfollowed := true, recurses := true, loops := true, plainKeys := false, apart := false, narrowed := true }
def TypedLessUptoSaid : Prop := typedLessUptoRow.holds Tryz.pinned (OpenSpec.upto typedLessSpec)

end Rows
end Go.Proofs.YthikfifoomfjgaaGreat
