/-
  NARROWER THAN 'FOR EVERY INPUT', by the rows' own cells (each row's printed sentence says how): ValueSets: loops · ValueOwn: loops · ValueDeep: loops · ValueTwo: loops · ValueSize: loops · ValueTells: loops · ValueLess: loops.
  DERIVED. THE GIVEN ROWS OF THIS SEAT. 7 by the template 'for every input the law returns true; each argument reads behind the call as it read before'; 0 by the template 'total and deterministic' (their statements: YtogcnodgpgiacaaTotals.lean).
  GIVEN WITH THE SEED: the statements are not yours to turn. If you find one false, say at which input.
  Laid BY PROGRAM, IN A SANDBOX (cutbox-rows.mjs): the forced cells as the released guide's own fill.sh prints them over the translation dac7be6d5b2c7216… (all of the seat's roots in one cut). By AI agents, Wed Nov 11 2026. No macro, syntax, notation, axiom, sorry.
-/
import Derived.Test.YtogcnodgpgiacaaChecked
import GoSem.Claim
import GoSem.ClaimJoined
import GoSem.ClaimMapViews
import Derived.JoinedTies
import Derived.KernelRfl
namespace Go.Proofs.Ytogcnodgpgiacaa
/- THE CELL 'sum', in the pinned program and in every row, IS THE sha256 OF THE DUMP (.gsa) THAT YtogcnodgpgiacaaProg.lean LOADS. Nothing in Lean hashes anything: it is a label: what it is worth is what the hold of that sum in a sandbox is worth. -/
noncomputable def Try.pinned : Pinned := { name := "ytogcnodgpgiacaa", sum := "dac7be6d5b2c7216dc477a42cfe173e818c17c0014c0f52796467b857f2e1a9d", checked := Try.checked }
namespace Rows
def none {H : Type} : Left H := { results := [], args := [] }

/-- 'trufflelaw09.ValueSets': WHATEVER THE INPUT: true; the input reads as it did. -/
def valueSetsSpec : ChangeSpec := { name := "valueSets", fn := fun _ => fun
  | [d1, d2, d3] => { results := [.lit (.bool true)], args := [d1, d2, d3] }
  | _ => none }
def valueSetsRow : OpenClaim := { program := "ytogcnodgpgiacaa", sum := "dac7be6d5b2c7216dc477a42cfe173e818c17c0014c0f52796467b857f2e1a9d", func := "truffle/trufflelaw09.ValueSets", spec := "valueSets", inPlace := ["slices.overlaps[truffle/api.Slot]"], unfollowed := true, recurses := true, loops := true, apart := false }
def ValueSetsSaid : Prop := valueSetsRow.holds Try.pinned (OpenSpec.ofChange valueSetsSpec)

/-- ITS FALSE NEIGHBOUR: 'it returns false'. Refute it at one input. -/
def valueSetsWrong : ChangeSpec := { name := "valueSets", fn := fun _ => fun
  | [d1, d2, d3] => { results := [.lit (.bool false)], args := [d1, d2, d3] }
  | _ => none }
def ValueSetsWrongFalsely : Prop := valueSetsRow.holds Try.pinned (OpenSpec.ofChange valueSetsWrong)

/-- 'trufflelaw09.ValueOwn': WHATEVER THE INPUT: true; the input reads as it did. -/
def valueOwnSpec : ChangeSpec := { name := "valueOwn", fn := fun _ => fun
  | [d] => { results := [.lit (.bool true)], args := [d] }
  | _ => none }
def valueOwnRow : OpenClaim := { program := "ytogcnodgpgiacaa", sum := "dac7be6d5b2c7216dc477a42cfe173e818c17c0014c0f52796467b857f2e1a9d", func := "truffle/trufflelaw09.ValueOwn", spec := "valueOwn", inPlace := ["slices.overlaps[truffle/api.Slot]"], unfollowed := true, recurses := true, loops := true, apart := false }
def ValueOwnSaid : Prop := valueOwnRow.holds Try.pinned (OpenSpec.ofChange valueOwnSpec)

/-- ITS FALSE NEIGHBOUR: 'it returns false'. Refute it at one input. -/
def valueOwnWrong : ChangeSpec := { name := "valueOwn", fn := fun _ => fun
  | [d] => { results := [.lit (.bool false)], args := [d] }
  | _ => none }
def ValueOwnWrongFalsely : Prop := valueOwnRow.holds Try.pinned (OpenSpec.ofChange valueOwnWrong)

/-- 'trufflelaw09.ValueDeep': WHATEVER THE INPUT: true; the input reads as it did. -/
def valueDeepSpec : ChangeSpec := { name := "valueDeep", fn := fun _ => fun
  | [d] => { results := [.lit (.bool true)], args := [d] }
  | _ => none }
def valueDeepRow : OpenClaim := { program := "ytogcnodgpgiacaa", sum := "dac7be6d5b2c7216dc477a42cfe173e818c17c0014c0f52796467b857f2e1a9d", func := "truffle/trufflelaw09.ValueDeep", spec := "valueDeep", inPlace := ["slices.overlaps[truffle/api.Slot]"], unfollowed := true, recurses := true, loops := true, apart := false }
def ValueDeepSaid : Prop := valueDeepRow.holds Try.pinned (OpenSpec.ofChange valueDeepSpec)

/-- ITS FALSE NEIGHBOUR: 'it returns false'. Refute it at one input. -/
def valueDeepWrong : ChangeSpec := { name := "valueDeep", fn := fun _ => fun
  | [d] => { results := [.lit (.bool false)], args := [d] }
  | _ => none }
def ValueDeepWrongFalsely : Prop := valueDeepRow.holds Try.pinned (OpenSpec.ofChange valueDeepWrong)

/-- 'trufflelaw09.ValueTwo': WHATEVER THE INPUT: true; the input reads as it did. -/
def valueTwoSpec : ChangeSpec := { name := "valueTwo", fn := fun _ => fun
  | [d1, d2, d3] => { results := [.lit (.bool true)], args := [d1, d2, d3] }
  | _ => none }
def valueTwoRow : OpenClaim := { program := "ytogcnodgpgiacaa", sum := "dac7be6d5b2c7216dc477a42cfe173e818c17c0014c0f52796467b857f2e1a9d", func := "truffle/trufflelaw09.ValueTwo", spec := "valueTwo", inPlace := ["slices.overlaps[truffle/api.Slot]"], unfollowed := true, recurses := true, loops := true, apart := false }
def ValueTwoSaid : Prop := valueTwoRow.holds Try.pinned (OpenSpec.ofChange valueTwoSpec)

/-- ITS FALSE NEIGHBOUR: 'it returns false'. Refute it at one input. -/
def valueTwoWrong : ChangeSpec := { name := "valueTwo", fn := fun _ => fun
  | [d1, d2, d3] => { results := [.lit (.bool false)], args := [d1, d2, d3] }
  | _ => none }
def ValueTwoWrongFalsely : Prop := valueTwoRow.holds Try.pinned (OpenSpec.ofChange valueTwoWrong)

/-- 'trufflelaw09.ValueSize': WHATEVER THE INPUT: true; the input reads as it did. -/
def valueSizeSpec : ChangeSpec := { name := "valueSize", fn := fun _ => fun
  | [d1, d2] => { results := [.lit (.bool true)], args := [d1, d2] }
  | _ => none }
def valueSizeRow : OpenClaim := { program := "ytogcnodgpgiacaa", sum := "dac7be6d5b2c7216dc477a42cfe173e818c17c0014c0f52796467b857f2e1a9d", func := "truffle/trufflelaw09.ValueSize", spec := "valueSize", inPlace := ["slices.overlaps[truffle/api.Slot]"], unfollowed := true, recurses := true, loops := true, apart := false }
def ValueSizeSaid : Prop := valueSizeRow.holds Try.pinned (OpenSpec.ofChange valueSizeSpec)

/-- ITS FALSE NEIGHBOUR: 'it returns false'. Refute it at one input. -/
def valueSizeWrong : ChangeSpec := { name := "valueSize", fn := fun _ => fun
  | [d1, d2] => { results := [.lit (.bool false)], args := [d1, d2] }
  | _ => none }
def ValueSizeWrongFalsely : Prop := valueSizeRow.holds Try.pinned (OpenSpec.ofChange valueSizeWrong)

/-- 'trufflelaw09.ValueTells': WHATEVER THE INPUT: true; the input reads as it did. -/
def valueTellsSpec : ChangeSpec := { name := "valueTells", fn := fun _ => fun
  | [d1, d2, d3, d4, d5, d6] => { results := [.lit (.bool true)], args := [d1, d2, d3, d4, d5, d6] }
  | _ => none }
def valueTellsRow : OpenClaim := { program := "ytogcnodgpgiacaa", sum := "dac7be6d5b2c7216dc477a42cfe173e818c17c0014c0f52796467b857f2e1a9d", func := "truffle/trufflelaw09.ValueTells", spec := "valueTells", inPlace := ["slices.overlaps[truffle/api.Slot]"], unfollowed := true, recurses := true, loops := true, apart := false }
def ValueTellsSaid : Prop := valueTellsRow.holds Try.pinned (OpenSpec.ofChange valueTellsSpec)

/-- ITS FALSE NEIGHBOUR: 'it returns false'. Refute it at one input. -/
def valueTellsWrong : ChangeSpec := { name := "valueTells", fn := fun _ => fun
  | [d1, d2, d3, d4, d5, d6] => { results := [.lit (.bool false)], args := [d1, d2, d3, d4, d5, d6] }
  | _ => none }
def ValueTellsWrongFalsely : Prop := valueTellsRow.holds Try.pinned (OpenSpec.ofChange valueTellsWrong)

/-- 'trufflelaw09.ValueLess': WHATEVER THE INPUT: true; the input reads as it did. -/
def valueLessSpec : ChangeSpec := { name := "valueLess", fn := fun _ => fun
  | [d1, d2, d3] => { results := [.lit (.bool true)], args := [d1, d2, d3] }
  | _ => none }
def valueLessRow : OpenClaim := { program := "ytogcnodgpgiacaa", sum := "dac7be6d5b2c7216dc477a42cfe173e818c17c0014c0f52796467b857f2e1a9d", func := "truffle/trufflelaw09.ValueLess", spec := "valueLess", inPlace := ["slices.overlaps[truffle/api.Slot]"], unfollowed := true, recurses := true, loops := true, apart := false }
def ValueLessSaid : Prop := valueLessRow.holds Try.pinned (OpenSpec.ofChange valueLessSpec)

/-- ITS FALSE NEIGHBOUR: 'it returns false'. Refute it at one input. -/
def valueLessWrong : ChangeSpec := { name := "valueLess", fn := fun _ => fun
  | [d1, d2, d3] => { results := [.lit (.bool false)], args := [d1, d2, d3] }
  | _ => none }
def ValueLessWrongFalsely : Prop := valueLessRow.holds Try.pinned (OpenSpec.ofChange valueLessWrong)

/- THE SECOND FORM. 'bulk': how many values and letters a reading holds, each counted each time it is reached (what is shared counts as often as it is met; a slice's spare places count too). A statement '..UptoSaid' is the law's where the arguments, and the package variables that the reading takes, are together of bulk at most 1048576: NARROWER than '..Said'. Prove '..Said' where nothing that the law and all that it calls make is longer than what came in: it says more and counts as full. Else prove '..UptoSaid'. A law counts once. -/
mutual
def uptoBulk {H : Type} : DataW H → Nat
  | .lit (.string bytes) => bytes.length + 1
  | .lit _ => 1
  | .nil => 1
  | .ptr d => uptoBulk d + 1
  | .slice elems spare => uptoBulkAll elems + uptoBulkAll spare + 1
  | .agg parts => uptoBulkAll parts + 1
  | .iface _ d => uptoBulk d + 1
  | .map entries => uptoBulkEntries entries + 1
  | .held _ => 1
def uptoBulkAll {H : Type} : List (DataW H) → Nat
  | [] => 0
  | d :: r => uptoBulk d + uptoBulkAll r
def uptoBulkEntries {H : Type} : List (Lit × DataW H) → Nat
  | [] => 0
  | x :: r => uptoBulkEntry x + uptoBulkEntries r
def uptoBulkEntry {H : Type} : Lit × DataW H → Nat
  | (.string bytes, d) => bytes.length + uptoBulk d + 1
  | (_, d) => uptoBulk d + 1
 end
def uptoSmall : (H : Type) → List (DataW H) → Bool := fun _ ds => decide (uptoBulkAll ds ≤ 1048576)
def OpenSpec.upto (s : _root_.Go.ChangeSpec) : _root_.Go.OpenSpec := { _root_.Go.OpenSpec.ofChange s with cond := some uptoSmall }

/-- 'trufflelaw09.ValueSets', WHERE WHAT IT READS IS OF BULK AT MOST 1048576: true; the input reads as it did. -/
def valueSetsUptoRow : OpenClaim := { program := "ytogcnodgpgiacaa", sum := "dac7be6d5b2c7216dc477a42cfe173e818c17c0014c0f52796467b857f2e1a9d", func := "truffle/trufflelaw09.ValueSets", spec := "valueSets", inPlace := ["slices.overlaps[truffle/api.Slot]"], unfollowed := true, recurses := true, loops := true, apart := false, narrowed := true }
def ValueSetsUptoSaid : Prop := valueSetsUptoRow.holds Try.pinned (OpenSpec.upto valueSetsSpec)

/-- 'trufflelaw09.ValueOwn', WHERE WHAT IT READS IS OF BULK AT MOST 1048576: true; the input reads as it did. -/
def valueOwnUptoRow : OpenClaim := { program := "ytogcnodgpgiacaa", sum := "dac7be6d5b2c7216dc477a42cfe173e818c17c0014c0f52796467b857f2e1a9d", func := "truffle/trufflelaw09.ValueOwn", spec := "valueOwn", inPlace := ["slices.overlaps[truffle/api.Slot]"], unfollowed := true, recurses := true, loops := true, apart := false, narrowed := true }
def ValueOwnUptoSaid : Prop := valueOwnUptoRow.holds Try.pinned (OpenSpec.upto valueOwnSpec)

/-- 'trufflelaw09.ValueDeep', WHERE WHAT IT READS IS OF BULK AT MOST 1048576: true; the input reads as it did. -/
def valueDeepUptoRow : OpenClaim := { program := "ytogcnodgpgiacaa", sum := "dac7be6d5b2c7216dc477a42cfe173e818c17c0014c0f52796467b857f2e1a9d", func := "truffle/trufflelaw09.ValueDeep", spec := "valueDeep", inPlace := ["slices.overlaps[truffle/api.Slot]"], unfollowed := true, recurses := true, loops := true, apart := false, narrowed := true }
def ValueDeepUptoSaid : Prop := valueDeepUptoRow.holds Try.pinned (OpenSpec.upto valueDeepSpec)

/-- 'trufflelaw09.ValueTwo', WHERE WHAT IT READS IS OF BULK AT MOST 1048576: true; the input reads as it did. -/
def valueTwoUptoRow : OpenClaim := { program := "ytogcnodgpgiacaa", sum := "dac7be6d5b2c7216dc477a42cfe173e818c17c0014c0f52796467b857f2e1a9d", func := "truffle/trufflelaw09.ValueTwo", spec := "valueTwo", inPlace := ["slices.overlaps[truffle/api.Slot]"], unfollowed := true, recurses := true, loops := true, apart := false, narrowed := true }
def ValueTwoUptoSaid : Prop := valueTwoUptoRow.holds Try.pinned (OpenSpec.upto valueTwoSpec)

/-- 'trufflelaw09.ValueSize', WHERE WHAT IT READS IS OF BULK AT MOST 1048576: true; the input reads as it did. -/
def valueSizeUptoRow : OpenClaim := { program := "ytogcnodgpgiacaa", sum := "dac7be6d5b2c7216dc477a42cfe173e818c17c0014c0f52796467b857f2e1a9d", func := "truffle/trufflelaw09.ValueSize", spec := "valueSize", inPlace := ["slices.overlaps[truffle/api.Slot]"], unfollowed := true, recurses := true, loops := true, apart := false, narrowed := true }
def ValueSizeUptoSaid : Prop := valueSizeUptoRow.holds Try.pinned (OpenSpec.upto valueSizeSpec)

/-- 'trufflelaw09.ValueTells', WHERE WHAT IT READS IS OF BULK AT MOST 1048576: true; the input reads as it did. -/
def valueTellsUptoRow : OpenClaim := { program := "ytogcnodgpgiacaa", sum := "dac7be6d5b2c7216dc477a42cfe173e818c17c0014c0f52796467b857f2e1a9d", func := "truffle/trufflelaw09.ValueTells", spec := "valueTells", inPlace := ["slices.overlaps[truffle/api.Slot]"], unfollowed := true, recurses := true, loops := true, apart := false, narrowed := true }
def ValueTellsUptoSaid : Prop := valueTellsUptoRow.holds Try.pinned (OpenSpec.upto valueTellsSpec)

/-- 'trufflelaw09.ValueLess', WHERE WHAT IT READS IS OF BULK AT MOST 1048576: true; the input reads as it did. -/
def valueLessUptoRow : OpenClaim := { program := "ytogcnodgpgiacaa", sum := "dac7be6d5b2c7216dc477a42cfe173e818c17c0014c0f52796467b857f2e1a9d", func := "truffle/trufflelaw09.ValueLess", spec := "valueLess", inPlace := ["slices.overlaps[truffle/api.Slot]"], unfollowed := true, recurses := true, loops := true, apart := false, narrowed := true }
def ValueLessUptoSaid : Prop := valueLessUptoRow.holds Try.pinned (OpenSpec.upto valueLessSpec)

end Rows
end Go.Proofs.Ytogcnodgpgiacaa
