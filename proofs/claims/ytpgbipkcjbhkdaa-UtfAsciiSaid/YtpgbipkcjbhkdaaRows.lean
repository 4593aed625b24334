/-
  No cell of these rows narrows 'for every input' (looked for: loops, veiled, ifaces, maps, wideKeys, modest, calm, conditions, laid).
  DERIVED. THE GIVEN ROWS OF THIS SEAT. 11 by the template 'for every input the law returns true; each argument reads behind the call as it read before'; 0 by the template 'total and deterministic' (their statements: YtpgbipkcjbhkdaaTotals.lean).
  GIVEN WITH THE SEED: the statements are not yours to turn. If you find one false, say at which input.
  Laid BY PROGRAM, IN A SANDBOX (cutbox-rows.mjs): the forced cells as the released guide's own fill.sh prints them over the translation 4977709f8100ef1e… (all of the seat's roots in one cut). By AI agents, Wed Nov 11 2026. No macro, syntax, notation, axiom, sorry.
-/
import Derived.Test.YtpgbipkcjbhkdaaChecked
import GoSem.Claim
import GoSem.ClaimJoined
import GoSem.ClaimMapViews
import Derived.JoinedTies
import Derived.KernelRfl
namespace Go.Proofs.Ytpgbipkcjbhkdaa
/- THE CELL 'sum', in the pinned program and in every row, IS THE sha256 OF THE DUMP (.gsa) THAT YtpgbipkcjbhkdaaProg.lean LOADS. Nothing in Lean hashes anything: it is a label: what it is worth is what the hold of that sum in a sandbox is worth. -/
noncomputable def Try.pinned : Pinned := { name := "ytpgbipkcjbhkdaa", sum := "4977709f8100ef1e31fb0ba4ed024fd61cdcdf355ce5928dc84e60473c648877", checked := Try.checked }
namespace Rows
def none {H : Type} : Left H := { results := [], args := [] }

/-- 'trufflelaw04.UtfParts': WHATEVER THE INPUT: true; the input reads as it did. -/
def utfPartsSpec : ChangeSpec := { name := "utfParts", fn := fun _ => fun
  | [d1, d2] => { results := [.lit (.bool true)], args := [d1, d2] }
  | _ => none }
def utfPartsRow : OpenClaim := { program := "ytpgbipkcjbhkdaa", sum := "4977709f8100ef1e31fb0ba4ed024fd61cdcdf355ce5928dc84e60473c648877", func := "truffle/trufflelaw04.UtfParts", spec := "utfParts", apart := false }
def UtfPartsSaid : Prop := utfPartsRow.holds Try.pinned (OpenSpec.ofChange utfPartsSpec)

/-- ITS FALSE NEIGHBOUR: 'it returns false'. Refute it at one input. -/
def utfPartsWrong : ChangeSpec := { name := "utfParts", fn := fun _ => fun
  | [d1, d2] => { results := [.lit (.bool false)], args := [d1, d2] }
  | _ => none }
def UtfPartsWrongFalsely : Prop := utfPartsRow.holds Try.pinned (OpenSpec.ofChange utfPartsWrong)

/-- 'trufflelaw04.UtfAscii': WHATEVER THE INPUT: true; the input reads as it did. -/
def utfAsciiSpec : ChangeSpec := { name := "utfAscii", fn := fun _ => fun
  | [d1, d2, d3] => { results := [.lit (.bool true)], args := [d1, d2, d3] }
  | _ => none }
def utfAsciiRow : OpenClaim := { program := "ytpgbipkcjbhkdaa", sum := "4977709f8100ef1e31fb0ba4ed024fd61cdcdf355ce5928dc84e60473c648877", func := "truffle/trufflelaw04.UtfAscii", spec := "utfAscii", apart := false }
def UtfAsciiSaid : Prop := utfAsciiRow.holds Try.pinned (OpenSpec.ofChange utfAsciiSpec)

/-- ITS FALSE NEIGHBOUR: 'it returns false'. Refute it at one input. -/
def utfAsciiWrong : ChangeSpec := { name := "utfAscii", fn := fun _ => fun
  | [d1, d2, d3] => { results := [.lit (.bool false)], args := [d1, d2, d3] }
  | _ => none }
def UtfAsciiWrongFalsely : Prop := utfAsciiRow.holds Try.pinned (OpenSpec.ofChange utfAsciiWrong)

/-- 'trufflelaw04.UtfJoin': WHATEVER THE INPUT: true; the input reads as it did. -/
def utfJoinSpec : ChangeSpec := { name := "utfJoin", fn := fun _ => fun
  | [d1, d2] => { results := [.lit (.bool true)], args := [d1, d2] }
  | _ => none }
def utfJoinRow : OpenClaim := { program := "ytpgbipkcjbhkdaa", sum := "4977709f8100ef1e31fb0ba4ed024fd61cdcdf355ce5928dc84e60473c648877", func := "truffle/trufflelaw04.UtfJoin", spec := "utfJoin", apart := false }
def UtfJoinSaid : Prop := utfJoinRow.holds Try.pinned (OpenSpec.ofChange utfJoinSpec)

/-- ITS FALSE NEIGHBOUR: 'it returns false'. Refute it at one input. -/
def utfJoinWrong : ChangeSpec := { name := "utfJoin", fn := fun _ => fun
  | [d1, d2] => { results := [.lit (.bool false)], args := [d1, d2] }
  | _ => none }
def UtfJoinWrongFalsely : Prop := utfJoinRow.holds Try.pinned (OpenSpec.ofChange utfJoinWrong)

/-- 'trufflelaw04.UtfTells': WHATEVER THE INPUT: true; the input reads as it did. -/
def utfTellsSpec : ChangeSpec := { name := "utfTells", fn := fun _ => fun
  | [d1, d2, d3, d4, d5] => { results := [.lit (.bool true)], args := [d1, d2, d3, d4, d5] }
  | _ => none }
def utfTellsRow : OpenClaim := { program := "ytpgbipkcjbhkdaa", sum := "4977709f8100ef1e31fb0ba4ed024fd61cdcdf355ce5928dc84e60473c648877", func := "truffle/trufflelaw04.UtfTells", spec := "utfTells", apart := false }
def UtfTellsSaid : Prop := utfTellsRow.holds Try.pinned (OpenSpec.ofChange utfTellsSpec)

/-- ITS FALSE NEIGHBOUR: 'it returns false'. Refute it at one input. -/
def utfTellsWrong : ChangeSpec := { name := "utfTells", fn := fun _ => fun
  | [d1, d2, d3, d4, d5] => { results := [.lit (.bool false)], args := [d1, d2, d3, d4, d5] }
  | _ => none }
def UtfTellsWrongFalsely : Prop := utfTellsRow.holds Try.pinned (OpenSpec.ofChange utfTellsWrong)

/-- 'trufflelaw04.UtfLess': WHATEVER THE INPUT: true; the input reads as it did. -/
def utfLessSpec : ChangeSpec := { name := "utfLess", fn := fun _ => fun
  | [d1, d2, d3] => { results := [.lit (.bool true)], args := [d1, d2, d3] }
  | _ => none }
def utfLessRow : OpenClaim := { program := "ytpgbipkcjbhkdaa", sum := "4977709f8100ef1e31fb0ba4ed024fd61cdcdf355ce5928dc84e60473c648877", func := "truffle/trufflelaw04.UtfLess", spec := "utfLess", apart := false }
def UtfLessSaid : Prop := utfLessRow.holds Try.pinned (OpenSpec.ofChange utfLessSpec)

/-- ITS FALSE NEIGHBOUR: 'it returns false'. Refute it at one input. -/
def utfLessWrong : ChangeSpec := { name := "utfLess", fn := fun _ => fun
  | [d1, d2, d3] => { results := [.lit (.bool false)], args := [d1, d2, d3] }
  | _ => none }
def UtfLessWrongFalsely : Prop := utfLessRow.holds Try.pinned (OpenSpec.ofChange utfLessWrong)

/-- 'trufflelaw02.ConvLow': WHATEVER THE INPUT: true; the input reads as it did. -/
def convLowSpec : ChangeSpec := { name := "convLow", fn := fun _ => fun
  | [d1, d2, d3] => { results := [.lit (.bool true)], args := [d1, d2, d3] }
  | _ => none }
def convLowRow : OpenClaim := { program := "ytpgbipkcjbhkdaa", sum := "4977709f8100ef1e31fb0ba4ed024fd61cdcdf355ce5928dc84e60473c648877", func := "truffle/trufflelaw02.ConvLow", spec := "convLow", unfollowed := true, recurses := true, apart := false }
def ConvLowSaid : Prop := convLowRow.holds Try.pinned (OpenSpec.ofChange convLowSpec)

/-- ITS FALSE NEIGHBOUR: 'it returns false'. Refute it at one input. -/
def convLowWrong : ChangeSpec := { name := "convLow", fn := fun _ => fun
  | [d1, d2, d3] => { results := [.lit (.bool false)], args := [d1, d2, d3] }
  | _ => none }
def ConvLowWrongFalsely : Prop := convLowRow.holds Try.pinned (OpenSpec.ofChange convLowWrong)

/-- 'trufflelaw02.ConvKinds': WHATEVER THE INPUT: true; the input reads as it did. -/
def convKindsSpec : ChangeSpec := { name := "convKinds", fn := fun _ => fun
  | [d1, d2] => { results := [.lit (.bool true)], args := [d1, d2] }
  | _ => none }
def convKindsRow : OpenClaim := { program := "ytpgbipkcjbhkdaa", sum := "4977709f8100ef1e31fb0ba4ed024fd61cdcdf355ce5928dc84e60473c648877", func := "truffle/trufflelaw02.ConvKinds", spec := "convKinds", unfollowed := true, recurses := true, apart := false }
def ConvKindsSaid : Prop := convKindsRow.holds Try.pinned (OpenSpec.ofChange convKindsSpec)

/-- ITS FALSE NEIGHBOUR: 'it returns false'. Refute it at one input. -/
def convKindsWrong : ChangeSpec := { name := "convKinds", fn := fun _ => fun
  | [d1, d2] => { results := [.lit (.bool false)], args := [d1, d2] }
  | _ => none }
def ConvKindsWrongFalsely : Prop := convKindsRow.holds Try.pinned (OpenSpec.ofChange convKindsWrong)

/-- 'trufflelaw02.ConvTells': WHATEVER THE INPUT: true; the input reads as it did. -/
def convTellsSpec : ChangeSpec := { name := "convTells", fn := fun _ => fun
  | [d1, d2, d3] => { results := [.lit (.bool true)], args := [d1, d2, d3] }
  | _ => none }
def convTellsRow : OpenClaim := { program := "ytpgbipkcjbhkdaa", sum := "4977709f8100ef1e31fb0ba4ed024fd61cdcdf355ce5928dc84e60473c648877", func := "truffle/trufflelaw02.ConvTells", spec := "convTells", unfollowed := true, recurses := true, apart := false }
def ConvTellsSaid : Prop := convTellsRow.holds Try.pinned (OpenSpec.ofChange convTellsSpec)

/-- ITS FALSE NEIGHBOUR: 'it returns false'. Refute it at one input. -/
def convTellsWrong : ChangeSpec := { name := "convTells", fn := fun _ => fun
  | [d1, d2, d3] => { results := [.lit (.bool false)], args := [d1, d2, d3] }
  | _ => none }
def ConvTellsWrongFalsely : Prop := convTellsRow.holds Try.pinned (OpenSpec.ofChange convTellsWrong)

/-- 'trufflelaw02.ConvBack': WHATEVER THE INPUT: true; the input reads as it did. -/
def convBackSpec : ChangeSpec := { name := "convBack", fn := fun _ => fun
  | [d1, d2, d3] => { results := [.lit (.bool true)], args := [d1, d2, d3] }
  | _ => none }
def convBackRow : OpenClaim := { program := "ytpgbipkcjbhkdaa", sum := "4977709f8100ef1e31fb0ba4ed024fd61cdcdf355ce5928dc84e60473c648877", func := "truffle/trufflelaw02.ConvBack", spec := "convBack", unfollowed := true, recurses := true, apart := false }
def ConvBackSaid : Prop := convBackRow.holds Try.pinned (OpenSpec.ofChange convBackSpec)

/-- ITS FALSE NEIGHBOUR: 'it returns false'. Refute it at one input. -/
def convBackWrong : ChangeSpec := { name := "convBack", fn := fun _ => fun
  | [d1, d2, d3] => { results := [.lit (.bool false)], args := [d1, d2, d3] }
  | _ => none }
def ConvBackWrongFalsely : Prop := convBackRow.holds Try.pinned (OpenSpec.ofChange convBackWrong)

/-- 'trufflelaw02.ConvSint': WHATEVER THE INPUT: true; the input reads as it did. -/
def convSintSpec : ChangeSpec := { name := "convSint", fn := fun _ => fun
  | [d] => { results := [.lit (.bool true)], args := [d] }
  | _ => none }
def convSintRow : OpenClaim := { program := "ytpgbipkcjbhkdaa", sum := "4977709f8100ef1e31fb0ba4ed024fd61cdcdf355ce5928dc84e60473c648877", func := "truffle/trufflelaw02.ConvSint", spec := "convSint", unfollowed := true, recurses := true, apart := false }
def ConvSintSaid : Prop := convSintRow.holds Try.pinned (OpenSpec.ofChange convSintSpec)

/-- ITS FALSE NEIGHBOUR: 'it returns false'. Refute it at one input. -/
def convSintWrong : ChangeSpec := { name := "convSint", fn := fun _ => fun
  | [d] => { results := [.lit (.bool false)], args := [d] }
  | _ => none }
def ConvSintWrongFalsely : Prop := convSintRow.holds Try.pinned (OpenSpec.ofChange convSintWrong)

/-- 'trufflelaw02.ConvOne': WHATEVER THE INPUT: true; the input reads as it did. -/
def convOneSpec : ChangeSpec := { name := "convOne", fn := fun _ => fun
  | [d1, d2, d3] => { results := [.lit (.bool true)], args := [d1, d2, d3] }
  | _ => none }
def convOneRow : OpenClaim := { program := "ytpgbipkcjbhkdaa", sum := "4977709f8100ef1e31fb0ba4ed024fd61cdcdf355ce5928dc84e60473c648877", func := "truffle/trufflelaw02.ConvOne", spec := "convOne", unfollowed := true, recurses := true, apart := false }
def ConvOneSaid : Prop := convOneRow.holds Try.pinned (OpenSpec.ofChange convOneSpec)

/-- ITS FALSE NEIGHBOUR: 'it returns false'. Refute it at one input. -/
def convOneWrong : ChangeSpec := { name := "convOne", fn := fun _ => fun
  | [d1, d2, d3] => { results := [.lit (.bool false)], args := [d1, d2, d3] }
  | _ => none }
def ConvOneWrongFalsely : Prop := convOneRow.holds Try.pinned (OpenSpec.ofChange convOneWrong)

/- THE SECOND FORM. 'bulk': how many values and letters a reading holds, each counted each time it is reached (what is shared counts as often as it is met; a slice's spare places count too). A statement '..UptoSaid' is the law's where the arguments, and the package variables that the reading takes, are together of bulk at most 1048576: NARROWER than '..Said'. Prove '..Said' where nothing that the law and all that it calls make is longer than what came in: it says more and counts as full. Else prove '..UptoSaid'. A law counts once. -/
mutual
def uptoBulk {H : Type} : DataW H → Nat
  | .lit (.string bytes) => bytes.length + 1
  | .lit _ => 1
  | .nil => 1
  | .ptr d => uptoBulk d + 1
  | .slice elems spare => uptoBulkAll elems + uptoBulkAll spare + 1
  | .agg parts => uptoBulkAll parts + 1
  | .iface _ d => uptoBulk d + 1
  | .map entries => uptoBulkEntries entries + 1
  | .held _ => 1
def uptoBulkAll {H : Type} : List (DataW H) → Nat
  | [] => 0
  | d :: r => uptoBulk d + uptoBulkAll r
def uptoBulkEntries {H : Type} : List (Lit × DataW H) → Nat
  | [] => 0
  | x :: r => uptoBulkEntry x + uptoBulkEntries r
def uptoBulkEntry {H : Type} : Lit × DataW H → Nat
  | (.string bytes, d) => bytes.length + uptoBulk d + 1
  | (_, d) => uptoBulk d + 1
 end
def uptoSmall : (H : Type) → List (DataW H) → Bool := fun _ ds => decide (uptoBulkAll ds ≤ 1048576)
def OpenSpec.upto (s : _root_.Go.ChangeSpec) : _root_.Go.OpenSpec := { _root_.Go.OpenSpec.ofChange s with cond := some uptoSmall }

/-- 'trufflelaw04.UtfParts', WHERE WHAT IT READS IS OF BULK AT MOST 1048576: true; the input reads as it did. -/
def utfPartsUptoRow : OpenClaim := { program := "ytpgbipkcjbhkdaa", sum := "4977709f8100ef1e31fb0ba4ed024fd61cdcdf355ce5928dc84e60473c648877", func := "truffle/trufflelaw04.UtfParts", spec := "utfParts", apart := false, narrowed := true }
def UtfPartsUptoSaid : Prop := utfPartsUptoRow.holds Try.pinned (OpenSpec.upto utfPartsSpec)

/-- 'trufflelaw04.UtfAscii', WHERE WHAT IT READS IS OF BULK AT MOST 1048576: true; the input reads as it did. -/
def utfAsciiUptoRow : OpenClaim := { program := "ytpgbipkcjbhkdaa", sum := "4977709f8100ef1e31fb0ba4ed024fd61cdcdf355ce5928dc84e60473c648877", func := "truffle/trufflelaw04.UtfAscii", spec := "utfAscii", apart := false, narrowed := true }
def UtfAsciiUptoSaid : Prop := utfAsciiUptoRow.holds Try.pinned (OpenSpec.upto utfAsciiSpec)

/-- 'trufflelaw04.UtfJoin', WHERE WHAT IT READS IS OF BULK AT MOST 1048576: true; the input reads as it did. -/
def utfJoinUptoRow : OpenClaim := { program := "ytpgbipkcjbhkdaa", sum := "4977709f8100ef1e31fb0ba4ed024fd61cdcdf355ce5928dc84e60473c648877", func := "truffle/trufflelaw04.UtfJoin", spec := "utfJoin", apart := false, narrowed := true }
def UtfJoinUptoSaid : Prop := utfJoinUptoRow.holds Try.pinned (OpenSpec.upto utfJoinSpec)

/-- 'trufflelaw04.UtfTells', WHERE WHAT IT READS IS OF BULK AT MOST 1048576: true; the input reads as it did. -/
def utfTellsUptoRow : OpenClaim := { program := "ytpgbipkcjbhkdaa", sum := "4977709f8100ef1e31fb0ba4ed024fd61cdcdf355ce5928dc84e60473c648877", func := "truffle/trufflelaw04.UtfTells", spec := "utfTells", apart := false, narrowed := true }
def UtfTellsUptoSaid : Prop := utfTellsUptoRow.holds Try.pinned (OpenSpec.upto utfTellsSpec)

/-- 'trufflelaw04.UtfLess', WHERE WHAT IT READS IS OF BULK AT MOST 1048576: true; the input reads as it did. -/
def utfLessUptoRow : OpenClaim := { program := "ytpgbipkcjbhkdaa", sum := "4977709f8100ef1e31fb0ba4ed024fd61cdcdf355ce5928dc84e60473c648877", func := "truffle/trufflelaw04.UtfLess", spec := "utfLess", apart := false, narrowed := true }
def UtfLessUptoSaid : Prop := utfLessUptoRow.holds Try.pinned (OpenSpec.upto utfLessSpec)

/-- 'trufflelaw02.ConvLow', WHERE WHAT IT READS IS OF BULK AT MOST 1048576: true; the input reads as it did. -/
def convLowUptoRow : OpenClaim := { program := "ytpgbipkcjbhkdaa", sum := "4977709f8100ef1e31fb0ba4ed024fd61cdcdf355ce5928dc84e60473c648877", func := "truffle/trufflelaw02.ConvLow", spec := "convLow", unfollowed := true, recurses := true, apart := false, narrowed := true }
def ConvLowUptoSaid : Prop := convLowUptoRow.holds Try.pinned (OpenSpec.upto convLowSpec)

/-- 'trufflelaw02.ConvKinds', WHERE WHAT IT READS IS OF BULK AT MOST 1048576: true; the input reads as it did. -/
def convKindsUptoRow : OpenClaim := { program := "ytpgbipkcjbhkdaa", sum := "4977709f8100ef1e31fb0ba4ed024fd61cdcdf355ce5928dc84e60473c648877", func := "truffle/trufflelaw02.ConvKinds", spec := "convKinds", unfollowed := true, recurses := true, apart := false, narrowed := true }
def ConvKindsUptoSaid : Prop := convKindsUptoRow.holds Try.pinned (OpenSpec.upto convKindsSpec)

/-- 'trufflelaw02.ConvTells', WHERE WHAT IT READS IS OF BULK AT MOST 1048576: true; the input reads as it did. -/
def convTellsUptoRow : OpenClaim := { program := "ytpgbipkcjbhkdaa", sum := "4977709f8100ef1e31fb0ba4ed024fd61cdcdf355ce5928dc84e60473c648877", func := "truffle/trufflelaw02.ConvTells", spec := "convTells", unfollowed := true, recurses := true, apart := false, narrowed := true }
def ConvTellsUptoSaid : Prop := convTellsUptoRow.holds Try.pinned (OpenSpec.upto convTellsSpec)

/-- 'trufflelaw02.ConvBack', WHERE WHAT IT READS IS OF BULK AT MOST 1048576: true; the input reads as it did. -/
def convBackUptoRow : OpenClaim := { program := "ytpgbipkcjbhkdaa", sum := "4977709f8100ef1e31fb0ba4ed024fd61cdcdf355ce5928dc84e60473c648877", func := "truffle/trufflelaw02.ConvBack", spec := "convBack", unfollowed := true, recurses := true, apart := false, narrowed := true }
def ConvBackUptoSaid : Prop := convBackUptoRow.holds Try.pinned (OpenSpec.upto convBackSpec)

/-- 'trufflelaw02.ConvSint', WHERE WHAT IT READS IS OF BULK AT MOST 1048576: true; the input reads as it did. -/
def convSintUptoRow : OpenClaim := { program := "ytpgbipkcjbhkdaa", sum := "4977709f8100ef1e31fb0ba4ed024fd61cdcdf355ce5928dc84e60473c648877", func := "truffle/trufflelaw02.ConvSint", spec := "convSint", unfollowed := true, recurses := true, apart := false, narrowed := true }
def ConvSintUptoSaid : Prop := convSintUptoRow.holds Try.pinned (OpenSpec.upto convSintSpec)

/-- 'trufflelaw02.ConvOne', WHERE WHAT IT READS IS OF BULK AT MOST 1048576: true; the input reads as it did. -/
def convOneUptoRow : OpenClaim := { program := "ytpgbipkcjbhkdaa", sum := "4977709f8100ef1e31fb0ba4ed024fd61cdcdf355ce5928dc84e60473c648877", func := "truffle/trufflelaw02.ConvOne", spec := "convOne", unfollowed := true, recurses := true, apart := false, narrowed := true }
def ConvOneUptoSaid : Prop := convOneUptoRow.holds Try.pinned (OpenSpec.upto convOneSpec)

end Rows
end Go.Proofs.Ytpgbipkcjbhkdaa
