/-
  No cell of these rows narrows 'for every input' (looked for: loops, veiled, ifaces, maps, wideKeys, modest, calm, conditions, laid).
  DERIVED. THE GIVEN ROWS OF THIS SEAT. 7 by the template 'for every input the law returns true; each argument reads behind the call as it read before'; 0 by the template 'total and deterministic' (their statements: YtlokcpfkaijchaaTotals.lean).
  GIVEN WITH THE SEED: the statements are not yours to turn. If you find one false, say at which input.
  Laid BY PROGRAM, IN A SANDBOX (cutbox-rows.mjs): the forced cells as the released guide's own fill.sh prints them over the translation ce993913d05a0488… (all of the seat's roots in one cut). By AI agents, Wed Nov 11 2026. No macro, syntax, notation, axiom, sorry.
-/
import Derived.Test.YtlokcpfkaijchaaChecked
import GoSem.Claim
import GoSem.ClaimJoined
import GoSem.ClaimMapViews
import Derived.JoinedTies
import Derived.KernelRfl
namespace Go.Proofs.Ytlokcpfkaijchaa
/- THE CELL 'sum', in the pinned program and in every row, IS THE sha256 OF THE DUMP (.gsa) THAT YtlokcpfkaijchaaProg.lean LOADS. Nothing in Lean hashes anything: it is a label: what it is worth is what the hold of that sum in a sandbox is worth. -/
noncomputable def Try.pinned : Pinned := { name := "ytlokcpfkaijchaa", sum := "ce993913d05a0488b371fafbbccac25ac918277dd9809a9837aa48ccc763bd14", checked := Try.checked }
namespace Rows
def none {H : Type} : Left H := { results := [], args := [] }

/-- 'trufflelaw18.ValidParts': WHATEVER THE INPUT: true; the input reads as it did. -/
def validPartsSpec : ChangeSpec := { name := "validParts", fn := fun _ => fun
  | [d1, d2, d3, d4] => { results := [.lit (.bool true)], args := [d1, d2, d3, d4] }
  | _ => none }
def validPartsRow : OpenClaim := { program := "ytlokcpfkaijchaa", sum := "ce993913d05a0488b371fafbbccac25ac918277dd9809a9837aa48ccc763bd14", func := "truffle/trufflelaw18.ValidParts", spec := "validParts", unfollowed := true, recurses := true, plainKeys := false, apart := false }
def ValidPartsSaid : Prop := validPartsRow.holds Try.pinned (OpenSpec.ofChange validPartsSpec)

/-- ITS FALSE NEIGHBOUR: 'it returns false'. Refute it at one input. -/
def validPartsWrong : ChangeSpec := { name := "validParts", fn := fun _ => fun
  | [d1, d2, d3, d4] => { results := [.lit (.bool false)], args := [d1, d2, d3, d4] }
  | _ => none }
def ValidPartsWrongFalsely : Prop := validPartsRow.holds Try.pinned (OpenSpec.ofChange validPartsWrong)

/-- 'trufflelaw18.ValidSteps': WHATEVER THE INPUT: true; the input reads as it did. -/
def validStepsSpec : ChangeSpec := { name := "validSteps", fn := fun _ => fun
  | [d1, d2, d3] => { results := [.lit (.bool true)], args := [d1, d2, d3] }
  | _ => none }
def validStepsRow : OpenClaim := { program := "ytlokcpfkaijchaa", sum := "ce993913d05a0488b371fafbbccac25ac918277dd9809a9837aa48ccc763bd14", func := "truffle/trufflelaw18.ValidSteps", spec := "validSteps", unfollowed := true, recurses := true, plainKeys := false, apart := false }
def ValidStepsSaid : Prop := validStepsRow.holds Try.pinned (OpenSpec.ofChange validStepsSpec)

/-- ITS FALSE NEIGHBOUR: 'it returns false'. Refute it at one input. -/
def validStepsWrong : ChangeSpec := { name := "validSteps", fn := fun _ => fun
  | [d1, d2, d3] => { results := [.lit (.bool false)], args := [d1, d2, d3] }
  | _ => none }
def ValidStepsWrongFalsely : Prop := validStepsRow.holds Try.pinned (OpenSpec.ofChange validStepsWrong)

/-- 'trufflelaw18.ValidWithin': WHATEVER THE INPUT: true; the input reads as it did. -/
def validWithinSpec : ChangeSpec := { name := "validWithin", fn := fun _ => fun
  | [d1, d2, d3, d4] => { results := [.lit (.bool true)], args := [d1, d2, d3, d4] }
  | _ => none }
def validWithinRow : OpenClaim := { program := "ytlokcpfkaijchaa", sum := "ce993913d05a0488b371fafbbccac25ac918277dd9809a9837aa48ccc763bd14", func := "truffle/trufflelaw18.ValidWithin", spec := "validWithin", unfollowed := true, recurses := true, plainKeys := false, apart := false }
def ValidWithinSaid : Prop := validWithinRow.holds Try.pinned (OpenSpec.ofChange validWithinSpec)

/-- ITS FALSE NEIGHBOUR: 'it returns false'. Refute it at one input. -/
def validWithinWrong : ChangeSpec := { name := "validWithin", fn := fun _ => fun
  | [d1, d2, d3, d4] => { results := [.lit (.bool false)], args := [d1, d2, d3, d4] }
  | _ => none }
def ValidWithinWrongFalsely : Prop := validWithinRow.holds Try.pinned (OpenSpec.ofChange validWithinWrong)

/-- 'trufflelaw17.SpansJoin': WHATEVER THE INPUT: true; the input reads as it did. -/
def spansJoinSpec : ChangeSpec := { name := "spansJoin", fn := fun _ => fun
  | [d1, d2, d3, d4, d5, d6] => { results := [.lit (.bool true)], args := [d1, d2, d3, d4, d5, d6] }
  | _ => none }
def spansJoinRow : OpenClaim := { program := "ytlokcpfkaijchaa", sum := "ce993913d05a0488b371fafbbccac25ac918277dd9809a9837aa48ccc763bd14", func := "truffle/trufflelaw17.SpansJoin", spec := "spansJoin", unfollowed := true, recurses := true, plainKeys := false, apart := false }
def SpansJoinSaid : Prop := spansJoinRow.holds Try.pinned (OpenSpec.ofChange spansJoinSpec)

/-- ITS FALSE NEIGHBOUR: 'it returns false'. Refute it at one input. -/
def spansJoinWrong : ChangeSpec := { name := "spansJoin", fn := fun _ => fun
  | [d1, d2, d3, d4, d5, d6] => { results := [.lit (.bool false)], args := [d1, d2, d3, d4, d5, d6] }
  | _ => none }
def SpansJoinWrongFalsely : Prop := spansJoinRow.holds Try.pinned (OpenSpec.ofChange spansJoinWrong)

/-- 'trufflelaw17.SpansKey': WHATEVER THE INPUT: true; the input reads as it did. -/
def spansKeySpec : ChangeSpec := { name := "spansKey", fn := fun _ => fun
  | [d1, d2, d3, d4, d5] => { results := [.lit (.bool true)], args := [d1, d2, d3, d4, d5] }
  | _ => none }
def spansKeyRow : OpenClaim := { program := "ytlokcpfkaijchaa", sum := "ce993913d05a0488b371fafbbccac25ac918277dd9809a9837aa48ccc763bd14", func := "truffle/trufflelaw17.SpansKey", spec := "spansKey", unfollowed := true, recurses := true, plainKeys := false, apart := false }
def SpansKeySaid : Prop := spansKeyRow.holds Try.pinned (OpenSpec.ofChange spansKeySpec)

/-- ITS FALSE NEIGHBOUR: 'it returns false'. Refute it at one input. -/
def spansKeyWrong : ChangeSpec := { name := "spansKey", fn := fun _ => fun
  | [d1, d2, d3, d4, d5] => { results := [.lit (.bool false)], args := [d1, d2, d3, d4, d5] }
  | _ => none }
def SpansKeyWrongFalsely : Prop := spansKeyRow.holds Try.pinned (OpenSpec.ofChange spansKeyWrong)

/-- 'trufflelaw17.SpansCut': WHATEVER THE INPUT: true; the input reads as it did. -/
def spansCutSpec : ChangeSpec := { name := "spansCut", fn := fun _ => fun
  | [d1, d2, d3, d4, d5] => { results := [.lit (.bool true)], args := [d1, d2, d3, d4, d5] }
  | _ => none }
def spansCutRow : OpenClaim := { program := "ytlokcpfkaijchaa", sum := "ce993913d05a0488b371fafbbccac25ac918277dd9809a9837aa48ccc763bd14", func := "truffle/trufflelaw17.SpansCut", spec := "spansCut", unfollowed := true, recurses := true, plainKeys := false, apart := false }
def SpansCutSaid : Prop := spansCutRow.holds Try.pinned (OpenSpec.ofChange spansCutSpec)

/-- ITS FALSE NEIGHBOUR: 'it returns false'. Refute it at one input. -/
def spansCutWrong : ChangeSpec := { name := "spansCut", fn := fun _ => fun
  | [d1, d2, d3, d4, d5] => { results := [.lit (.bool false)], args := [d1, d2, d3, d4, d5] }
  | _ => none }
def SpansCutWrongFalsely : Prop := spansCutRow.holds Try.pinned (OpenSpec.ofChange spansCutWrong)

/-- 'trufflelaw17.SpansWithin': WHATEVER THE INPUT: true; the input reads as it did. -/
def spansWithinSpec : ChangeSpec := { name := "spansWithin", fn := fun _ => fun
  | [d1, d2, d3, d4, d5] => { results := [.lit (.bool true)], args := [d1, d2, d3, d4, d5] }
  | _ => none }
def spansWithinRow : OpenClaim := { program := "ytlokcpfkaijchaa", sum := "ce993913d05a0488b371fafbbccac25ac918277dd9809a9837aa48ccc763bd14", func := "truffle/trufflelaw17.SpansWithin", spec := "spansWithin", unfollowed := true, recurses := true, plainKeys := false, apart := false }
def SpansWithinSaid : Prop := spansWithinRow.holds Try.pinned (OpenSpec.ofChange spansWithinSpec)

/-- ITS FALSE NEIGHBOUR: 'it returns false'. Refute it at one input. -/
def spansWithinWrong : ChangeSpec := { name := "spansWithin", fn := fun _ => fun
  | [d1, d2, d3, d4, d5] => { results := [.lit (.bool false)], args := [d1, d2, d3, d4, d5] }
  | _ => none }
def SpansWithinWrongFalsely : Prop := spansWithinRow.holds Try.pinned (OpenSpec.ofChange spansWithinWrong)

/- THE SECOND FORM. 'bulk': how many values and letters a reading holds, each counted each time it is reached (what is shared counts as often as it is met; a slice's spare places count too). A statement '..UptoSaid' is the law's where the arguments, and the package variables that the reading takes, are together of bulk at most 1048576: NARROWER than '..Said'. Prove '..Said' where nothing that the law and all that it calls make is longer than what came in: it says more and counts as full. Else prove '..UptoSaid'. A law counts once. -/
mutual
def uptoBulk {H : Type} : DataW H → Nat
  | .lit (.string bytes) => bytes.length + 1
  | .lit _ => 1
  | .nil => 1
  | .ptr d => uptoBulk d + 1
  | .slice elems spare => uptoBulkAll elems + uptoBulkAll spare + 1
  | .agg parts => uptoBulkAll parts + 1
  | .iface _ d => uptoBulk d + 1
  | .map entries => uptoBulkEntries entries + 1
  | .held _ => 1
def uptoBulkAll {H : Type} : List (DataW H) → Nat
  | [] => 0
  | d :: r => uptoBulk d + uptoBulkAll r
def uptoBulkEntries {H : Type} : List (Lit × DataW H) → Nat
  | [] => 0
  | x :: r => uptoBulkEntry x + uptoBulkEntries r
def uptoBulkEntry {H : Type} : Lit × DataW H → Nat
  | (.string bytes, d) => bytes.length + uptoBulk d + 1
  | (_, d) => uptoBulk d + 1
 end
def uptoSmall : (H : Type) → List (DataW H) → Bool := fun _ ds => decide (uptoBulkAll ds ≤ 1048576)
def OpenSpec.upto (s : _root_.Go.ChangeSpec) : _root_.Go.OpenSpec := { _root_.Go.OpenSpec.ofChange s with cond := some uptoSmall }

/-- 'trufflelaw18.ValidParts', WHERE WHAT IT READS IS OF BULK AT MOST 1048576: true; the input reads as it did. -/
def validPartsUptoRow : OpenClaim := { program := "ytlokcpfkaijchaa", sum := "ce993913d05a0488b371fafbbccac25ac918277dd9809a9837aa48ccc763bd14", func := "truffle/trufflelaw18.ValidParts", spec := "validParts", unfollowed := true, recurses := true, plainKeys := false, apart := false, narrowed := true }
def ValidPartsUptoSaid : Prop := validPartsUptoRow.holds Try.pinned (OpenSpec.upto validPartsSpec)

/-- 'trufflelaw18.ValidSteps', WHERE WHAT IT READS IS OF BULK AT MOST 1048576: true; the input reads as it did. -/
def validStepsUptoRow : OpenClaim := { program := "ytlokcpfkaijchaa", sum := "ce993913d05a0488b371fafbbccac25ac918277dd9809a9837aa48ccc763bd14", func := "truffle/trufflelaw18.ValidSteps", spec := "validSteps", unfollowed := true, recurses := true, plainKeys := false, apart := false, narrowed := true }
def ValidStepsUptoSaid : Prop := validStepsUptoRow.holds Try.pinned (OpenSpec.upto validStepsSpec)

/-- 'trufflelaw18.ValidWithin', WHERE WHAT IT READS IS OF BULK AT MOST 1048576: true; the input reads as it did. -/
def validWithinUptoRow : OpenClaim := { program := "ytlokcpfkaijchaa", sum := "ce993913d05a0488b371fafbbccac25ac918277dd9809a9837aa48ccc763bd14", func := "truffle/trufflelaw18.ValidWithin", spec := "validWithin", unfollowed := true, recurses := true, plainKeys := false, apart := false, narrowed := true }
def ValidWithinUptoSaid : Prop := validWithinUptoRow.holds Try.pinned (OpenSpec.upto validWithinSpec)

/-- 'trufflelaw17.SpansJoin', WHERE WHAT IT READS IS OF BULK AT MOST 1048576: true; the input reads as it did. -/
def spansJoinUptoRow : OpenClaim := { program := "ytlokcpfkaijchaa", sum := "ce993913d05a0488b371fafbbccac25ac918277dd9809a9837aa48ccc763bd14", func := "truffle/trufflelaw17.SpansJoin", spec := "spansJoin", unfollowed := true, recurses := true, plainKeys := false, apart := false, narrowed := true }
def SpansJoinUptoSaid : Prop := spansJoinUptoRow.holds Try.pinned (OpenSpec.upto spansJoinSpec)

/-- 'trufflelaw17.SpansKey', WHERE WHAT IT READS IS OF BULK AT MOST 1048576: true; the input reads as it did. -/
def spansKeyUptoRow : OpenClaim := { program := "ytlokcpfkaijchaa", sum := "ce993913d05a0488b371fafbbccac25ac918277dd9809a9837aa48ccc763bd14", func := "truffle/trufflelaw17.SpansKey", spec := "spansKey", unfollowed := true, recurses := true, plainKeys := false, apart := false, narrowed := true }
def SpansKeyUptoSaid : Prop := spansKeyUptoRow.holds Try.pinned (OpenSpec.upto spansKeySpec)

/-- 'trufflelaw17.SpansCut', WHERE WHAT IT READS IS OF BULK AT MOST 1048576: true; the input reads as it did. -/
def spansCutUptoRow : OpenClaim := { program := "ytlokcpfkaijchaa", sum := "ce993913d05a0488b371fafbbccac25ac918277dd9809a9837aa48ccc763bd14", func := "truffle/trufflelaw17.SpansCut", spec := "spansCut", unfollowed := true, recurses := true, plainKeys := false, apart := false, narrowed := true }
def SpansCutUptoSaid : Prop := spansCutUptoRow.holds Try.pinned (OpenSpec.upto spansCutSpec)

/-- 'trufflelaw17.SpansWithin', WHERE WHAT IT READS IS OF BULK AT MOST 1048576: true; the input reads as it did. -/
def spansWithinUptoRow : OpenClaim := { program := "ytlokcpfkaijchaa", sum := "ce993913d05a0488b371fafbbccac25ac918277dd9809a9837aa48ccc763bd14", func := "truffle/trufflelaw17.SpansWithin", spec := "spansWithin", unfollowed := true, recurses := true, plainKeys := false, apart := false, narrowed := true }
def SpansWithinUptoSaid : Prop := spansWithinUptoRow.holds Try.pinned (OpenSpec.upto spansWithinSpec)

end Rows
end Go.Proofs.Ytlokcpfkaijchaa
