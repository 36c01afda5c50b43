/-
  No cell of these rows narrows 'for every input' (looked for: loops, veiled, ifaces, maps, wideKeys, modest, calm, conditions, laid).
  DERIVED. THE GIVEN ROWS OF THIS SEAT. 10 by the template 'for every input the law returns true; each argument reads behind the call as it read before'; 0 by the template 'total and deterministic' (their statements: YtpghmnpbfaichaaTotals.lean).
  GIVEN WITH THE SEED: the statements are not yours to turn. If you find one false, say at which input.
  Laid BY PROGRAM, IN A SANDBOX (cutbox-rows.mjs): the forced cells as the released guide's own fill.sh prints them over the translation 8b4b6e07eaac0ce2… (all of the seat's roots in one cut). By AI agents, Wed Nov 11 2026. No macro, syntax, notation, axiom, sorry.
-/
import Derived.Test.YtpghmnpbfaichaaChecked
import GoSem.Claim
import GoSem.ClaimJoined
import GoSem.ClaimMapViews
import Derived.JoinedTies
import Derived.KernelRfl
namespace Go.Proofs.Ytpghmnpbfaichaa
/- THE CELL 'sum', in the pinned program and in every row, IS THE sha256 OF THE DUMP (.gsa) THAT YtpghmnpbfaichaaProg.lean LOADS. Nothing in Lean hashes anything: it is a label: what it is worth is what the hold of that sum in a sandbox is worth. -/
noncomputable def Try.pinned : Pinned := { name := "ytpghmnpbfaichaa", sum := "8b4b6e07eaac0ce26f35be79c2a2df4cc1831915f000a8cef83f05ebc73f55bc", checked := Try.checked }
namespace Rows
def none {H : Type} : Left H := { results := [], args := [] }

/-- 'sigillaw12.CircuitRows': WHATEVER THE INPUT: true; the input reads as it did. -/
def circuitRowsSpec : ChangeSpec := { name := "circuitRows", fn := fun _ => fun
  | [d1, d2, d3] => { results := [.lit (.bool true)], args := [d1, d2, d3] }
  | _ => none }
def circuitRowsRow : OpenClaim := { program := "ytpghmnpbfaichaa", sum := "8b4b6e07eaac0ce26f35be79c2a2df4cc1831915f000a8cef83f05ebc73f55bc", func := "sigil/sigillaw12.CircuitRows", spec := "circuitRows", unfollowed := true, recurses := true, plainKeys := false, apart := false }
def CircuitRowsSaid : Prop := circuitRowsRow.holds Try.pinned (OpenSpec.ofChange circuitRowsSpec)

/-- ITS FALSE NEIGHBOUR: 'it returns false'. Refute it at one input. -/
def circuitRowsWrong : ChangeSpec := { name := "circuitRows", fn := fun _ => fun
  | [d1, d2, d3] => { results := [.lit (.bool false)], args := [d1, d2, d3] }
  | _ => none }
def CircuitRowsWrongFalsely : Prop := circuitRowsRow.holds Try.pinned (OpenSpec.ofChange circuitRowsWrong)

/-- 'sigillaw12.CircuitFits': WHATEVER THE INPUT: true; the input reads as it did. -/
def circuitFitsSpec : ChangeSpec := { name := "circuitFits", fn := fun _ => fun
  | [d1, d2, d3] => { results := [.lit (.bool true)], args := [d1, d2, d3] }
  | _ => none }
def circuitFitsRow : OpenClaim := { program := "ytpghmnpbfaichaa", sum := "8b4b6e07eaac0ce26f35be79c2a2df4cc1831915f000a8cef83f05ebc73f55bc", func := "sigil/sigillaw12.CircuitFits", spec := "circuitFits", unfollowed := true, recurses := true, plainKeys := false, apart := false }
def CircuitFitsSaid : Prop := circuitFitsRow.holds Try.pinned (OpenSpec.ofChange circuitFitsSpec)

/-- ITS FALSE NEIGHBOUR: 'it returns false'. Refute it at one input. -/
def circuitFitsWrong : ChangeSpec := { name := "circuitFits", fn := fun _ => fun
  | [d1, d2, d3] => { results := [.lit (.bool false)], args := [d1, d2, d3] }
  | _ => none }
def CircuitFitsWrongFalsely : Prop := circuitFitsRow.holds Try.pinned (OpenSpec.ofChange circuitFitsWrong)

/-- 'sigillaw12.CircuitDegree': WHATEVER THE INPUT: true; the input reads as it did. -/
def circuitDegreeSpec : ChangeSpec := { name := "circuitDegree", fn := fun _ => fun
  | [d] => { results := [.lit (.bool true)], args := [d] }
  | _ => none }
def circuitDegreeRow : OpenClaim := { program := "ytpghmnpbfaichaa", sum := "8b4b6e07eaac0ce26f35be79c2a2df4cc1831915f000a8cef83f05ebc73f55bc", func := "sigil/sigillaw12.CircuitDegree", spec := "circuitDegree", unfollowed := true, recurses := true, plainKeys := false, apart := false }
def CircuitDegreeSaid : Prop := circuitDegreeRow.holds Try.pinned (OpenSpec.ofChange circuitDegreeSpec)

/-- ITS FALSE NEIGHBOUR: 'it returns false'. Refute it at one input. -/
def circuitDegreeWrong : ChangeSpec := { name := "circuitDegree", fn := fun _ => fun
  | [d] => { results := [.lit (.bool false)], args := [d] }
  | _ => none }
def CircuitDegreeWrongFalsely : Prop := circuitDegreeRow.holds Try.pinned (OpenSpec.ofChange circuitDegreeWrong)

/-- 'sigillaw12.CircuitChecks': WHATEVER THE INPUT: true; the input reads as it did. -/
def circuitChecksSpec : ChangeSpec := { name := "circuitChecks", fn := fun _ => fun
  | [d] => { results := [.lit (.bool true)], args := [d] }
  | _ => none }
def circuitChecksRow : OpenClaim := { program := "ytpghmnpbfaichaa", sum := "8b4b6e07eaac0ce26f35be79c2a2df4cc1831915f000a8cef83f05ebc73f55bc", func := "sigil/sigillaw12.CircuitChecks", spec := "circuitChecks", unfollowed := true, recurses := true, plainKeys := false, apart := false }
def CircuitChecksSaid : Prop := circuitChecksRow.holds Try.pinned (OpenSpec.ofChange circuitChecksSpec)

/-- ITS FALSE NEIGHBOUR: 'it returns false'. Refute it at one input. -/
def circuitChecksWrong : ChangeSpec := { name := "circuitChecks", fn := fun _ => fun
  | [d] => { results := [.lit (.bool false)], args := [d] }
  | _ => none }
def CircuitChecksWrongFalsely : Prop := circuitChecksRow.holds Try.pinned (OpenSpec.ofChange circuitChecksWrong)

/-- 'sigillaw12.CircuitLess': WHATEVER THE INPUT: true; the input reads as it did. -/
def circuitLessSpec : ChangeSpec := { name := "circuitLess", fn := fun _ => fun
  | [d] => { results := [.lit (.bool true)], args := [d] }
  | _ => none }
def circuitLessRow : OpenClaim := { program := "ytpghmnpbfaichaa", sum := "8b4b6e07eaac0ce26f35be79c2a2df4cc1831915f000a8cef83f05ebc73f55bc", func := "sigil/sigillaw12.CircuitLess", spec := "circuitLess", unfollowed := true, recurses := true, plainKeys := false, apart := false }
def CircuitLessSaid : Prop := circuitLessRow.holds Try.pinned (OpenSpec.ofChange circuitLessSpec)

/-- ITS FALSE NEIGHBOUR: 'it returns false'. Refute it at one input. -/
def circuitLessWrong : ChangeSpec := { name := "circuitLess", fn := fun _ => fun
  | [d] => { results := [.lit (.bool false)], args := [d] }
  | _ => none }
def CircuitLessWrongFalsely : Prop := circuitLessRow.holds Try.pinned (OpenSpec.ofChange circuitLessWrong)

/-- 'sigillaw11.ExprValues': WHATEVER THE INPUT: true; the input reads as it did. -/
def exprValuesSpec : ChangeSpec := { name := "exprValues", fn := fun _ => fun
  | [d1, d2, d3, d4] => { results := [.lit (.bool true)], args := [d1, d2, d3, d4] }
  | _ => none }
def exprValuesRow : OpenClaim := { program := "ytpghmnpbfaichaa", sum := "8b4b6e07eaac0ce26f35be79c2a2df4cc1831915f000a8cef83f05ebc73f55bc", func := "sigil/sigillaw11.ExprValues", spec := "exprValues", inPlace := ["math/bits.Sub64", "math/bits.Add64"], unfollowed := true, recurses := true, named := ["math/bits.divideError", "math/bits.overflowError"], plainKeys := false, apart := false }
def ExprValuesSaid : Prop := exprValuesRow.holds Try.pinned (OpenSpec.ofChange exprValuesSpec)

/-- ITS FALSE NEIGHBOUR: 'it returns false'. Refute it at one input. -/
def exprValuesWrong : ChangeSpec := { name := "exprValues", fn := fun _ => fun
  | [d1, d2, d3, d4] => { results := [.lit (.bool false)], args := [d1, d2, d3, d4] }
  | _ => none }
def ExprValuesWrongFalsely : Prop := exprValuesRow.holds Try.pinned (OpenSpec.ofChange exprValuesWrong)

/-- 'sigillaw11.ExprLinear': WHATEVER THE INPUT: true; the input reads as it did. -/
def exprLinearSpec : ChangeSpec := { name := "exprLinear", fn := fun _ => fun
  | [d1, d2, d3] => { results := [.lit (.bool true)], args := [d1, d2, d3] }
  | _ => none }
def exprLinearRow : OpenClaim := { program := "ytpghmnpbfaichaa", sum := "8b4b6e07eaac0ce26f35be79c2a2df4cc1831915f000a8cef83f05ebc73f55bc", func := "sigil/sigillaw11.ExprLinear", spec := "exprLinear", inPlace := ["math/bits.Sub64", "math/bits.Add64"], unfollowed := true, recurses := true, named := ["math/bits.divideError", "math/bits.overflowError"], plainKeys := false, apart := false }
def ExprLinearSaid : Prop := exprLinearRow.holds Try.pinned (OpenSpec.ofChange exprLinearSpec)

/-- ITS FALSE NEIGHBOUR: 'it returns false'. Refute it at one input. -/
def exprLinearWrong : ChangeSpec := { name := "exprLinear", fn := fun _ => fun
  | [d1, d2, d3] => { results := [.lit (.bool false)], args := [d1, d2, d3] }
  | _ => none }
def ExprLinearWrongFalsely : Prop := exprLinearRow.holds Try.pinned (OpenSpec.ofChange exprLinearWrong)

/-- 'sigillaw11.ExprCones': WHATEVER THE INPUT: true; the input reads as it did. -/
def exprConesSpec : ChangeSpec := { name := "exprCones", fn := fun _ => fun
  | [d1, d2, d3, d4] => { results := [.lit (.bool true)], args := [d1, d2, d3, d4] }
  | _ => none }
def exprConesRow : OpenClaim := { program := "ytpghmnpbfaichaa", sum := "8b4b6e07eaac0ce26f35be79c2a2df4cc1831915f000a8cef83f05ebc73f55bc", func := "sigil/sigillaw11.ExprCones", spec := "exprCones", inPlace := ["math/bits.Sub64", "math/bits.Add64"], unfollowed := true, recurses := true, named := ["math/bits.divideError", "math/bits.overflowError"], plainKeys := false, apart := false }
def ExprConesSaid : Prop := exprConesRow.holds Try.pinned (OpenSpec.ofChange exprConesSpec)

/-- ITS FALSE NEIGHBOUR: 'it returns false'. Refute it at one input. -/
def exprConesWrong : ChangeSpec := { name := "exprCones", fn := fun _ => fun
  | [d1, d2, d3, d4] => { results := [.lit (.bool false)], args := [d1, d2, d3, d4] }
  | _ => none }
def ExprConesWrongFalsely : Prop := exprConesRow.holds Try.pinned (OpenSpec.ofChange exprConesWrong)

/-- 'sigillaw11.ExprMemory': WHATEVER THE INPUT: true; the input reads as it did. -/
def exprMemorySpec : ChangeSpec := { name := "exprMemory", fn := fun _ => fun
  | [d1, d2, d3] => { results := [.lit (.bool true)], args := [d1, d2, d3] }
  | _ => none }
def exprMemoryRow : OpenClaim := { program := "ytpghmnpbfaichaa", sum := "8b4b6e07eaac0ce26f35be79c2a2df4cc1831915f000a8cef83f05ebc73f55bc", func := "sigil/sigillaw11.ExprMemory", spec := "exprMemory", inPlace := ["math/bits.Sub64", "math/bits.Add64"], unfollowed := true, recurses := true, named := ["math/bits.divideError", "math/bits.overflowError"], plainKeys := false, apart := false }
def ExprMemorySaid : Prop := exprMemoryRow.holds Try.pinned (OpenSpec.ofChange exprMemorySpec)

/-- ITS FALSE NEIGHBOUR: 'it returns false'. Refute it at one input. -/
def exprMemoryWrong : ChangeSpec := { name := "exprMemory", fn := fun _ => fun
  | [d1, d2, d3] => { results := [.lit (.bool false)], args := [d1, d2, d3] }
  | _ => none }
def ExprMemoryWrongFalsely : Prop := exprMemoryRow.holds Try.pinned (OpenSpec.ofChange exprMemoryWrong)

/-- 'sigillaw11.ExprChecks': WHATEVER THE INPUT: true; the input reads as it did. -/
def exprChecksSpec : ChangeSpec := { name := "exprChecks", fn := fun _ => fun
  | [d1, d2, d3, d4, d5] => { results := [.lit (.bool true)], args := [d1, d2, d3, d4, d5] }
  | _ => none }
def exprChecksRow : OpenClaim := { program := "ytpghmnpbfaichaa", sum := "8b4b6e07eaac0ce26f35be79c2a2df4cc1831915f000a8cef83f05ebc73f55bc", func := "sigil/sigillaw11.ExprChecks", spec := "exprChecks", inPlace := ["math/bits.Sub64", "math/bits.Add64"], unfollowed := true, recurses := true, named := ["math/bits.divideError", "math/bits.overflowError"], plainKeys := false, apart := false }
def ExprChecksSaid : Prop := exprChecksRow.holds Try.pinned (OpenSpec.ofChange exprChecksSpec)

/-- ITS FALSE NEIGHBOUR: 'it returns false'. Refute it at one input. -/
def exprChecksWrong : ChangeSpec := { name := "exprChecks", fn := fun _ => fun
  | [d1, d2, d3, d4, d5] => { results := [.lit (.bool false)], args := [d1, d2, d3, d4, d5] }
  | _ => none }
def ExprChecksWrongFalsely : Prop := exprChecksRow.holds Try.pinned (OpenSpec.ofChange exprChecksWrong)

/- THE SECOND FORM. 'bulk': how many values and letters a reading holds, each counted each time it is reached (what is shared counts as often as it is met; a slice's spare places count too). A statement '..UptoSaid' is the law's where the arguments, and the package variables that the reading takes, are together of bulk at most 1048576: NARROWER than '..Said'. Prove '..Said' where nothing that the law and all that it calls make is longer than what came in: it says more and counts as full. Else prove '..UptoSaid'. A law counts once. -/
mutual
def uptoBulk {H : Type} : DataW H → Nat
  | .lit (.string bytes) => bytes.length + 1
  | .lit _ => 1
  | .nil => 1
  | .ptr d => uptoBulk d + 1
  | .slice elems spare => uptoBulkAll elems + uptoBulkAll spare + 1
  | .agg parts => uptoBulkAll parts + 1
  | .iface _ d => uptoBulk d + 1
  | .map entries => uptoBulkEntries entries + 1
  | .held _ => 1
def uptoBulkAll {H : Type} : List (DataW H) → Nat
  | [] => 0
  | d :: r => uptoBulk d + uptoBulkAll r
def uptoBulkEntries {H : Type} : List (Lit × DataW H) → Nat
  | [] => 0
  | x :: r => uptoBulkEntry x + uptoBulkEntries r
def uptoBulkEntry {H : Type} : Lit × DataW H → Nat
  | (.string bytes, d) => bytes.length + uptoBulk d + 1
  | (_, d) => uptoBulk d + 1
 end
def uptoSmall : (H : Type) → List (DataW H) → Bool := fun _ ds => decide (uptoBulkAll ds ≤ 1048576)
def OpenSpec.upto (s : _root_.Go.ChangeSpec) : _root_.Go.OpenSpec := { _root_.Go.OpenSpec.ofChange s with cond := some uptoSmall }

/-- 'sigillaw12.CircuitRows', WHERE WHAT IT READS IS OF BULK AT MOST 1048576: true; the input reads as it did. -/
def circuitRowsUptoRow : OpenClaim := { program := "ytpghmnpbfaichaa", sum := "8b4b6e07eaac0ce26f35be79c2a2df4cc1831915f000a8cef83f05ebc73f55bc", func := "sigil/sigillaw12.CircuitRows", spec := "circuitRows", unfollowed := true, recurses := true, plainKeys := false, apart := false, narrowed := true }
def CircuitRowsUptoSaid : Prop := circuitRowsUptoRow.holds Try.pinned (OpenSpec.upto circuitRowsSpec)

/-- 'sigillaw12.CircuitFits', WHERE WHAT IT READS IS OF BULK AT MOST 1048576: true; the input reads as it did. -/
def circuitFitsUptoRow : OpenClaim := { program := "ytpghmnpbfaichaa", sum := "8b4b6e07eaac0ce26f35be79c2a2df4cc1831915f000a8cef83f05ebc73f55bc", func := "sigil/sigillaw12.CircuitFits", spec := "circuitFits", unfollowed := true, recurses := true, plainKeys := false, apart := false, narrowed := true }
def CircuitFitsUptoSaid : Prop := circuitFitsUptoRow.holds Try.pinned (OpenSpec.upto circuitFitsSpec)

/-- 'sigillaw12.CircuitDegree', WHERE WHAT IT READS IS OF BULK AT MOST 1048576: true; the input reads as it did. -/
def circuitDegreeUptoRow : OpenClaim := { program := "ytpghmnpbfaichaa", sum := "8b4b6e07eaac0ce26f35be79c2a2df4cc1831915f000a8cef83f05ebc73f55bc", func := "sigil/sigillaw12.CircuitDegree", spec := "circuitDegree", unfollowed := true, recurses := true, plainKeys := false, apart := false, narrowed := true }
def CircuitDegreeUptoSaid : Prop := circuitDegreeUptoRow.holds Try.pinned (OpenSpec.upto circuitDegreeSpec)

/-- 'sigillaw12.CircuitChecks', WHERE WHAT IT READS IS OF BULK AT MOST 1048576: true; the input reads as it did. -/
def circuitChecksUptoRow : OpenClaim := { program := "ytpghmnpbfaichaa", sum := "8b4b6e07eaac0ce26f35be79c2a2df4cc1831915f000a8cef83f05ebc73f55bc", func := "sigil/sigillaw12.CircuitChecks", spec := "circuitChecks", unfollowed := true, recurses := true, plainKeys := false, apart := false, narrowed := true }
def CircuitChecksUptoSaid : Prop := circuitChecksUptoRow.holds Try.pinned (OpenSpec.upto circuitChecksSpec)

/-- 'sigillaw12.CircuitLess', WHERE WHAT IT READS IS OF BULK AT MOST 1048576: true; the input reads as it did. -/
def circuitLessUptoRow : OpenClaim := { program := "ytpghmnpbfaichaa", sum := "8b4b6e07eaac0ce26f35be79c2a2df4cc1831915f000a8cef83f05ebc73f55bc", func := "sigil/sigillaw12.CircuitLess", spec := "circuitLess", unfollowed := true, recurses := true, plainKeys := false, apart := false, narrowed := true }
def CircuitLessUptoSaid : Prop := circuitLessUptoRow.holds Try.pinned (OpenSpec.upto circuitLessSpec)

/-- 'sigillaw11.ExprValues', WHERE WHAT IT READS IS OF BULK AT MOST 1048576: true; the input reads as it did. -/
def exprValuesUptoRow : OpenClaim := { program := "ytpghmnpbfaichaa", sum := "8b4b6e07eaac0ce26f35be79c2a2df4cc1831915f000a8cef83f05ebc73f55bc", func := "sigil/sigillaw11.ExprValues", spec := "exprValues", inPlace := ["math/bits.Sub64", "math/bits.Add64"], unfollowed := true, recurses := true, named := ["math/bits.divideError", "math/bits.overflowError"], plainKeys := false, apart := false, narrowed := true }
def ExprValuesUptoSaid : Prop := exprValuesUptoRow.holds Try.pinned (OpenSpec.upto exprValuesSpec)

/-- 'sigillaw11.ExprLinear', WHERE WHAT IT READS IS OF BULK AT MOST 1048576: true; the input reads as it did. -/
def exprLinearUptoRow : OpenClaim := { program := "ytpghmnpbfaichaa", sum := "8b4b6e07eaac0ce26f35be79c2a2df4cc1831915f000a8cef83f05ebc73f55bc", func := "sigil/sigillaw11.ExprLinear", spec := "exprLinear", inPlace := ["math/bits.Sub64", "math/bits.Add64"], unfollowed := true, recurses := true, named := ["math/bits.divideError", "math/bits.overflowError"], plainKeys := false, apart := false, narrowed := true }
def ExprLinearUptoSaid : Prop := exprLinearUptoRow.holds Try.pinned (OpenSpec.upto exprLinearSpec)

/-- 'sigillaw11.ExprCones', WHERE WHAT IT READS IS OF BULK AT MOST 1048576: true; the input reads as it did. -/
def exprConesUptoRow : OpenClaim := { program := "ytpghmnpbfaichaa", sum := "8b4b6e07eaac0ce26f35be79c2a2df4cc1831915f000a8cef83f05ebc73f55bc", func := "sigil/sigillaw11.ExprCones", spec := "exprCones", inPlace := ["math/bits.Sub64", "math/bits.Add64"], unfollowed := true, recurses := true, named := ["math/bits.divideError", "math/bits.overflowError"], plainKeys := false, apart := false, narrowed := true }
def ExprConesUptoSaid : Prop := exprConesUptoRow.holds Try.pinned (OpenSpec.upto exprConesSpec)

/-- 'sigillaw11.ExprMemory', WHERE WHAT IT READS IS OF BULK AT MOST 1048576: true; the input reads as it did. -/
def exprMemoryUptoRow : OpenClaim := { program := "ytpghmnpbfaichaa", sum := "8b4b6e07eaac0ce26f35be79c2a2df4cc1831915f000a8cef83f05ebc73f55bc", func := "sigil/sigillaw11.ExprMemory", spec := "exprMemory", inPlace := ["math/bits.Sub64", "math/bits.Add64"], unfollowed := true, recurses := true, named := ["math/bits.divideError", "math/bits.overflowError"], plainKeys := false, apart := false, narrowed := true }
def ExprMemoryUptoSaid : Prop := exprMemoryUptoRow.holds Try.pinned (OpenSpec.upto exprMemorySpec)

/-- 'sigillaw11.ExprChecks', WHERE WHAT IT READS IS OF BULK AT MOST 1048576: true; the input reads as it did. -/
def exprChecksUptoRow : OpenClaim := { program := "ytpghmnpbfaichaa", sum := "8b4b6e07eaac0ce26f35be79c2a2df4cc1831915f000a8cef83f05ebc73f55bc", func := "sigil/sigillaw11.ExprChecks", spec := "exprChecks", inPlace := ["math/bits.Sub64", "math/bits.Add64"], unfollowed := true, recurses := true, named := ["math/bits.divideError", "math/bits.overflowError"], plainKeys := false, apart := false, narrowed := true }
def ExprChecksUptoSaid : Prop := exprChecksUptoRow.holds Try.pinned (OpenSpec.upto exprChecksSpec)

end Rows
end Go.Proofs.Ytpghmnpbfaichaa
