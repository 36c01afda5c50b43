/-
  No cell of these rows narrows 'for every input' (looked for: loops, veiled, ifaces, maps, wideKeys, modest, calm, conditions, laid).
  DERIVED. THE GIVEN ROWS OF THIS SEAT. 7 by the template 'for every input the law returns true; each argument reads behind the call as it read before'; 0 by the template 'total and deterministic' (their statements: YtlmjdcbhpffanaaTotals.lean).
  GIVEN WITH THE SEED: the statements are not yours to turn. If you find one false, say at which input.
  Laid BY PROGRAM, IN A SANDBOX (cutbox-rows.mjs): the forced cells as the released guide's own fill.sh prints them over the translation d95ed73a7e7101ea… (all of the seat's roots in one cut). By AI agents, Wed Nov 11 2026. No macro, syntax, notation, axiom, sorry.
-/
import Derived.Test.YtlmjdcbhpffanaaChecked
import GoSem.Claim
import GoSem.ClaimJoined
import GoSem.ClaimMapViews
import Derived.JoinedTies
import Derived.KernelRfl
namespace Go.Proofs.Ytlmjdcbhpffanaa
/- THE CELL 'sum', in the pinned program and in every row, IS THE sha256 OF THE DUMP (.gsa) THAT YtlmjdcbhpffanaaProg.lean LOADS. Nothing in Lean hashes anything: it is a label: what it is worth is what the hold of that sum in a sandbox is worth. -/
noncomputable def Try.pinned : Pinned := { name := "ytlmjdcbhpffanaa", sum := "d95ed73a7e7101ea80c78e0b3c60ae77e03fba423e0052847f9a255ed215629f", checked := Try.checked }
namespace Rows
def none {H : Type} : Left H := { results := [], args := [] }

/-- 'sigillaw14.RegionFits': WHATEVER THE INPUT: true; the input reads as it did. -/
def regionFitsSpec : ChangeSpec := { name := "regionFits", fn := fun _ => fun
  | [d1, d2, d3] => { results := [.lit (.bool true)], args := [d1, d2, d3] }
  | _ => none }
def regionFitsRow : OpenClaim := { program := "ytlmjdcbhpffanaa", sum := "d95ed73a7e7101ea80c78e0b3c60ae77e03fba423e0052847f9a255ed215629f", func := "sigil/sigillaw14.RegionFits", spec := "regionFits", unfollowed := true, recurses := true, plainKeys := false, apart := false }
def RegionFitsSaid : Prop := regionFitsRow.holds Try.pinned (OpenSpec.ofChange regionFitsSpec)

/-- ITS FALSE NEIGHBOUR: 'it returns false'. Refute it at one input. -/
def regionFitsWrong : ChangeSpec := { name := "regionFits", fn := fun _ => fun
  | [d1, d2, d3] => { results := [.lit (.bool false)], args := [d1, d2, d3] }
  | _ => none }
def RegionFitsWrongFalsely : Prop := regionFitsRow.holds Try.pinned (OpenSpec.ofChange regionFitsWrong)

/-- 'sigillaw14.RegionMore': WHATEVER THE INPUT: true; the input reads as it did. -/
def regionMoreSpec : ChangeSpec := { name := "regionMore", fn := fun _ => fun
  | [d1, d2, d3] => { results := [.lit (.bool true)], args := [d1, d2, d3] }
  | _ => none }
def regionMoreRow : OpenClaim := { program := "ytlmjdcbhpffanaa", sum := "d95ed73a7e7101ea80c78e0b3c60ae77e03fba423e0052847f9a255ed215629f", func := "sigil/sigillaw14.RegionMore", spec := "regionMore", unfollowed := true, recurses := true, plainKeys := false, apart := false }
def RegionMoreSaid : Prop := regionMoreRow.holds Try.pinned (OpenSpec.ofChange regionMoreSpec)

/-- ITS FALSE NEIGHBOUR: 'it returns false'. Refute it at one input. -/
def regionMoreWrong : ChangeSpec := { name := "regionMore", fn := fun _ => fun
  | [d1, d2, d3] => { results := [.lit (.bool false)], args := [d1, d2, d3] }
  | _ => none }
def RegionMoreWrongFalsely : Prop := regionMoreRow.holds Try.pinned (OpenSpec.ofChange regionMoreWrong)

/-- 'sigillaw14.RegionValues': WHATEVER THE INPUT: true; the input reads as it did. -/
def regionValuesSpec : ChangeSpec := { name := "regionValues", fn := fun _ => fun
  | [d1, d2, d3] => { results := [.lit (.bool true)], args := [d1, d2, d3] }
  | _ => none }
def regionValuesRow : OpenClaim := { program := "ytlmjdcbhpffanaa", sum := "d95ed73a7e7101ea80c78e0b3c60ae77e03fba423e0052847f9a255ed215629f", func := "sigil/sigillaw14.RegionValues", spec := "regionValues", unfollowed := true, recurses := true, plainKeys := false, apart := false }
def RegionValuesSaid : Prop := regionValuesRow.holds Try.pinned (OpenSpec.ofChange regionValuesSpec)

/-- ITS FALSE NEIGHBOUR: 'it returns false'. Refute it at one input. -/
def regionValuesWrong : ChangeSpec := { name := "regionValues", fn := fun _ => fun
  | [d1, d2, d3] => { results := [.lit (.bool false)], args := [d1, d2, d3] }
  | _ => none }
def RegionValuesWrongFalsely : Prop := regionValuesRow.holds Try.pinned (OpenSpec.ofChange regionValuesWrong)

/-- 'sigillaw14.RegionApart': WHATEVER THE INPUT: true; the input reads as it did. -/
def regionApartSpec : ChangeSpec := { name := "regionApart", fn := fun _ => fun
  | [d1, d2, d3] => { results := [.lit (.bool true)], args := [d1, d2, d3] }
  | _ => none }
def regionApartRow : OpenClaim := { program := "ytlmjdcbhpffanaa", sum := "d95ed73a7e7101ea80c78e0b3c60ae77e03fba423e0052847f9a255ed215629f", func := "sigil/sigillaw14.RegionApart", spec := "regionApart", unfollowed := true, recurses := true, plainKeys := false, apart := false }
def RegionApartSaid : Prop := regionApartRow.holds Try.pinned (OpenSpec.ofChange regionApartSpec)

/-- ITS FALSE NEIGHBOUR: 'it returns false'. Refute it at one input. -/
def regionApartWrong : ChangeSpec := { name := "regionApart", fn := fun _ => fun
  | [d1, d2, d3] => { results := [.lit (.bool false)], args := [d1, d2, d3] }
  | _ => none }
def RegionApartWrongFalsely : Prop := regionApartRow.holds Try.pinned (OpenSpec.ofChange regionApartWrong)

/-- 'sigillaw13.SheetParts': WHATEVER THE INPUT: true; the input reads as it did. -/
def sheetPartsSpec : ChangeSpec := { name := "sheetParts", fn := fun _ => fun
  | [d1, d2, d3, d4] => { results := [.lit (.bool true)], args := [d1, d2, d3, d4] }
  | _ => none }
def sheetPartsRow : OpenClaim := { program := "ytlmjdcbhpffanaa", sum := "d95ed73a7e7101ea80c78e0b3c60ae77e03fba423e0052847f9a255ed215629f", func := "sigil/sigillaw13.SheetParts", spec := "sheetParts", inPlace := ["math/bits.Sub64", "math/bits.Add64"], unfollowed := true, recurses := true, named := ["math/bits.divideError", "math/bits.overflowError"], plainKeys := false, apart := false }
def SheetPartsSaid : Prop := sheetPartsRow.holds Try.pinned (OpenSpec.ofChange sheetPartsSpec)

/-- ITS FALSE NEIGHBOUR: 'it returns false'. Refute it at one input. -/
def sheetPartsWrong : ChangeSpec := { name := "sheetParts", fn := fun _ => fun
  | [d1, d2, d3, d4] => { results := [.lit (.bool false)], args := [d1, d2, d3, d4] }
  | _ => none }
def SheetPartsWrongFalsely : Prop := sheetPartsRow.holds Try.pinned (OpenSpec.ofChange sheetPartsWrong)

/-- 'sigillaw13.SheetMods': WHATEVER THE INPUT: true; the input reads as it did. -/
def sheetModsSpec : ChangeSpec := { name := "sheetMods", fn := fun _ => fun
  | [d1, d2, d3, d4] => { results := [.lit (.bool true)], args := [d1, d2, d3, d4] }
  | _ => none }
def sheetModsRow : OpenClaim := { program := "ytlmjdcbhpffanaa", sum := "d95ed73a7e7101ea80c78e0b3c60ae77e03fba423e0052847f9a255ed215629f", func := "sigil/sigillaw13.SheetMods", spec := "sheetMods", inPlace := ["math/bits.Sub64", "math/bits.Add64"], unfollowed := true, recurses := true, named := ["math/bits.divideError", "math/bits.overflowError"], plainKeys := false, apart := false }
def SheetModsSaid : Prop := sheetModsRow.holds Try.pinned (OpenSpec.ofChange sheetModsSpec)

/-- ITS FALSE NEIGHBOUR: 'it returns false'. Refute it at one input. -/
def sheetModsWrong : ChangeSpec := { name := "sheetMods", fn := fun _ => fun
  | [d1, d2, d3, d4] => { results := [.lit (.bool false)], args := [d1, d2, d3, d4] }
  | _ => none }
def SheetModsWrongFalsely : Prop := sheetModsRow.holds Try.pinned (OpenSpec.ofChange sheetModsWrong)

/-- 'sigillaw13.SheetGates': WHATEVER THE INPUT: true; the input reads as it did. -/
def sheetGatesSpec : ChangeSpec := { name := "sheetGates", fn := fun _ => fun
  | [d1, d2, d3, d4] => { results := [.lit (.bool true)], args := [d1, d2, d3, d4] }
  | _ => none }
def sheetGatesRow : OpenClaim := { program := "ytlmjdcbhpffanaa", sum := "d95ed73a7e7101ea80c78e0b3c60ae77e03fba423e0052847f9a255ed215629f", func := "sigil/sigillaw13.SheetGates", spec := "sheetGates", inPlace := ["math/bits.Sub64", "math/bits.Add64"], unfollowed := true, recurses := true, named := ["math/bits.divideError", "math/bits.overflowError"], plainKeys := false, apart := false }
def SheetGatesSaid : Prop := sheetGatesRow.holds Try.pinned (OpenSpec.ofChange sheetGatesSpec)

/-- ITS FALSE NEIGHBOUR: 'it returns false'. Refute it at one input. -/
def sheetGatesWrong : ChangeSpec := { name := "sheetGates", fn := fun _ => fun
  | [d1, d2, d3, d4] => { results := [.lit (.bool false)], args := [d1, d2, d3, d4] }
  | _ => none }
def SheetGatesWrongFalsely : Prop := sheetGatesRow.holds Try.pinned (OpenSpec.ofChange sheetGatesWrong)

/- THE SECOND FORM. 'bulk': how many values and letters a reading holds, each counted each time it is reached (what is shared counts as often as it is met; a slice's spare places count too). A statement '..UptoSaid' is the law's where the arguments, and the package variables that the reading takes, are together of bulk at most 1048576: NARROWER than '..Said'. Prove '..Said' where nothing that the law and all that it calls make is longer than what came in: it says more and counts as full. Else prove '..UptoSaid'. A law counts once. -/
mutual
def uptoBulk {H : Type} : DataW H → Nat
  | .lit (.string bytes) => bytes.length + 1
  | .lit _ => 1
  | .nil => 1
  | .ptr d => uptoBulk d + 1
  | .slice elems spare => uptoBulkAll elems + uptoBulkAll spare + 1
  | .agg parts => uptoBulkAll parts + 1
  | .iface _ d => uptoBulk d + 1
  | .map entries => uptoBulkEntries entries + 1
  | .held _ => 1
def uptoBulkAll {H : Type} : List (DataW H) → Nat
  | [] => 0
  | d :: r => uptoBulk d + uptoBulkAll r
def uptoBulkEntries {H : Type} : List (Lit × DataW H) → Nat
  | [] => 0
  | x :: r => uptoBulkEntry x + uptoBulkEntries r
def uptoBulkEntry {H : Type} : Lit × DataW H → Nat
  | (.string bytes, d) => bytes.length + uptoBulk d + 1
  | (_, d) => uptoBulk d + 1
 end
def uptoSmall : (H : Type) → List (DataW H) → Bool := fun _ ds => decide (uptoBulkAll ds ≤ 1048576)
def OpenSpec.upto (s : _root_.Go.ChangeSpec) : _root_.Go.OpenSpec := { _root_.Go.OpenSpec.ofChange s with cond := some uptoSmall }

/-- 'sigillaw14.RegionFits', WHERE WHAT IT READS IS OF BULK AT MOST 1048576: true; the input reads as it did. -/
def regionFitsUptoRow : OpenClaim := { program := "ytlmjdcbhpffanaa", sum := "d95ed73a7e7101ea80c78e0b3c60ae77e03fba423e0052847f9a255ed215629f", func := "sigil/sigillaw14.RegionFits", spec := "regionFits", unfollowed := true, recurses := true, plainKeys := false, apart := false, narrowed := true }
def RegionFitsUptoSaid : Prop := regionFitsUptoRow.holds Try.pinned (OpenSpec.upto regionFitsSpec)

/-- 'sigillaw14.RegionMore', WHERE WHAT IT READS IS OF BULK AT MOST 1048576: true; the input reads as it did. -/
def regionMoreUptoRow : OpenClaim := { program := "ytlmjdcbhpffanaa", sum := "d95ed73a7e7101ea80c78e0b3c60ae77e03fba423e0052847f9a255ed215629f", func := "sigil/sigillaw14.RegionMore", spec := "regionMore", unfollowed := true, recurses := true, plainKeys := false, apart := false, narrowed := true }
def RegionMoreUptoSaid : Prop := regionMoreUptoRow.holds Try.pinned (OpenSpec.upto regionMoreSpec)

/-- 'sigillaw14.RegionValues', WHERE WHAT IT READS IS OF BULK AT MOST 1048576: true; the input reads as it did. -/
def regionValuesUptoRow : OpenClaim := { program := "ytlmjdcbhpffanaa", sum := "d95ed73a7e7101ea80c78e0b3c60ae77e03fba423e0052847f9a255ed215629f", func := "sigil/sigillaw14.RegionValues", spec := "regionValues", unfollowed := true, recurses := true, plainKeys := false, apart := false, narrowed := true }
def RegionValuesUptoSaid : Prop := regionValuesUptoRow.holds Try.pinned (OpenSpec.upto regionValuesSpec)

/-- 'sigillaw14.RegionApart', WHERE WHAT IT READS IS OF BULK AT MOST 1048576: true; the input reads as it did. -/
def regionApartUptoRow : OpenClaim := { program := "ytlmjdcbhpffanaa", sum := "d95ed73a7e7101ea80c78e0b3c60ae77e03fba423e0052847f9a255ed215629f", func := "sigil/sigillaw14.RegionApart", spec := "regionApart", unfollowed := true, recurses := true, plainKeys := false, apart := false, narrowed := true }
def RegionApartUptoSaid : Prop := regionApartUptoRow.holds Try.pinned (OpenSpec.upto regionApartSpec)

/-- 'sigillaw13.SheetParts', WHERE WHAT IT READS IS OF BULK AT MOST 1048576: true; the input reads as it did. -/
def sheetPartsUptoRow : OpenClaim := { program := "ytlmjdcbhpffanaa", sum := "d95ed73a7e7101ea80c78e0b3c60ae77e03fba423e0052847f9a255ed215629f", func := "sigil/sigillaw13.SheetParts", spec := "sheetParts", inPlace := ["math/bits.Sub64", "math/bits.Add64"], unfollowed := true, recurses := true, named := ["math/bits.divideError", "math/bits.overflowError"], plainKeys := false, apart := false, narrowed := true }
def SheetPartsUptoSaid : Prop := sheetPartsUptoRow.holds Try.pinned (OpenSpec.upto sheetPartsSpec)

/-- 'sigillaw13.SheetMods', WHERE WHAT IT READS IS OF BULK AT MOST 1048576: true; the input reads as it did. -/
def sheetModsUptoRow : OpenClaim := { program := "ytlmjdcbhpffanaa", sum := "d95ed73a7e7101ea80c78e0b3c60ae77e03fba423e0052847f9a255ed215629f", func := "sigil/sigillaw13.SheetMods", spec := "sheetMods", inPlace := ["math/bits.Sub64", "math/bits.Add64"], unfollowed := true, recurses := true, named := ["math/bits.divideError", "math/bits.overflowError"], plainKeys := false, apart := false, narrowed := true }
def SheetModsUptoSaid : Prop := sheetModsUptoRow.holds Try.pinned (OpenSpec.upto sheetModsSpec)

/-- 'sigillaw13.SheetGates', WHERE WHAT IT READS IS OF BULK AT MOST 1048576: true; the input reads as it did. -/
def sheetGatesUptoRow : OpenClaim := { program := "ytlmjdcbhpffanaa", sum := "d95ed73a7e7101ea80c78e0b3c60ae77e03fba423e0052847f9a255ed215629f", func := "sigil/sigillaw13.SheetGates", spec := "sheetGates", inPlace := ["math/bits.Sub64", "math/bits.Add64"], unfollowed := true, recurses := true, named := ["math/bits.divideError", "math/bits.overflowError"], plainKeys := false, apart := false, narrowed := true }
def SheetGatesUptoSaid : Prop := sheetGatesUptoRow.holds Try.pinned (OpenSpec.upto sheetGatesSpec)

end Rows
end Go.Proofs.Ytlmjdcbhpffanaa
