/-
  No cell of these rows narrows 'for every input' (looked for: loops, veiled, ifaces, maps, wideKeys, modest, calm, conditions, laid).
  DERIVED. THE GIVEN ROWS OF THIS SEAT. 3 by the template 'for every input the law returns true; each argument reads behind the call as it read before'; 0 by the template 'total and deterministic' (their statements: YtlmjdcbhpffanaaGreatTotals.lean).
  GIVEN WITH THE SEED: the statements are not yours to turn. If you find one false, say at which input.
  Laid BY PROGRAM, IN A SANDBOX (cutbox-rows.mjs): the forced cells as the released guide's own fill.sh prints them over the translation 0768ad8f5d1fd60c… (all of the seat's roots in one cut). By AI agents, Wed Nov 11 2026. No macro, syntax, notation, axiom, sorry.
-/
import Derived.Test.YtlmjdcbhpffanaaGreatChecked
import GoSem.Claim
import GoSem.ClaimJoined
import GoSem.ClaimMapViews
import Derived.JoinedTies
import Derived.KernelRfl
namespace Go.Proofs.YtlmjdcbhpffanaaGreat
/- THE CELL 'sum', in the pinned program and in every row, IS THE sha256 OF THE DUMP (.gsa) THAT YtlmjdcbhpffanaaGreatProg.lean LOADS. Nothing in Lean hashes anything: it is a label: what it is worth is what the hold of that sum in a sandbox is worth. -/
noncomputable def Tryz.pinned : Pinned := { name := "ytlmjdcbhpffanaagreat", sum := "0768ad8f5d1fd60cfdde7e6e5bc4509de8950258df4c2c1bb61173b75eb94ba6", checked := Tryz.checked }
namespace Rows
def none {H : Type} : Left H := { results := [], args := [] }

/-- 'sigillaw14.RegionLayouts': WHATEVER THE INPUT: true; the input reads as it did. -/
def regionLayoutsSpec : ChangeSpec := { name := "regionLayouts", fn := fun _ => fun
  | [d1, d2, d3] => { results := [.lit (.bool true)], args := [d1, d2, d3] }
  | _ => none }
def regionLayoutsRow : OpenClaim := { program := "ytlmjdcbhpffanaagreat", sum := "0768ad8f5d1fd60cfdde7e6e5bc4509de8950258df4c2c1bb61173b75eb94ba6", func := "sigil/sigillaw14.RegionLayouts", spec := "regionLayouts", unfollowed := true, recurses := true, plainKeys := false, apart := false }
def RegionLayoutsSaid : Prop := regionLayoutsRow.holds Tryz.pinned (OpenSpec.ofChange regionLayoutsSpec)

/-- ITS FALSE NEIGHBOUR: 'it returns false'. Refute it at one input. -/
def regionLayoutsWrong : ChangeSpec := { name := "regionLayouts", fn := fun _ => fun
  | [d1, d2, d3] => { results := [.lit (.bool false)], args := [d1, d2, d3] }
  | _ => none }
def RegionLayoutsWrongFalsely : Prop := regionLayoutsRow.holds Tryz.pinned (OpenSpec.ofChange regionLayoutsWrong)

/-- 'sigillaw13.SheetFits': WHATEVER THE INPUT: true; the input reads as it did. -/
def sheetFitsSpec : ChangeSpec := { name := "sheetFits", fn := fun _ => fun
  | [d1, d2, d3, d4, d5, d6] => { results := [.lit (.bool true)], args := [d1, d2, d3, d4, d5, d6] }
  | _ => none }
def sheetFitsRow : OpenClaim := { program := "ytlmjdcbhpffanaagreat", sum := "0768ad8f5d1fd60cfdde7e6e5bc4509de8950258df4c2c1bb61173b75eb94ba6", func := "sigil/sigillaw13.SheetFits", spec := "sheetFits", inPlace := ["math/bits.Sub64", "math/bits.Add64"], unfollowed := true, recurses := true, named := ["math/bits.divideError", "math/bits.overflowError"], plainKeys := false, apart := false }
def SheetFitsSaid : Prop := sheetFitsRow.holds Tryz.pinned (OpenSpec.ofChange sheetFitsSpec)

/-- ITS FALSE NEIGHBOUR: 'it returns false'. Refute it at one input. -/
def sheetFitsWrong : ChangeSpec := { name := "sheetFits", fn := fun _ => fun
  | [d1, d2, d3, d4, d5, d6] => { results := [.lit (.bool false)], args := [d1, d2, d3, d4, d5, d6] }
  | _ => none }
def SheetFitsWrongFalsely : Prop := sheetFitsRow.holds Tryz.pinned (OpenSpec.ofChange sheetFitsWrong)

/-- 'sigillaw13.SheetFaults': WHATEVER THE INPUT: true; the input reads as it did. -/
def sheetFaultsSpec : ChangeSpec := { name := "sheetFaults", fn := fun _ => fun
  | [d1, d2, d3, d4, d5] => { results := [.lit (.bool true)], args := [d1, d2, d3, d4, d5] }
  | _ => none }
def sheetFaultsRow : OpenClaim := { program := "ytlmjdcbhpffanaagreat", sum := "0768ad8f5d1fd60cfdde7e6e5bc4509de8950258df4c2c1bb61173b75eb94ba6", func := "sigil/sigillaw13.SheetFaults", spec := "sheetFaults", inPlace := ["math/bits.Sub64", "math/bits.Add64"], unfollowed := true, recurses := true, named := ["math/bits.divideError", "math/bits.overflowError"], plainKeys := false, apart := false }
def SheetFaultsSaid : Prop := sheetFaultsRow.holds Tryz.pinned (OpenSpec.ofChange sheetFaultsSpec)

/-- ITS FALSE NEIGHBOUR: 'it returns false'. Refute it at one input. -/
def sheetFaultsWrong : ChangeSpec := { name := "sheetFaults", fn := fun _ => fun
  | [d1, d2, d3, d4, d5] => { results := [.lit (.bool false)], args := [d1, d2, d3, d4, d5] }
  | _ => none }
def SheetFaultsWrongFalsely : Prop := sheetFaultsRow.holds Tryz.pinned (OpenSpec.ofChange sheetFaultsWrong)

/- THE SECOND FORM. 'bulk': how many values and letters a reading holds, each counted each time it is reached (what is shared counts as often as it is met; a slice's spare places count too). A statement '..UptoSaid' is the law's where the arguments, and the package variables that the reading takes, are together of bulk at most 1048576: NARROWER than '..Said'. Prove '..Said' where nothing that the law and all that it calls make is longer than what came in: it says more and counts as full. Else prove '..UptoSaid'. A law counts once. -/
mutual
def uptoBulk {H : Type} : DataW H → Nat
  | .lit (.string bytes) => bytes.length + 1
  | .lit _ => 1
  | .nil => 1
  | .ptr d => uptoBulk d + 1
  | .slice elems spare => uptoBulkAll elems + uptoBulkAll spare + 1
  | .agg parts => uptoBulkAll parts + 1
  | .iface _ d => uptoBulk d + 1
  | .map entries => uptoBulkEntries entries + 1
  | .held _ => 1
def uptoBulkAll {H : Type} : List (DataW H) → Nat
  | [] => 0
  | d :: r => uptoBulk d + uptoBulkAll r
def uptoBulkEntries {H : Type} : List (Lit × DataW H) → Nat
  | [] => 0
  | x :: r => uptoBulkEntry x + uptoBulkEntries r
def uptoBulkEntry {H : Type} : Lit × DataW H → Nat
  | (.string bytes, d) => bytes.length + uptoBulk d + 1
  | (_, d) => uptoBulk d + 1
 end
def uptoSmall : (H : Type) → List (DataW H) → Bool := fun _ ds => decide (uptoBulkAll ds ≤ 1048576)
def OpenSpec.upto (s : _root_.Go.ChangeSpec) : _root_.Go.OpenSpec := { _root_.Go.OpenSpec.ofChange s with cond := some uptoSmall }

/-- 'sigillaw14.RegionLayouts', WHERE WHAT IT READS IS OF BULK AT MOST 1048576: true; the input reads as it did. -/
def regionLayoutsUptoRow : OpenClaim := { program := "ytlmjdcbhpffanaagreat", sum := "0768ad8f5d1fd60cfdde7e6e5bc4509de8950258df4c2c1bb61173b75eb94ba6", func := "sigil/sigillaw14.RegionLayouts", spec := "regionLayouts", unfollowed := true, recurses := true, plainKeys := false, apart := false, narrowed := true }
def RegionLayoutsUptoSaid : Prop := regionLayoutsUptoRow.holds Tryz.pinned (OpenSpec.upto regionLayoutsSpec)

/-- 'sigillaw13.SheetFits', WHERE WHAT IT READS IS OF BULK AT MOST 1048576: true; the input reads as it did. -/
def sheetFitsUptoRow : OpenClaim := { program := "ytlmjdcbhpffanaagreat", sum := "0768ad8f5d1fd60cfdde7e6e5bc4509de8950258df4c2c1bb61173b75eb94ba6", func := "sigil/sigillaw13.SheetFits", spec := "sheetFits", inPlace := ["math/bits.Sub64", "math/bits.Add64"], unfollowed := true, recurses := true, named := ["math/bits.divideError", "math/bits.overflowError"], plainKeys := false, apart := false, narrowed := true }
def SheetFitsUptoSaid : Prop := sheetFitsUptoRow.holds Tryz.pinned (OpenSpec.upto sheetFitsSpec)

/-- 'sigillaw13.SheetFaults', WHERE WHAT IT READS IS OF BULK AT MOST 1048576: true; the input reads as it did. -/
def sheetFaultsUptoRow : OpenClaim := { program := "ytlmjdcbhpffanaagreat", sum := "0768ad8f5d1fd60cfdde7e6e5bc4509de8950258df4c2c1bb61173b75eb94ba6", func := "sigil/sigillaw13.SheetFaults", spec := "sheetFaults", inPlace := ["math/bits.Sub64", "math/bits.Add64"], unfollowed := true, recurses := true, named := ["math/bits.divideError", "math/bits.overflowError"], plainKeys := false, apart := false, narrowed := true }
def SheetFaultsUptoSaid : Prop := sheetFaultsUptoRow.holds Tryz.pinned (OpenSpec.upto sheetFaultsSpec)

end Rows
end Go.Proofs.YtlmjdcbhpffanaaGreat
