/-
  No cell of these rows narrows 'for every input' (looked for: loops, veiled, ifaces, maps, wideKeys, modest, calm, conditions, laid).
  DERIVED. THE GIVEN ROWS OF THIS SEAT. 8 by the template 'for every input the law returns true; each argument reads behind the call as it read before'; 0 by the template 'total and deterministic' (their statements: YtcipmpamhffclaaTotals.lean).
  GIVEN WITH THE SEED: the statements are not yours to turn. If you find one false, say at which input.
  Laid BY PROGRAM, IN A SANDBOX (cutbox-rows.mjs): the forced cells as the released guide's own fill.sh prints them over the translation 8783dbd6d5c2c70b… (all of the seat's roots in one cut). By AI agents, Wed Nov 11 2026. No macro, syntax, notation, axiom, sorry.
-/
import Derived.Test.YtcipmpamhffclaaChecked
import GoSem.Claim
import GoSem.ClaimJoined
import GoSem.ClaimMapViews
import Derived.JoinedTies
import Derived.KernelRfl
namespace Go.Proofs.Ytcipmpamhffclaa
/- THE CELL 'sum', in the pinned program and in every row, IS THE sha256 OF THE DUMP (.gsa) THAT YtcipmpamhffclaaProg.lean LOADS. Nothing in Lean hashes anything: it is a label: what it is worth is what the hold of that sum in a sandbox is worth. -/
noncomputable def Try.pinned : Pinned := { name := "ytcipmpamhffclaa", sum := "8783dbd6d5c2c70b41e72aaa23d00b9713bed9f40163b539bf9f73d7d62bc68c", checked := Try.checked }
namespace Rows
def none {H : Type} : Left H := { results := [], args := [] }

/-- 'sigillaw01.WordSums': WHATEVER THE INPUT: true; the input reads as it did. -/
def wordSumsSpec : ChangeSpec := { name := "wordSums", fn := fun _ => fun
  | [d1, d2] => { results := [.lit (.bool true)], args := [d1, d2] }
  | _ => none }
def wordSumsRow : OpenClaim := { program := "ytcipmpamhffclaa", sum := "8783dbd6d5c2c70b41e72aaa23d00b9713bed9f40163b539bf9f73d7d62bc68c", func := "sigil/sigillaw01.WordSums", spec := "wordSums", inPlace := ["math/bits.Sub64", "math/bits.Add64"], apart := false }
def WordSumsSaid : Prop := wordSumsRow.holds Try.pinned (OpenSpec.ofChange wordSumsSpec)

/-- ITS FALSE NEIGHBOUR: 'it returns false'. Refute it at one input. -/
def wordSumsWrong : ChangeSpec := { name := "wordSums", fn := fun _ => fun
  | [d1, d2] => { results := [.lit (.bool false)], args := [d1, d2] }
  | _ => none }
def WordSumsWrongFalsely : Prop := wordSumsRow.holds Try.pinned (OpenSpec.ofChange wordSumsWrong)

/-- 'sigillaw01.WordProducts': WHATEVER THE INPUT: true; the input reads as it did. -/
def wordProductsSpec : ChangeSpec := { name := "wordProducts", fn := fun _ => fun
  | [d1, d2, d3] => { results := [.lit (.bool true)], args := [d1, d2, d3] }
  | _ => none }
def wordProductsRow : OpenClaim := { program := "ytcipmpamhffclaa", sum := "8783dbd6d5c2c70b41e72aaa23d00b9713bed9f40163b539bf9f73d7d62bc68c", func := "sigil/sigillaw01.WordProducts", spec := "wordProducts", inPlace := ["math/bits.Sub64", "math/bits.Add64"], apart := false }
def WordProductsSaid : Prop := wordProductsRow.holds Try.pinned (OpenSpec.ofChange wordProductsSpec)

/-- ITS FALSE NEIGHBOUR: 'it returns false'. Refute it at one input. -/
def wordProductsWrong : ChangeSpec := { name := "wordProducts", fn := fun _ => fun
  | [d1, d2, d3] => { results := [.lit (.bool false)], args := [d1, d2, d3] }
  | _ => none }
def WordProductsWrongFalsely : Prop := wordProductsRow.holds Try.pinned (OpenSpec.ofChange wordProductsWrong)

/-- 'sigillaw01.WordSplits': WHATEVER THE INPUT: true; the input reads as it did. -/
def wordSplitsSpec : ChangeSpec := { name := "wordSplits", fn := fun _ => fun
  | [d1, d2, d3, d4] => { results := [.lit (.bool true)], args := [d1, d2, d3, d4] }
  | _ => none }
def wordSplitsRow : OpenClaim := { program := "ytcipmpamhffclaa", sum := "8783dbd6d5c2c70b41e72aaa23d00b9713bed9f40163b539bf9f73d7d62bc68c", func := "sigil/sigillaw01.WordSplits", spec := "wordSplits", inPlace := ["math/bits.Sub64", "math/bits.Add64"], apart := false }
def WordSplitsSaid : Prop := wordSplitsRow.holds Try.pinned (OpenSpec.ofChange wordSplitsSpec)

/-- ITS FALSE NEIGHBOUR: 'it returns false'. Refute it at one input. -/
def wordSplitsWrong : ChangeSpec := { name := "wordSplits", fn := fun _ => fun
  | [d1, d2, d3, d4] => { results := [.lit (.bool false)], args := [d1, d2, d3, d4] }
  | _ => none }
def WordSplitsWrongFalsely : Prop := wordSplitsRow.holds Try.pinned (OpenSpec.ofChange wordSplitsWrong)

/-- 'sigillaw01.WordTurns': WHATEVER THE INPUT: true; the input reads as it did. -/
def wordTurnsSpec : ChangeSpec := { name := "wordTurns", fn := fun _ => fun
  | [d1, d2] => { results := [.lit (.bool true)], args := [d1, d2] }
  | _ => none }
def wordTurnsRow : OpenClaim := { program := "ytcipmpamhffclaa", sum := "8783dbd6d5c2c70b41e72aaa23d00b9713bed9f40163b539bf9f73d7d62bc68c", func := "sigil/sigillaw01.WordTurns", spec := "wordTurns", inPlace := ["math/bits.Sub64", "math/bits.Add64"], apart := false }
def WordTurnsSaid : Prop := wordTurnsRow.holds Try.pinned (OpenSpec.ofChange wordTurnsSpec)

/-- ITS FALSE NEIGHBOUR: 'it returns false'. Refute it at one input. -/
def wordTurnsWrong : ChangeSpec := { name := "wordTurns", fn := fun _ => fun
  | [d1, d2] => { results := [.lit (.bool false)], args := [d1, d2] }
  | _ => none }
def WordTurnsWrongFalsely : Prop := wordTurnsRow.holds Try.pinned (OpenSpec.ofChange wordTurnsWrong)

/-- 'sigillaw01.WordNames': WHATEVER THE INPUT: true; the input reads as it did. -/
def wordNamesSpec : ChangeSpec := { name := "wordNames", fn := fun _ => fun
  | [] => { results := [.lit (.bool true)], args := [] }
  | _ => none }
def wordNamesRow : OpenClaim := { program := "ytcipmpamhffclaa", sum := "8783dbd6d5c2c70b41e72aaa23d00b9713bed9f40163b539bf9f73d7d62bc68c", func := "sigil/sigillaw01.WordNames", spec := "wordNames", inPlace := ["math/bits.Add64"], apart := false }
def WordNamesSaid : Prop := wordNamesRow.holds Try.pinned (OpenSpec.ofChange wordNamesSpec)

/-- ITS FALSE NEIGHBOUR: 'it returns false'. Refute it at one input. -/
def wordNamesWrong : ChangeSpec := { name := "wordNames", fn := fun _ => fun
  | [] => { results := [.lit (.bool false)], args := [] }
  | _ => none }
def WordNamesWrongFalsely : Prop := wordNamesRow.holds Try.pinned (OpenSpec.ofChange wordNamesWrong)

/-- 'sigillaw01.WordParses': WHATEVER THE INPUT: true; the input reads as it did. -/
def wordParsesSpec : ChangeSpec := { name := "wordParses", fn := fun _ => fun
  | [d] => { results := [.lit (.bool true)], args := [d] }
  | _ => none }
def wordParsesRow : OpenClaim := { program := "ytcipmpamhffclaa", sum := "8783dbd6d5c2c70b41e72aaa23d00b9713bed9f40163b539bf9f73d7d62bc68c", func := "sigil/sigillaw01.WordParses", spec := "wordParses", inPlace := ["math/bits.Add64"], apart := false }
def WordParsesSaid : Prop := wordParsesRow.holds Try.pinned (OpenSpec.ofChange wordParsesSpec)

/-- ITS FALSE NEIGHBOUR: 'it returns false'. Refute it at one input. -/
def wordParsesWrong : ChangeSpec := { name := "wordParses", fn := fun _ => fun
  | [d] => { results := [.lit (.bool false)], args := [d] }
  | _ => none }
def WordParsesWrongFalsely : Prop := wordParsesRow.holds Try.pinned (OpenSpec.ofChange wordParsesWrong)

/-- 'sigillaw01.WordTexts': WHATEVER THE INPUT: true; the input reads as it did. -/
def wordTextsSpec : ChangeSpec := { name := "wordTexts", fn := fun _ => fun
  | [d1, d2] => { results := [.lit (.bool true)], args := [d1, d2] }
  | _ => none }
def wordTextsRow : OpenClaim := { program := "ytcipmpamhffclaa", sum := "8783dbd6d5c2c70b41e72aaa23d00b9713bed9f40163b539bf9f73d7d62bc68c", func := "sigil/sigillaw01.WordTexts", spec := "wordTexts", inPlace := ["math/bits.Sub64"], named := ["math/bits.divideError", "math/bits.overflowError"], apart := false }
def WordTextsSaid : Prop := wordTextsRow.holds Try.pinned (OpenSpec.ofChange wordTextsSpec)

/-- ITS FALSE NEIGHBOUR: 'it returns false'. Refute it at one input. -/
def wordTextsWrong : ChangeSpec := { name := "wordTexts", fn := fun _ => fun
  | [d1, d2] => { results := [.lit (.bool false)], args := [d1, d2] }
  | _ => none }
def WordTextsWrongFalsely : Prop := wordTextsRow.holds Try.pinned (OpenSpec.ofChange wordTextsWrong)

/-- 'sigillaw01.WordRound': WHATEVER THE INPUT: true; the input reads as it did. -/
def wordRoundSpec : ChangeSpec := { name := "wordRound", fn := fun _ => fun
  | [d] => { results := [.lit (.bool true)], args := [d] }
  | _ => none }
def wordRoundRow : OpenClaim := { program := "ytcipmpamhffclaa", sum := "8783dbd6d5c2c70b41e72aaa23d00b9713bed9f40163b539bf9f73d7d62bc68c", func := "sigil/sigillaw01.WordRound", spec := "wordRound", inPlace := ["math/bits.Sub64", "math/bits.Add64"], named := ["math/bits.divideError", "math/bits.overflowError"], apart := false }
def WordRoundSaid : Prop := wordRoundRow.holds Try.pinned (OpenSpec.ofChange wordRoundSpec)

/-- ITS FALSE NEIGHBOUR: 'it returns false'. Refute it at one input. -/
def wordRoundWrong : ChangeSpec := { name := "wordRound", fn := fun _ => fun
  | [d] => { results := [.lit (.bool false)], args := [d] }
  | _ => none }
def WordRoundWrongFalsely : Prop := wordRoundRow.holds Try.pinned (OpenSpec.ofChange wordRoundWrong)

/- THE SECOND FORM. 'bulk': how many values and letters a reading holds, each counted each time it is reached (what is shared counts as often as it is met; a slice's spare places count too). A statement '..UptoSaid' is the law's where the arguments, and the package variables that the reading takes, are together of bulk at most 1048576: NARROWER than '..Said'. Prove '..Said' where nothing that the law and all that it calls make is longer than what came in: it says more and counts as full. Else prove '..UptoSaid'. A law counts once. -/
mutual
def uptoBulk {H : Type} : DataW H → Nat
  | .lit (.string bytes) => bytes.length + 1
  | .lit _ => 1
  | .nil => 1
  | .ptr d => uptoBulk d + 1
  | .slice elems spare => uptoBulkAll elems + uptoBulkAll spare + 1
  | .agg parts => uptoBulkAll parts + 1
  | .iface _ d => uptoBulk d + 1
  | .map entries => uptoBulkEntries entries + 1
  | .held _ => 1
def uptoBulkAll {H : Type} : List (DataW H) → Nat
  | [] => 0
  | d :: r => uptoBulk d + uptoBulkAll r
def uptoBulkEntries {H : Type} : List (Lit × DataW H) → Nat
  | [] => 0
  | x :: r => uptoBulkEntry x + uptoBulkEntries r
def uptoBulkEntry {H : Type} : Lit × DataW H → Nat
  | (.string bytes, d) => bytes.length + uptoBulk d + 1
  | (_, d) => uptoBulk d + 1
 end
def uptoSmall : (H : Type) → List (DataW H) → Bool := fun _ ds => decide (uptoBulkAll ds ≤ 1048576)
def OpenSpec.upto (s : _root_.Go.ChangeSpec) : _root_.Go.OpenSpec := { _root_.Go.OpenSpec.ofChange s with cond := some uptoSmall }

/-- 'sigillaw01.WordSums', WHERE WHAT IT READS IS OF BULK AT MOST 1048576: true; the input reads as it did. -/
def wordSumsUptoRow : OpenClaim := { program := "ytcipmpamhffclaa", sum := "8783dbd6d5c2c70b41e72aaa23d00b9713bed9f40163b539bf9f73d7d62bc68c", func := "sigil/sigillaw01.WordSums", spec := "wordSums", inPlace := ["math/bits.Sub64", "math/bits.Add64"], apart := false, narrowed := true }
def WordSumsUptoSaid : Prop := wordSumsUptoRow.holds Try.pinned (OpenSpec.upto wordSumsSpec)

/-- 'sigillaw01.WordProducts', WHERE WHAT IT READS IS OF BULK AT MOST 1048576: true; the input reads as it did. -/
def wordProductsUptoRow : OpenClaim := { program := "ytcipmpamhffclaa", sum := "8783dbd6d5c2c70b41e72aaa23d00b9713bed9f40163b539bf9f73d7d62bc68c", func := "sigil/sigillaw01.WordProducts", spec := "wordProducts", inPlace := ["math/bits.Sub64", "math/bits.Add64"], apart := false, narrowed := true }
def WordProductsUptoSaid : Prop := wordProductsUptoRow.holds Try.pinned (OpenSpec.upto wordProductsSpec)

/-- 'sigillaw01.WordSplits', WHERE WHAT IT READS IS OF BULK AT MOST 1048576: true; the input reads as it did. -/
def wordSplitsUptoRow : OpenClaim := { program := "ytcipmpamhffclaa", sum := "8783dbd6d5c2c70b41e72aaa23d00b9713bed9f40163b539bf9f73d7d62bc68c", func := "sigil/sigillaw01.WordSplits", spec := "wordSplits", inPlace := ["math/bits.Sub64", "math/bits.Add64"], apart := false, narrowed := true }
def WordSplitsUptoSaid : Prop := wordSplitsUptoRow.holds Try.pinned (OpenSpec.upto wordSplitsSpec)

/-- 'sigillaw01.WordTurns', WHERE WHAT IT READS IS OF BULK AT MOST 1048576: true; the input reads as it did. -/
def wordTurnsUptoRow : OpenClaim := { program := "ytcipmpamhffclaa", sum := "8783dbd6d5c2c70b41e72aaa23d00b9713bed9f40163b539bf9f73d7d62bc68c", func := "sigil/sigillaw01.WordTurns", spec := "wordTurns", inPlace := ["math/bits.Sub64", "math/bits.Add64"], apart := false, narrowed := true }
def WordTurnsUptoSaid : Prop := wordTurnsUptoRow.holds Try.pinned (OpenSpec.upto wordTurnsSpec)

/-- 'sigillaw01.WordNames', WHERE WHAT IT READS IS OF BULK AT MOST 1048576: true; the input reads as it did. -/
def wordNamesUptoRow : OpenClaim := { program := "ytcipmpamhffclaa", sum := "8783dbd6d5c2c70b41e72aaa23d00b9713bed9f40163b539bf9f73d7d62bc68c", func := "sigil/sigillaw01.WordNames", spec := "wordNames", inPlace := ["math/bits.Add64"], apart := false, narrowed := true }
def WordNamesUptoSaid : Prop := wordNamesUptoRow.holds Try.pinned (OpenSpec.upto wordNamesSpec)

/-- 'sigillaw01.WordParses', WHERE WHAT IT READS IS OF BULK AT MOST 1048576: true; the input reads as it did. -/
def wordParsesUptoRow : OpenClaim := { program := "ytcipmpamhffclaa", sum := "8783dbd6d5c2c70b41e72aaa23d00b9713bed9f40163b539bf9f73d7d62bc68c", func := "sigil/sigillaw01.WordParses", spec := "wordParses", inPlace := ["math/bits.Add64"], apart := false, narrowed := true }
def WordParsesUptoSaid : Prop := wordParsesUptoRow.holds Try.pinned (OpenSpec.upto wordParsesSpec)

/-- 'sigillaw01.WordTexts', WHERE WHAT IT READS IS OF BULK AT MOST 1048576: true; the input reads as it did. -/
def wordTextsUptoRow : OpenClaim := { program := "ytcipmpamhffclaa", sum := "8783dbd6d5c2c70b41e72aaa23d00b9713bed9f40163b539bf9f73d7d62bc68c", func := "sigil/sigillaw01.WordTexts", spec := "wordTexts", inPlace := ["math/bits.Sub64"], named := ["math/bits.divideError", "math/bits.overflowError"], apart := false, narrowed := true }
def WordTextsUptoSaid : Prop := wordTextsUptoRow.holds Try.pinned (OpenSpec.upto wordTextsSpec)

/-- 'sigillaw01.WordRound', WHERE WHAT IT READS IS OF BULK AT MOST 1048576: true; the input reads as it did. -/
def wordRoundUptoRow : OpenClaim := { program := "ytcipmpamhffclaa", sum := "8783dbd6d5c2c70b41e72aaa23d00b9713bed9f40163b539bf9f73d7d62bc68c", func := "sigil/sigillaw01.WordRound", spec := "wordRound", inPlace := ["math/bits.Sub64", "math/bits.Add64"], named := ["math/bits.divideError", "math/bits.overflowError"], apart := false, narrowed := true }
def WordRoundUptoSaid : Prop := wordRoundUptoRow.holds Try.pinned (OpenSpec.upto wordRoundSpec)

end Rows
end Go.Proofs.Ytcipmpamhffclaa
