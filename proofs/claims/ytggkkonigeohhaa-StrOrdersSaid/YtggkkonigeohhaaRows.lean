/-
  No cell of these rows narrows 'for every input' (looked for: loops, veiled, ifaces, maps, wideKeys, modest, calm, conditions, laid).
  DERIVED. THE GIVEN ROWS OF THIS SEAT. 8 by the template 'for every input the law returns true; each argument reads behind the call as it read before'; 0 by the template 'total and deterministic' (their statements: YtggkkonigeohhaaTotals.lean).
  GIVEN WITH THE SEED: the statements are not yours to turn. If you find one false, say at which input.
  Laid BY PROGRAM, IN A SANDBOX (cutbox-rows.mjs): the forced cells as the released guide's own fill.sh prints them over the translation 247c9fff0250a59a… (all of the seat's roots in one cut). By AI agents, Wed Nov 11 2026. No macro, syntax, notation, axiom, sorry.
-/
import Derived.Test.YtggkkonigeohhaaChecked
import GoSem.Claim
import GoSem.ClaimJoined
import GoSem.ClaimMapViews
import Derived.JoinedTies
import Derived.KernelRfl
namespace Go.Proofs.Ytggkkonigeohhaa
/- THE CELL 'sum', in the pinned program and in every row, IS THE sha256 OF THE DUMP (.gsa) THAT YtggkkonigeohhaaProg.lean LOADS. Nothing in Lean hashes anything: it is a label: what it is worth is what the hold of that sum in a sandbox is worth. -/
noncomputable def Try.pinned : Pinned := { name := "ytggkkonigeohhaa", sum := "247c9fff0250a59ad627e70841fa66a7b5cfaa09cb6de90160733a14b2e3e268", checked := Try.checked }
namespace Rows
def none {H : Type} : Left H := { results := [], args := [] }

/-- 'dreylaw02.StrQuotes': WHATEVER THE INPUT: true; the input reads as it did. -/
def strQuotesSpec : ChangeSpec := { name := "strQuotes", fn := fun _ => fun
  | [d] => { results := [.lit (.bool true)], args := [d] }
  | _ => none }
def strQuotesRow : OpenClaim := { program := "ytggkkonigeohhaa", sum := "247c9fff0250a59ad627e70841fa66a7b5cfaa09cb6de90160733a14b2e3e268", func := "drey/dreylaw02.StrQuotes", spec := "strQuotes", inPlace := ["internal/abi.NoEscape", "internal/bytealg.MakeNoZero", "internal/bytealg.IndexByteString", "internal/bytealg.IndexString"], named := ["internal/bytealg.MaxLen"], apart := false }
def StrQuotesSaid : Prop := strQuotesRow.holds Try.pinned (OpenSpec.ofChange strQuotesSpec)

/-- ITS FALSE NEIGHBOUR: 'it returns false'. Refute it at one input. -/
def strQuotesWrong : ChangeSpec := { name := "strQuotes", fn := fun _ => fun
  | [d] => { results := [.lit (.bool false)], args := [d] }
  | _ => none }
def StrQuotesWrongFalsely : Prop := strQuotesRow.holds Try.pinned (OpenSpec.ofChange strQuotesWrong)

/-- 'dreylaw02.StrEscapes': WHATEVER THE INPUT: true; the input reads as it did. -/
def strEscapesSpec : ChangeSpec := { name := "strEscapes", fn := fun _ => fun
  | [d] => { results := [.lit (.bool true)], args := [d] }
  | _ => none }
def strEscapesRow : OpenClaim := { program := "ytggkkonigeohhaa", sum := "247c9fff0250a59ad627e70841fa66a7b5cfaa09cb6de90160733a14b2e3e268", func := "drey/dreylaw02.StrEscapes", spec := "strEscapes", inPlace := ["internal/abi.NoEscape", "internal/bytealg.MakeNoZero", "internal/bytealg.IndexByteString", "internal/bytealg.IndexString"], named := ["internal/bytealg.MaxLen"], apart := false }
def StrEscapesSaid : Prop := strEscapesRow.holds Try.pinned (OpenSpec.ofChange strEscapesSpec)

/-- ITS FALSE NEIGHBOUR: 'it returns false'. Refute it at one input. -/
def strEscapesWrong : ChangeSpec := { name := "strEscapes", fn := fun _ => fun
  | [d] => { results := [.lit (.bool false)], args := [d] }
  | _ => none }
def StrEscapesWrongFalsely : Prop := strEscapesRow.holds Try.pinned (OpenSpec.ofChange strEscapesWrong)

/-- 'dreylaw02.StrSlices': WHATEVER THE INPUT: true; the input reads as it did. -/
def strSlicesSpec : ChangeSpec := { name := "strSlices", fn := fun _ => fun
  | [d1, d2, d3] => { results := [.lit (.bool true)], args := [d1, d2, d3] }
  | _ => none }
def strSlicesRow : OpenClaim := { program := "ytggkkonigeohhaa", sum := "247c9fff0250a59ad627e70841fa66a7b5cfaa09cb6de90160733a14b2e3e268", func := "drey/dreylaw02.StrSlices", spec := "strSlices", inPlace := ["internal/abi.NoEscape", "internal/bytealg.MakeNoZero", "internal/bytealg.IndexByteString", "internal/bytealg.IndexString"], named := ["internal/bytealg.MaxLen"], apart := false }
def StrSlicesSaid : Prop := strSlicesRow.holds Try.pinned (OpenSpec.ofChange strSlicesSpec)

/-- ITS FALSE NEIGHBOUR: 'it returns false'. Refute it at one input. -/
def strSlicesWrong : ChangeSpec := { name := "strSlices", fn := fun _ => fun
  | [d1, d2, d3] => { results := [.lit (.bool false)], args := [d1, d2, d3] }
  | _ => none }
def StrSlicesWrongFalsely : Prop := strSlicesRow.holds Try.pinned (OpenSpec.ofChange strSlicesWrong)

/-- 'dreylaw02.StrFinds': WHATEVER THE INPUT: true; the input reads as it did. -/
def strFindsSpec : ChangeSpec := { name := "strFinds", fn := fun _ => fun
  | [d1, d2, d3] => { results := [.lit (.bool true)], args := [d1, d2, d3] }
  | _ => none }
def strFindsRow : OpenClaim := { program := "ytggkkonigeohhaa", sum := "247c9fff0250a59ad627e70841fa66a7b5cfaa09cb6de90160733a14b2e3e268", func := "drey/dreylaw02.StrFinds", spec := "strFinds", inPlace := ["internal/abi.NoEscape", "internal/bytealg.MakeNoZero", "internal/bytealg.IndexByteString", "internal/bytealg.IndexString"], named := ["internal/bytealg.MaxLen"], apart := false }
def StrFindsSaid : Prop := strFindsRow.holds Try.pinned (OpenSpec.ofChange strFindsSpec)

/-- ITS FALSE NEIGHBOUR: 'it returns false'. Refute it at one input. -/
def strFindsWrong : ChangeSpec := { name := "strFinds", fn := fun _ => fun
  | [d1, d2, d3] => { results := [.lit (.bool false)], args := [d1, d2, d3] }
  | _ => none }
def StrFindsWrongFalsely : Prop := strFindsRow.holds Try.pinned (OpenSpec.ofChange strFindsWrong)

/-- 'dreylaw02.StrLetters': WHATEVER THE INPUT: true; the input reads as it did. -/
def strLettersSpec : ChangeSpec := { name := "strLetters", fn := fun _ => fun
  | [d] => { results := [.lit (.bool true)], args := [d] }
  | _ => none }
def strLettersRow : OpenClaim := { program := "ytggkkonigeohhaa", sum := "247c9fff0250a59ad627e70841fa66a7b5cfaa09cb6de90160733a14b2e3e268", func := "drey/dreylaw02.StrLetters", spec := "strLetters", inPlace := ["internal/abi.NoEscape", "internal/bytealg.MakeNoZero", "internal/bytealg.IndexByteString", "internal/bytealg.IndexString"], named := ["internal/bytealg.MaxLen"], apart := false }
def StrLettersSaid : Prop := strLettersRow.holds Try.pinned (OpenSpec.ofChange strLettersSpec)

/-- ITS FALSE NEIGHBOUR: 'it returns false'. Refute it at one input. -/
def strLettersWrong : ChangeSpec := { name := "strLetters", fn := fun _ => fun
  | [d] => { results := [.lit (.bool false)], args := [d] }
  | _ => none }
def StrLettersWrongFalsely : Prop := strLettersRow.holds Try.pinned (OpenSpec.ofChange strLettersWrong)

/-- 'dreylaw02.StrPieces': WHATEVER THE INPUT: true; the input reads as it did. -/
def strPiecesSpec : ChangeSpec := { name := "strPieces", fn := fun _ => fun
  | [d1, d2] => { results := [.lit (.bool true)], args := [d1, d2] }
  | _ => none }
def strPiecesRow : OpenClaim := { program := "ytggkkonigeohhaa", sum := "247c9fff0250a59ad627e70841fa66a7b5cfaa09cb6de90160733a14b2e3e268", func := "drey/dreylaw02.StrPieces", spec := "strPieces", inPlace := ["internal/abi.NoEscape", "internal/bytealg.MakeNoZero", "internal/bytealg.IndexByteString", "internal/bytealg.IndexString"], named := ["internal/bytealg.MaxLen"], apart := false }
def StrPiecesSaid : Prop := strPiecesRow.holds Try.pinned (OpenSpec.ofChange strPiecesSpec)

/-- ITS FALSE NEIGHBOUR: 'it returns false'. Refute it at one input. -/
def strPiecesWrong : ChangeSpec := { name := "strPieces", fn := fun _ => fun
  | [d1, d2] => { results := [.lit (.bool false)], args := [d1, d2] }
  | _ => none }
def StrPiecesWrongFalsely : Prop := strPiecesRow.holds Try.pinned (OpenSpec.ofChange strPiecesWrong)

/-- 'dreylaw02.StrNames': WHATEVER THE INPUT: true; the input reads as it did. -/
def strNamesSpec : ChangeSpec := { name := "strNames", fn := fun _ => fun
  | [d] => { results := [.lit (.bool true)], args := [d] }
  | _ => none }
def strNamesRow : OpenClaim := { program := "ytggkkonigeohhaa", sum := "247c9fff0250a59ad627e70841fa66a7b5cfaa09cb6de90160733a14b2e3e268", func := "drey/dreylaw02.StrNames", spec := "strNames", inPlace := ["internal/abi.NoEscape", "internal/bytealg.MakeNoZero", "internal/bytealg.IndexByteString", "internal/bytealg.IndexString"], named := ["internal/bytealg.MaxLen"], apart := false }
def StrNamesSaid : Prop := strNamesRow.holds Try.pinned (OpenSpec.ofChange strNamesSpec)

/-- ITS FALSE NEIGHBOUR: 'it returns false'. Refute it at one input. -/
def strNamesWrong : ChangeSpec := { name := "strNames", fn := fun _ => fun
  | [d] => { results := [.lit (.bool false)], args := [d] }
  | _ => none }
def StrNamesWrongFalsely : Prop := strNamesRow.holds Try.pinned (OpenSpec.ofChange strNamesWrong)

/-- 'dreylaw02.StrOrders': WHATEVER THE INPUT: true; the input reads as it did. -/
def strOrdersSpec : ChangeSpec := { name := "strOrders", fn := fun _ => fun
  | [d1, d2] => { results := [.lit (.bool true)], args := [d1, d2] }
  | _ => none }
def strOrdersRow : OpenClaim := { program := "ytggkkonigeohhaa", sum := "247c9fff0250a59ad627e70841fa66a7b5cfaa09cb6de90160733a14b2e3e268", func := "drey/dreylaw02.StrOrders", spec := "strOrders", inPlace := ["internal/abi.NoEscape", "internal/bytealg.MakeNoZero", "internal/bytealg.IndexByteString", "internal/bytealg.IndexString"], named := ["internal/bytealg.MaxLen"], apart := false }
def StrOrdersSaid : Prop := strOrdersRow.holds Try.pinned (OpenSpec.ofChange strOrdersSpec)

/-- ITS FALSE NEIGHBOUR: 'it returns false'. Refute it at one input. -/
def strOrdersWrong : ChangeSpec := { name := "strOrders", fn := fun _ => fun
  | [d1, d2] => { results := [.lit (.bool false)], args := [d1, d2] }
  | _ => none }
def StrOrdersWrongFalsely : Prop := strOrdersRow.holds Try.pinned (OpenSpec.ofChange strOrdersWrong)

/- THE SECOND FORM. 'bulk': how many values and letters a reading holds, each counted each time it is reached (what is shared counts as often as it is met; a slice's spare places count too). A statement '..UptoSaid' is the law's where the arguments, and the package variables that the reading takes, are together of bulk at most 1048576: NARROWER than '..Said'. Prove '..Said' where nothing that the law and all that it calls make is longer than what came in: it says more and counts as full. Else prove '..UptoSaid'. A law counts once. -/
mutual
def uptoBulk {H : Type} : DataW H → Nat
  | .lit (.string bytes) => bytes.length + 1
  | .lit _ => 1
  | .nil => 1
  | .ptr d => uptoBulk d + 1
  | .slice elems spare => uptoBulkAll elems + uptoBulkAll spare + 1
  | .agg parts => uptoBulkAll parts + 1
  | .iface _ d => uptoBulk d + 1
  | .map entries => uptoBulkEntries entries + 1
  | .held _ => 1
def uptoBulkAll {H : Type} : List (DataW H) → Nat
  | [] => 0
  | d :: r => uptoBulk d + uptoBulkAll r
def uptoBulkEntries {H : Type} : List (Lit × DataW H) → Nat
  | [] => 0
  | x :: r => uptoBulkEntry x + uptoBulkEntries r
def uptoBulkEntry {H : Type} : Lit × DataW H → Nat
  | (.string bytes, d) => bytes.length + uptoBulk d + 1
  | (_, d) => uptoBulk d + 1
 end
def uptoSmall : (H : Type) → List (DataW H) → Bool := fun _ ds => decide (uptoBulkAll ds ≤ 1048576)
def OpenSpec.upto (s : _root_.Go.ChangeSpec) : _root_.Go.OpenSpec := { _root_.Go.OpenSpec.ofChange s with cond := some uptoSmall }

/-- 'dreylaw02.StrQuotes', WHERE WHAT IT READS IS OF BULK AT MOST 1048576: true; the input reads as it did. -/
def strQuotesUptoRow : OpenClaim := { program := "ytggkkonigeohhaa", sum := "247c9fff0250a59ad627e70841fa66a7b5cfaa09cb6de90160733a14b2e3e268", func := "drey/dreylaw02.StrQuotes", spec := "strQuotes", inPlace := ["internal/abi.NoEscape", "internal/bytealg.MakeNoZero", "internal/bytealg.IndexByteString", "internal/bytealg.IndexString"], named := ["internal/bytealg.MaxLen"], apart := false, narrowed := true }
def StrQuotesUptoSaid : Prop := strQuotesUptoRow.holds Try.pinned (OpenSpec.upto strQuotesSpec)

/-- 'dreylaw02.StrEscapes', WHERE WHAT IT READS IS OF BULK AT MOST 1048576: true; the input reads as it did. -/
def strEscapesUptoRow : OpenClaim := { program := "ytggkkonigeohhaa", sum := "247c9fff0250a59ad627e70841fa66a7b5cfaa09cb6de90160733a14b2e3e268", func := "drey/dreylaw02.StrEscapes", spec := "strEscapes", inPlace := ["internal/abi.NoEscape", "internal/bytealg.MakeNoZero", "internal/bytealg.IndexByteString", "internal/bytealg.IndexString"], named := ["internal/bytealg.MaxLen"], apart := false, narrowed := true }
def StrEscapesUptoSaid : Prop := strEscapesUptoRow.holds Try.pinned (OpenSpec.upto strEscapesSpec)

/-- 'dreylaw02.StrSlices', WHERE WHAT IT READS IS OF BULK AT MOST 1048576: true; the input reads as it did. -/
def strSlicesUptoRow : OpenClaim := { program := "ytggkkonigeohhaa", sum := "247c9fff0250a59ad627e70841fa66a7b5cfaa09cb6de90160733a14b2e3e268", func := "drey/dreylaw02.StrSlices", spec := "strSlices", inPlace := ["internal/abi.NoEscape", "internal/bytealg.MakeNoZero", "internal/bytealg.IndexByteString", "internal/bytealg.IndexString"], named := ["internal/bytealg.MaxLen"], apart := false, narrowed := true }
def StrSlicesUptoSaid : Prop := strSlicesUptoRow.holds Try.pinned (OpenSpec.upto strSlicesSpec)

/-- 'dreylaw02.StrFinds', WHERE WHAT IT READS IS OF BULK AT MOST 1048576: true; the input reads as it did. -/
def strFindsUptoRow : OpenClaim := { program := "ytggkkonigeohhaa", sum := "247c9fff0250a59ad627e70841fa66a7b5cfaa09cb6de90160733a14b2e3e268", func := "drey/dreylaw02.StrFinds", spec := "strFinds", inPlace := ["internal/abi.NoEscape", "internal/bytealg.MakeNoZero", "internal/bytealg.IndexByteString", "internal/bytealg.IndexString"], named := ["internal/bytealg.MaxLen"], apart := false, narrowed := true }
def StrFindsUptoSaid : Prop := strFindsUptoRow.holds Try.pinned (OpenSpec.upto strFindsSpec)

/-- 'dreylaw02.StrLetters', WHERE WHAT IT READS IS OF BULK AT MOST 1048576: true; the input reads as it did. -/
def strLettersUptoRow : OpenClaim := { program := "ytggkkonigeohhaa", sum := "247c9fff0250a59ad627e70841fa66a7b5cfaa09cb6de90160733a14b2e3e268", func := "drey/dreylaw02.StrLetters", spec := "strLetters", inPlace := ["internal/abi.NoEscape", "internal/bytealg.MakeNoZero", "internal/bytealg.IndexByteString", "internal/bytealg.IndexString"], named := ["internal/bytealg.MaxLen"], apart := false, narrowed := true }
def StrLettersUptoSaid : Prop := strLettersUptoRow.holds Try.pinned (OpenSpec.upto strLettersSpec)

/-- 'dreylaw02.StrPieces', WHERE WHAT IT READS IS OF BULK AT MOST 1048576: true; the input reads as it did. -/
def strPiecesUptoRow : OpenClaim := { program := "ytggkkonigeohhaa", sum := "247c9fff0250a59ad627e70841fa66a7b5cfaa09cb6de90160733a14b2e3e268", func := "drey/dreylaw02.StrPieces", spec := "strPieces", inPlace := ["internal/abi.NoEscape", "internal/bytealg.MakeNoZero", "internal/bytealg.IndexByteString", "internal/bytealg.IndexString"], named := ["internal/bytealg.MaxLen"], apart := false, narrowed := true }
def StrPiecesUptoSaid : Prop := strPiecesUptoRow.holds Try.pinned (OpenSpec.upto strPiecesSpec)

/-- 'dreylaw02.StrNames', WHERE WHAT IT READS IS OF BULK AT MOST 1048576: true; the input reads as it did. -/
def strNamesUptoRow : OpenClaim := { program := "ytggkkonigeohhaa", sum := "247c9fff0250a59ad627e70841fa66a7b5cfaa09cb6de90160733a14b2e3e268", func := "drey/dreylaw02.StrNames", spec := "strNames", inPlace := ["internal/abi.NoEscape", "internal/bytealg.MakeNoZero", "internal/bytealg.IndexByteString", "internal/bytealg.IndexString"], named := ["internal/bytealg.MaxLen"], apart := false, narrowed := true }
def StrNamesUptoSaid : Prop := strNamesUptoRow.holds Try.pinned (OpenSpec.upto strNamesSpec)

/-- 'dreylaw02.StrOrders', WHERE WHAT IT READS IS OF BULK AT MOST 1048576: true; the input reads as it did. -/
def strOrdersUptoRow : OpenClaim := { program := "ytggkkonigeohhaa", sum := "247c9fff0250a59ad627e70841fa66a7b5cfaa09cb6de90160733a14b2e3e268", func := "drey/dreylaw02.StrOrders", spec := "strOrders", inPlace := ["internal/abi.NoEscape", "internal/bytealg.MakeNoZero", "internal/bytealg.IndexByteString", "internal/bytealg.IndexString"], named := ["internal/bytealg.MaxLen"], apart := false, narrowed := true }
def StrOrdersUptoSaid : Prop := strOrdersUptoRow.holds Try.pinned (OpenSpec.upto strOrdersSpec)

end Rows
end Go.Proofs.Ytggkkonigeohhaa
