/-
  NARROWER THAN 'FOR EVERY INPUT', by the rows' own cells (each row's printed sentence says how): WholeTokens: laid · LexScans: laid · LexWhole: laid · LexWords: laid · LexBack: laid · LexPairs: laid · LexGreat: laid.
  DERIVED. THE GIVEN ROWS OF THIS SEAT. 7 by the template 'for every input the law returns true; each argument reads behind the call as it read before'; 0 by the template 'total and deterministic' (their statements: YtafndbmjohhhpaaDoorTotals.lean).
  GIVEN WITH THE SEED: the statements are not yours to turn. If you find one false, say at which input.
  Laid BY PROGRAM, IN A SANDBOX (cutbox-rows.mjs): the forced cells as the released guide's own fill.sh prints them over the translation 7b700b109bd519ed… (all of the seat's roots in one cut). By AI agents, Wed Nov 11 2026. No macro, syntax, notation, axiom, sorry.
-/
import Derived.Test.YtafndbmjohhhpaaDoorChecked
import GoSem.PinnedTables
import GoSem.Claim
import GoSem.ClaimJoined
import GoSem.ClaimMapViews
import Derived.JoinedTies
import Derived.KernelRfl
namespace Go.Proofs.YtafndbmjohhhpaaDoor
/- THE CELL 'sum', in the pinned program and in every row, IS THE sha256 OF THE DUMP (.gsa) THAT YtafndbmjohhhpaaDoorProg.lean LOADS. Nothing in Lean hashes anything: it is a label: what it is worth is what the hold of that sum in a sandbox is worth. -/
noncomputable def Tryd.pinned : Pinned := { name := "ytafndbmjohhhpaadoor", sum := "7b700b109bd519edec38608d35a78600631dc52dd91c82082ac2d71f73f0d2a9", checked := Tryd.checked }
namespace Rows
def none {H : Type} : Left H := { results := [], args := [] }

/- WHAT THE LISTED PACKAGE-LEVEL VARIABLES READ AS WHEN THE CALL BEGINS. Each datum BY PROGRAM (the guide's laid-datum.mjs) off the statement by which the dump's own 'gosem.cut.vars' lays the variable. In a bare row this is a premise. The card (YtafndbmjohhhpaaDoorCards.lean) ties it to the program's text. -/
def laid_unicode_utf8_acceptRanges {H : Type} : DataW H := .agg [.agg [.lit (.int .u8 128), .lit (.int .u8 191)], .agg [.lit (.int .u8 160), .lit (.int .u8 191)], .agg [.lit (.int .u8 128), .lit (.int .u8 159)], .agg [.lit (.int .u8 144), .lit (.int .u8 191)], .agg [.lit (.int .u8 128), .lit (.int .u8 143)], .agg [.lit (.int .u8 0), .lit (.int .u8 0)], .agg [.lit (.int .u8 0), .lit (.int .u8 0)], .agg [.lit (.int .u8 0), .lit (.int .u8 0)], .agg [.lit (.int .u8 0), .lit (.int .u8 0)], .agg [.lit (.int .u8 0), .lit (.int .u8 0)], .agg [.lit (.int .u8 0), .lit (.int .u8 0)], .agg [.lit (.int .u8 0), .lit (.int .u8 0)], .agg [.lit (.int .u8 0), .lit (.int .u8 0)], .agg [.lit (.int .u8 0), .lit (.int .u8 0)], .agg [.lit (.int .u8 0), .lit (.int .u8 0)], .agg [.lit (.int .u8 0), .lit (.int .u8 0)]]
/-- One of Go's own tables, pinned by name: the form's constant. -/
def laid_unicode_utf8_first : DataW Unit := Go.Pinned.utf8First

/-- 'dreytop.WholeTokens': WHATEVER THE INPUT: true; the input reads as it did. -/
def wholeTokensSpec : ChangeSpec := { name := "wholeTokens", fn := fun _ => fun
  | [d] => { results := [.lit (.bool true)], args := [d] }
  | _ => none }
def wholeTokensRow : OpenClaim := { program := "ytafndbmjohhhpaadoor", sum := "7b700b109bd519edec38608d35a78600631dc52dd91c82082ac2d71f73f0d2a9", func := "drey/dreytop.WholeTokens", spec := "wholeTokens", inPlace := ["internal/bytealg.IndexByteString", "internal/bytealg.IndexString", "internal/bytealg.CountString", "math/bits.Add64", "internal/abi.NoEscape"], unfollowed := true, recurses := true, named := ["internal/bytealg.MaxLen", "unicode/utf8.first", "unicode/utf8.acceptRanges"], apart := false, laid := [("unicode/utf8.acceptRanges", laid_unicode_utf8_acceptRanges), ("unicode/utf8.first", laid_unicode_utf8_first)] }
def WholeTokensSaid : Prop := wholeTokensRow.holds Tryd.pinned (OpenSpec.ofChange wholeTokensSpec)

/-- ITS FALSE NEIGHBOUR: 'it returns false'. Refute it at one input. -/
def wholeTokensWrong : ChangeSpec := { name := "wholeTokens", fn := fun _ => fun
  | [d] => { results := [.lit (.bool false)], args := [d] }
  | _ => none }
def WholeTokensWrongFalsely : Prop := wholeTokensRow.holds Tryd.pinned (OpenSpec.ofChange wholeTokensWrong)

/-- 'dreylaw08.LexScans': WHATEVER THE INPUT: true; the input reads as it did. -/
def lexScansSpec : ChangeSpec := { name := "lexScans", fn := fun _ => fun
  | [d] => { results := [.lit (.bool true)], args := [d] }
  | _ => none }
def lexScansRow : OpenClaim := { program := "ytafndbmjohhhpaadoor", sum := "7b700b109bd519edec38608d35a78600631dc52dd91c82082ac2d71f73f0d2a9", func := "drey/dreylaw08.LexScans", spec := "lexScans", inPlace := ["internal/bytealg.CountString", "internal/bytealg.IndexByteString", "internal/bytealg.IndexString", "math/bits.Add64", "internal/abi.NoEscape"], unfollowed := true, recurses := true, named := ["unicode/utf8.first", "unicode/utf8.acceptRanges", "internal/bytealg.MaxLen"], apart := false, laid := [("unicode/utf8.acceptRanges", laid_unicode_utf8_acceptRanges), ("unicode/utf8.first", laid_unicode_utf8_first)] }
def LexScansSaid : Prop := lexScansRow.holds Tryd.pinned (OpenSpec.ofChange lexScansSpec)

/-- ITS FALSE NEIGHBOUR: 'it returns false'. Refute it at one input. -/
def lexScansWrong : ChangeSpec := { name := "lexScans", fn := fun _ => fun
  | [d] => { results := [.lit (.bool false)], args := [d] }
  | _ => none }
def LexScansWrongFalsely : Prop := lexScansRow.holds Tryd.pinned (OpenSpec.ofChange lexScansWrong)

/-- 'dreylaw08.LexWhole': WHATEVER THE INPUT: true; the input reads as it did. -/
def lexWholeSpec : ChangeSpec := { name := "lexWhole", fn := fun _ => fun
  | [d] => { results := [.lit (.bool true)], args := [d] }
  | _ => none }
def lexWholeRow : OpenClaim := { program := "ytafndbmjohhhpaadoor", sum := "7b700b109bd519edec38608d35a78600631dc52dd91c82082ac2d71f73f0d2a9", func := "drey/dreylaw08.LexWhole", spec := "lexWhole", inPlace := ["internal/bytealg.CountString", "internal/bytealg.IndexByteString", "internal/bytealg.IndexString", "math/bits.Add64", "internal/abi.NoEscape"], unfollowed := true, recurses := true, named := ["unicode/utf8.first", "unicode/utf8.acceptRanges", "internal/bytealg.MaxLen"], apart := false, laid := [("unicode/utf8.acceptRanges", laid_unicode_utf8_acceptRanges), ("unicode/utf8.first", laid_unicode_utf8_first)] }
def LexWholeSaid : Prop := lexWholeRow.holds Tryd.pinned (OpenSpec.ofChange lexWholeSpec)

/-- ITS FALSE NEIGHBOUR: 'it returns false'. Refute it at one input. -/
def lexWholeWrong : ChangeSpec := { name := "lexWhole", fn := fun _ => fun
  | [d] => { results := [.lit (.bool false)], args := [d] }
  | _ => none }
def LexWholeWrongFalsely : Prop := lexWholeRow.holds Tryd.pinned (OpenSpec.ofChange lexWholeWrong)

/-- 'dreylaw08.LexWords': WHATEVER THE INPUT: true; the input reads as it did. -/
def lexWordsSpec : ChangeSpec := { name := "lexWords", fn := fun _ => fun
  | [d] => { results := [.lit (.bool true)], args := [d] }
  | _ => none }
def lexWordsRow : OpenClaim := { program := "ytafndbmjohhhpaadoor", sum := "7b700b109bd519edec38608d35a78600631dc52dd91c82082ac2d71f73f0d2a9", func := "drey/dreylaw08.LexWords", spec := "lexWords", inPlace := ["internal/bytealg.CountString", "internal/bytealg.IndexByteString", "internal/bytealg.IndexString", "math/bits.Add64", "internal/abi.NoEscape"], unfollowed := true, recurses := true, named := ["unicode/utf8.first", "unicode/utf8.acceptRanges", "internal/bytealg.MaxLen"], apart := false, laid := [("unicode/utf8.acceptRanges", laid_unicode_utf8_acceptRanges), ("unicode/utf8.first", laid_unicode_utf8_first)] }
def LexWordsSaid : Prop := lexWordsRow.holds Tryd.pinned (OpenSpec.ofChange lexWordsSpec)

/-- ITS FALSE NEIGHBOUR: 'it returns false'. Refute it at one input. -/
def lexWordsWrong : ChangeSpec := { name := "lexWords", fn := fun _ => fun
  | [d] => { results := [.lit (.bool false)], args := [d] }
  | _ => none }
def LexWordsWrongFalsely : Prop := lexWordsRow.holds Tryd.pinned (OpenSpec.ofChange lexWordsWrong)

/-- 'dreylaw08.LexBack': WHATEVER THE INPUT: true; the input reads as it did. -/
def lexBackSpec : ChangeSpec := { name := "lexBack", fn := fun _ => fun
  | [d] => { results := [.lit (.bool true)], args := [d] }
  | _ => none }
def lexBackRow : OpenClaim := { program := "ytafndbmjohhhpaadoor", sum := "7b700b109bd519edec38608d35a78600631dc52dd91c82082ac2d71f73f0d2a9", func := "drey/dreylaw08.LexBack", spec := "lexBack", inPlace := ["internal/bytealg.CountString", "internal/bytealg.IndexByteString", "internal/bytealg.IndexString", "math/bits.Add64", "internal/abi.NoEscape"], unfollowed := true, recurses := true, named := ["unicode/utf8.first", "unicode/utf8.acceptRanges", "internal/bytealg.MaxLen"], apart := false, laid := [("unicode/utf8.acceptRanges", laid_unicode_utf8_acceptRanges), ("unicode/utf8.first", laid_unicode_utf8_first)] }
def LexBackSaid : Prop := lexBackRow.holds Tryd.pinned (OpenSpec.ofChange lexBackSpec)

/-- ITS FALSE NEIGHBOUR: 'it returns false'. Refute it at one input. -/
def lexBackWrong : ChangeSpec := { name := "lexBack", fn := fun _ => fun
  | [d] => { results := [.lit (.bool false)], args := [d] }
  | _ => none }
def LexBackWrongFalsely : Prop := lexBackRow.holds Tryd.pinned (OpenSpec.ofChange lexBackWrong)

/-- 'dreylaw08.LexPairs': WHATEVER THE INPUT: true; the input reads as it did. -/
def lexPairsSpec : ChangeSpec := { name := "lexPairs", fn := fun _ => fun
  | [d1, d2] => { results := [.lit (.bool true)], args := [d1, d2] }
  | _ => none }
def lexPairsRow : OpenClaim := { program := "ytafndbmjohhhpaadoor", sum := "7b700b109bd519edec38608d35a78600631dc52dd91c82082ac2d71f73f0d2a9", func := "drey/dreylaw08.LexPairs", spec := "lexPairs", inPlace := ["internal/bytealg.CountString", "internal/bytealg.IndexByteString", "internal/bytealg.IndexString", "math/bits.Add64", "internal/abi.NoEscape"], unfollowed := true, recurses := true, named := ["unicode/utf8.first", "unicode/utf8.acceptRanges", "internal/bytealg.MaxLen"], apart := false, laid := [("unicode/utf8.acceptRanges", laid_unicode_utf8_acceptRanges), ("unicode/utf8.first", laid_unicode_utf8_first)] }
def LexPairsSaid : Prop := lexPairsRow.holds Tryd.pinned (OpenSpec.ofChange lexPairsSpec)

/-- ITS FALSE NEIGHBOUR: 'it returns false'. Refute it at one input. -/
def lexPairsWrong : ChangeSpec := { name := "lexPairs", fn := fun _ => fun
  | [d1, d2] => { results := [.lit (.bool false)], args := [d1, d2] }
  | _ => none }
def LexPairsWrongFalsely : Prop := lexPairsRow.holds Tryd.pinned (OpenSpec.ofChange lexPairsWrong)

/-- 'dreylaw08.LexGreat': WHATEVER THE INPUT: true; the input reads as it did. -/
def lexGreatSpec : ChangeSpec := { name := "lexGreat", fn := fun _ => fun
  | [d] => { results := [.lit (.bool true)], args := [d] }
  | _ => none }
def lexGreatRow : OpenClaim := { program := "ytafndbmjohhhpaadoor", sum := "7b700b109bd519edec38608d35a78600631dc52dd91c82082ac2d71f73f0d2a9", func := "drey/dreylaw08.LexGreat", spec := "lexGreat", inPlace := ["internal/bytealg.CountString", "internal/bytealg.IndexByteString", "internal/bytealg.IndexString", "math/bits.Add64", "internal/abi.NoEscape", "internal/bytealg.MakeNoZero"], unfollowed := true, recurses := true, named := ["unicode/utf8.first", "unicode/utf8.acceptRanges", "internal/bytealg.MaxLen"], apart := false, laid := [("unicode/utf8.acceptRanges", laid_unicode_utf8_acceptRanges), ("unicode/utf8.first", laid_unicode_utf8_first)] }
def LexGreatSaid : Prop := lexGreatRow.holds Tryd.pinned (OpenSpec.ofChange lexGreatSpec)

/-- ITS FALSE NEIGHBOUR: 'it returns false'. Refute it at one input. -/
def lexGreatWrong : ChangeSpec := { name := "lexGreat", fn := fun _ => fun
  | [d] => { results := [.lit (.bool false)], args := [d] }
  | _ => none }
def LexGreatWrongFalsely : Prop := lexGreatRow.holds Tryd.pinned (OpenSpec.ofChange lexGreatWrong)

/- THE SECOND FORM. 'bulk': how many values and letters a reading holds, each counted each time it is reached (what is shared counts as often as it is met; a slice's spare places count too). A statement '..UptoSaid' is the law's where the arguments, and the package variables that the reading takes, are together of bulk at most 1048576: NARROWER than '..Said'. Prove '..Said' where nothing that the law and all that it calls make is longer than what came in: it says more and counts as full. Else prove '..UptoSaid'. A law counts once. -/
mutual
def uptoBulk {H : Type} : DataW H → Nat
  | .lit (.string bytes) => bytes.length + 1
  | .lit _ => 1
  | .nil => 1
  | .ptr d => uptoBulk d + 1
  | .slice elems spare => uptoBulkAll elems + uptoBulkAll spare + 1
  | .agg parts => uptoBulkAll parts + 1
  | .iface _ d => uptoBulk d + 1
  | .map entries => uptoBulkEntries entries + 1
  | .held _ => 1
def uptoBulkAll {H : Type} : List (DataW H) → Nat
  | [] => 0
  | d :: r => uptoBulk d + uptoBulkAll r
def uptoBulkEntries {H : Type} : List (Lit × DataW H) → Nat
  | [] => 0
  | x :: r => uptoBulkEntry x + uptoBulkEntries r
def uptoBulkEntry {H : Type} : Lit × DataW H → Nat
  | (.string bytes, d) => bytes.length + uptoBulk d + 1
  | (_, d) => uptoBulk d + 1
 end
def uptoSmall : (H : Type) → List (DataW H) → Bool := fun _ ds => decide (uptoBulkAll ds ≤ 1048576)
def OpenSpec.upto (s : _root_.Go.ChangeSpec) : _root_.Go.OpenSpec := { _root_.Go.OpenSpec.ofChange s with cond := some uptoSmall }

/-- 'dreytop.WholeTokens', WHERE WHAT IT READS IS OF BULK AT MOST 1048576: true; the input reads as it did. -/
def wholeTokensUptoRow : OpenClaim := { program := "ytafndbmjohhhpaadoor", sum := "7b700b109bd519edec38608d35a78600631dc52dd91c82082ac2d71f73f0d2a9", func := "drey/dreytop.WholeTokens", spec := "wholeTokens", inPlace := ["internal/bytealg.IndexByteString", "internal/bytealg.IndexString", "internal/bytealg.CountString", "math/bits.Add64", "internal/abi.NoEscape"], unfollowed := true, recurses := true, named := ["internal/bytealg.MaxLen", "unicode/utf8.first", "unicode/utf8.acceptRanges"], apart := false, laid := [("unicode/utf8.acceptRanges", laid_unicode_utf8_acceptRanges), ("unicode/utf8.first", laid_unicode_utf8_first)], narrowed := true }
def WholeTokensUptoSaid : Prop := wholeTokensUptoRow.holds Tryd.pinned (OpenSpec.upto wholeTokensSpec)

/-- 'dreylaw08.LexScans', WHERE WHAT IT READS IS OF BULK AT MOST 1048576: true; the input reads as it did. -/
def lexScansUptoRow : OpenClaim := { program := "ytafndbmjohhhpaadoor", sum := "7b700b109bd519edec38608d35a78600631dc52dd91c82082ac2d71f73f0d2a9", func := "drey/dreylaw08.LexScans", spec := "lexScans", inPlace := ["internal/bytealg.CountString", "internal/bytealg.IndexByteString", "internal/bytealg.IndexString", "math/bits.Add64", "internal/abi.NoEscape"], unfollowed := true, recurses := true, named := ["unicode/utf8.first", "unicode/utf8.acceptRanges", "internal/bytealg.MaxLen"], apart := false, laid := [("unicode/utf8.acceptRanges", laid_unicode_utf8_acceptRanges), ("unicode/utf8.first", laid_unicode_utf8_first)], narrowed := true }
def LexScansUptoSaid : Prop := lexScansUptoRow.holds Tryd.pinned (OpenSpec.upto lexScansSpec)

/-- 'dreylaw08.LexWhole', WHERE WHAT IT READS IS OF BULK AT MOST 1048576: true; the input reads as it did. -/
def lexWholeUptoRow : OpenClaim := { program := "ytafndbmjohhhpaadoor", sum := "7b700b109bd519edec38608d35a78600631dc52dd91c82082ac2d71f73f0d2a9", func := "drey/dreylaw08.LexWhole", spec := "lexWhole", inPlace := ["internal/bytealg.CountString", "internal/bytealg.IndexByteString", "internal/bytealg.IndexString", "math/bits.Add64", "internal/abi.NoEscape"], unfollowed := true, recurses := true, named := ["unicode/utf8.first", "unicode/utf8.acceptRanges", "internal/bytealg.MaxLen"], apart := false, laid := [("unicode/utf8.acceptRanges", laid_unicode_utf8_acceptRanges), ("unicode/utf8.first", laid_unicode_utf8_first)], narrowed := true }
def LexWholeUptoSaid : Prop := lexWholeUptoRow.holds Tryd.pinned (OpenSpec.upto lexWholeSpec)

/-- 'dreylaw08.LexWords', WHERE WHAT IT READS IS OF BULK AT MOST 1048576: true; the input reads as it did. -/
def lexWordsUptoRow : OpenClaim := { program := "ytafndbmjohhhpaadoor", sum := "7b700b109bd519edec38608d35a78600631dc52dd91c82082ac2d71f73f0d2a9", func := "drey/dreylaw08.LexWords", spec := "lexWords", inPlace := ["internal/bytealg.CountString", "internal/bytealg.IndexByteString", "internal/bytealg.IndexString", "math/bits.Add64", "internal/abi.NoEscape"], unfollowed := true, recurses := true, named := ["unicode/utf8.first", "unicode/utf8.acceptRanges", "internal/bytealg.MaxLen"], apart := false, laid := [("unicode/utf8.acceptRanges", laid_unicode_utf8_acceptRanges), ("unicode/utf8.first", laid_unicode_utf8_first)], narrowed := true }
def LexWordsUptoSaid : Prop := lexWordsUptoRow.holds Tryd.pinned (OpenSpec.upto lexWordsSpec)

/-- 'dreylaw08.LexBack', WHERE WHAT IT READS IS OF BULK AT MOST 1048576: true; the input reads as it did. -/
def lexBackUptoRow : OpenClaim := { program := "ytafndbmjohhhpaadoor", sum := "7b700b109bd519edec38608d35a78600631dc52dd91c82082ac2d71f73f0d2a9", func := "drey/dreylaw08.LexBack", spec := "lexBack", inPlace := ["internal/bytealg.CountString", "internal/bytealg.IndexByteString", "internal/bytealg.IndexString", "math/bits.Add64", "internal/abi.NoEscape"], unfollowed := true, recurses := true, named := ["unicode/utf8.first", "unicode/utf8.acceptRanges", "internal/bytealg.MaxLen"], apart := false, laid := [("unicode/utf8.acceptRanges", laid_unicode_utf8_acceptRanges), ("unicode/utf8.first", laid_unicode_utf8_first)], narrowed := true }
def LexBackUptoSaid : Prop := lexBackUptoRow.holds Tryd.pinned (OpenSpec.upto lexBackSpec)

/-- 'dreylaw08.LexPairs', WHERE WHAT IT READS IS OF BULK AT MOST 1048576: true; the input reads as it did. -/
def lexPairsUptoRow : OpenClaim := { program := "ytafndbmjohhhpaadoor", sum := "7b700b109bd519edec38608d35a78600631dc52dd91c82082ac2d71f73f0d2a9", func := "drey/dreylaw08.LexPairs", spec := "lexPairs", inPlace := ["internal/bytealg.CountString", "internal/bytealg.IndexByteString", "internal/bytealg.IndexString", "math/bits.Add64", "internal/abi.NoEscape"], unfollowed := true, recurses := true, named := ["unicode/utf8.first", "unicode/utf8.acceptRanges", "internal/bytealg.MaxLen"], apart := false, laid := [("unicode/utf8.acceptRanges", laid_unicode_utf8_acceptRanges), ("unicode/utf8.first", laid_unicode_utf8_first)], narrowed := true }
def LexPairsUptoSaid : Prop := lexPairsUptoRow.holds Tryd.pinned (OpenSpec.upto lexPairsSpec)

/-- 'dreylaw08.LexGreat', WHERE WHAT IT READS IS OF BULK AT MOST 1048576: true; the input reads as it did. -/
def lexGreatUptoRow : OpenClaim := { program := "ytafndbmjohhhpaadoor", sum := "7b700b109bd519edec38608d35a78600631dc52dd91c82082ac2d71f73f0d2a9", func := "drey/dreylaw08.LexGreat", spec := "lexGreat", inPlace := ["internal/bytealg.CountString", "internal/bytealg.IndexByteString", "internal/bytealg.IndexString", "math/bits.Add64", "internal/abi.NoEscape", "internal/bytealg.MakeNoZero"], unfollowed := true, recurses := true, named := ["unicode/utf8.first", "unicode/utf8.acceptRanges", "internal/bytealg.MaxLen"], apart := false, laid := [("unicode/utf8.acceptRanges", laid_unicode_utf8_acceptRanges), ("unicode/utf8.first", laid_unicode_utf8_first)], narrowed := true }
def LexGreatUptoSaid : Prop := lexGreatUptoRow.holds Tryd.pinned (OpenSpec.upto lexGreatSpec)

end Rows
end Go.Proofs.YtafndbmjohhhpaaDoor
