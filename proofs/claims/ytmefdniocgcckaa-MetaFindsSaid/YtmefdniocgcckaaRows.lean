/-
  No cell of these rows narrows 'for every input' (looked for: loops, veiled, ifaces, maps, wideKeys, modest, calm, conditions, laid).
  DERIVED. THE GIVEN ROWS OF THIS SEAT. 3 by the template 'for every input the law returns true; each argument reads behind the call as it read before'; 0 by the template 'total and deterministic' (their statements: YtmefdniocgcckaaTotals.lean).
  GIVEN WITH THE SEED: the statements are not yours to turn. If you find one false, say at which input.
  Laid BY PROGRAM, IN A SANDBOX (cutbox-rows.mjs): the forced cells as the released guide's own fill.sh prints them over the translation f7f982efe5aac8b2… (all of the seat's roots in one cut). By AI agents, Wed Nov 11 2026. No macro, syntax, notation, axiom, sorry.
-/
import Derived.Test.YtmefdniocgcckaaChecked
import GoSem.Claim
import GoSem.ClaimJoined
import GoSem.ClaimMapViews
import Derived.JoinedTies
import Derived.KernelRfl
namespace Go.Proofs.Ytmefdniocgcckaa
/- THE CELL 'sum', in the pinned program and in every row, IS THE sha256 OF THE DUMP (.gsa) THAT YtmefdniocgcckaaProg.lean LOADS. Nothing in Lean hashes anything: it is a label: what it is worth is what the hold of that sum in a sandbox is worth. -/
noncomputable def Try.pinned : Pinned := { name := "ytmefdniocgcckaa", sum := "f7f982efe5aac8b2784d243693de9d7bbc9aacb2d7fe86275fcaa489d6aaac7c", checked := Try.checked }
namespace Rows
def none {H : Type} : Left H := { results := [], args := [] }

/-- 'dreylaw18.MetaTexts': WHATEVER THE INPUT: true; the input reads as it did. -/
def metaTextsSpec : ChangeSpec := { name := "metaTexts", fn := fun _ => fun
  | [d] => { results := [.lit (.bool true)], args := [d] }
  | _ => none }
def metaTextsRow : OpenClaim := { program := "ytmefdniocgcckaa", sum := "f7f982efe5aac8b2784d243693de9d7bbc9aacb2d7fe86275fcaa489d6aaac7c", func := "drey/dreylaw18.MetaTexts", spec := "metaTexts", inPlace := ["internal/abi.NoEscape", "internal/bytealg.MakeNoZero"], unfollowed := true, recurses := true, apart := false }
def MetaTextsSaid : Prop := metaTextsRow.holds Try.pinned (OpenSpec.ofChange metaTextsSpec)

/-- ITS FALSE NEIGHBOUR: 'it returns false'. Refute it at one input. -/
def metaTextsWrong : ChangeSpec := { name := "metaTexts", fn := fun _ => fun
  | [d] => { results := [.lit (.bool false)], args := [d] }
  | _ => none }
def MetaTextsWrongFalsely : Prop := metaTextsRow.holds Try.pinned (OpenSpec.ofChange metaTextsWrong)

/-- 'dreylaw18.MetaFinds': WHATEVER THE INPUT: true; the input reads as it did. -/
def metaFindsSpec : ChangeSpec := { name := "metaFinds", fn := fun _ => fun
  | [d1, d2, d3] => { results := [.lit (.bool true)], args := [d1, d2, d3] }
  | _ => none }
def metaFindsRow : OpenClaim := { program := "ytmefdniocgcckaa", sum := "f7f982efe5aac8b2784d243693de9d7bbc9aacb2d7fe86275fcaa489d6aaac7c", func := "drey/dreylaw18.MetaFinds", spec := "metaFinds", inPlace := ["internal/abi.NoEscape", "internal/bytealg.MakeNoZero"], unfollowed := true, recurses := true, apart := false }
def MetaFindsSaid : Prop := metaFindsRow.holds Try.pinned (OpenSpec.ofChange metaFindsSpec)

/-- ITS FALSE NEIGHBOUR: 'it returns false'. Refute it at one input. -/
def metaFindsWrong : ChangeSpec := { name := "metaFinds", fn := fun _ => fun
  | [d1, d2, d3] => { results := [.lit (.bool false)], args := [d1, d2, d3] }
  | _ => none }
def MetaFindsWrongFalsely : Prop := metaFindsRow.holds Try.pinned (OpenSpec.ofChange metaFindsWrong)

/-- 'dreylaw18.MetaArith': WHATEVER THE INPUT: true; the input reads as it did. -/
def metaArithSpec : ChangeSpec := { name := "metaArith", fn := fun _ => fun
  | [d1, d2, d3] => { results := [.lit (.bool true)], args := [d1, d2, d3] }
  | _ => none }
def metaArithRow : OpenClaim := { program := "ytmefdniocgcckaa", sum := "f7f982efe5aac8b2784d243693de9d7bbc9aacb2d7fe86275fcaa489d6aaac7c", func := "drey/dreylaw18.MetaArith", spec := "metaArith", inPlace := ["internal/abi.NoEscape", "internal/bytealg.MakeNoZero"], unfollowed := true, recurses := true, apart := false }
def MetaArithSaid : Prop := metaArithRow.holds Try.pinned (OpenSpec.ofChange metaArithSpec)

/-- ITS FALSE NEIGHBOUR: 'it returns false'. Refute it at one input. -/
def metaArithWrong : ChangeSpec := { name := "metaArith", fn := fun _ => fun
  | [d1, d2, d3] => { results := [.lit (.bool false)], args := [d1, d2, d3] }
  | _ => none }
def MetaArithWrongFalsely : Prop := metaArithRow.holds Try.pinned (OpenSpec.ofChange metaArithWrong)

/- THE SECOND FORM. 'bulk': how many values and letters a reading holds, each counted each time it is reached (what is shared counts as often as it is met; a slice's spare places count too). A statement '..UptoSaid' is the law's where the arguments, and the package variables that the reading takes, are together of bulk at most 1048576: NARROWER than '..Said'. Prove '..Said' where nothing that the law and all that it calls make is longer than what came in: it says more and counts as full. Else prove '..UptoSaid'. A law counts once. -/
mutual
def uptoBulk {H : Type} : DataW H → Nat
  | .lit (.string bytes) => bytes.length + 1
  | .lit _ => 1
  | .nil => 1
  | .ptr d => uptoBulk d + 1
  | .slice elems spare => uptoBulkAll elems + uptoBulkAll spare + 1
  | .agg parts => uptoBulkAll parts + 1
  | .iface _ d => uptoBulk d + 1
  | .map entries => uptoBulkEntries entries + 1
  | .held _ => 1
def uptoBulkAll {H : Type} : List (DataW H) → Nat
  | [] => 0
  | d :: r => uptoBulk d + uptoBulkAll r
def uptoBulkEntries {H : Type} : List (Lit × DataW H) → Nat
  | [] => 0
  | x :: r => uptoBulkEntry x + uptoBulkEntries r
def uptoBulkEntry {H : Type} : Lit × DataW H → Nat
  | (.string bytes, d) => bytes.length + uptoBulk d + 1
  | (_, d) => uptoBulk d + 1
 end
def uptoSmall : (H : Type) → List (DataW H) → Bool := fun _ ds => decide (uptoBulkAll ds ≤ 1048576)
def OpenSpec.upto (s : _root_.Go.ChangeSpec) : _root_.Go.OpenSpec := { _root_.Go.OpenSpec.ofChange s with cond := some uptoSmall }

/-- 'dreylaw18.MetaTexts', WHERE WHAT IT READS IS OF BULK AT MOST 1048576: true; the input reads as it did. -/
def metaTextsUptoRow : OpenClaim := { program := "ytmefdniocgcckaa", sum := "f7f982efe5aac8b2784d243693de9d7bbc9aacb2d7fe86275fcaa489d6aaac7c", func := "drey/dreylaw18.MetaTexts", spec := "metaTexts", inPlace := ["internal/abi.NoEscape", "internal/bytealg.MakeNoZero"], unfollowed := true, recurses := true, apart := false, narrowed := true }
def MetaTextsUptoSaid : Prop := metaTextsUptoRow.holds Try.pinned (OpenSpec.upto metaTextsSpec)

/-- 'dreylaw18.MetaFinds', WHERE WHAT IT READS IS OF BULK AT MOST 1048576: true; the input reads as it did. -/
def metaFindsUptoRow : OpenClaim := { program := "ytmefdniocgcckaa", sum := "f7f982efe5aac8b2784d243693de9d7bbc9aacb2d7fe86275fcaa489d6aaac7c", func := "drey/dreylaw18.MetaFinds", spec := "metaFinds", inPlace := ["internal/abi.NoEscape", "internal/bytealg.MakeNoZero"], unfollowed := true, recurses := true, apart := false, narrowed := true }
def MetaFindsUptoSaid : Prop := metaFindsUptoRow.holds Try.pinned (OpenSpec.upto metaFindsSpec)

/-- 'dreylaw18.MetaArith', WHERE WHAT IT READS IS OF BULK AT MOST 1048576: true; the input reads as it did. -/
def metaArithUptoRow : OpenClaim := { program := "ytmefdniocgcckaa", sum := "f7f982efe5aac8b2784d243693de9d7bbc9aacb2d7fe86275fcaa489d6aaac7c", func := "drey/dreylaw18.MetaArith", spec := "metaArith", inPlace := ["internal/abi.NoEscape", "internal/bytealg.MakeNoZero"], unfollowed := true, recurses := true, apart := false, narrowed := true }
def MetaArithUptoSaid : Prop := metaArithUptoRow.holds Try.pinned (OpenSpec.upto metaArithSpec)

end Rows
end Go.Proofs.Ytmefdniocgcckaa
