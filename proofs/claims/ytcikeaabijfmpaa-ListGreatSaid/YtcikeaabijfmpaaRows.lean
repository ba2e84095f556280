/-
  No cell of these rows narrows 'for every input' (looked for: loops, veiled, ifaces, maps, wideKeys, modest, calm, conditions, laid).
  DERIVED. THE GIVEN ROWS OF THIS SEAT. 9 by the template 'for every input the law returns true; each argument reads behind the call as it read before'; 0 by the template 'total and deterministic' (their statements: YtcikeaabijfmpaaTotals.lean).
  GIVEN WITH THE SEED: the statements are not yours to turn. If you find one false, say at which input.
  Laid BY PROGRAM, IN A SANDBOX (cutbox-rows.mjs): the forced cells as the released guide's own fill.sh prints them over the translation a151010d0fc788f5… (all of the seat's roots in one cut). By AI agents, Wed Nov 11 2026. No macro, syntax, notation, axiom, sorry.
-/
import Derived.Test.YtcikeaabijfmpaaChecked
import GoSem.Claim
import GoSem.ClaimJoined
import GoSem.ClaimMapViews
import Derived.JoinedTies
import Derived.KernelRfl
namespace Go.Proofs.Ytcikeaabijfmpaa
/- THE CELL 'sum', in the pinned program and in every row, IS THE sha256 OF THE DUMP (.gsa) THAT YtcikeaabijfmpaaProg.lean LOADS. Nothing in Lean hashes anything: it is a label: what it is worth is what the hold of that sum in a sandbox is worth. -/
noncomputable def Try.pinned : Pinned := { name := "ytcikeaabijfmpaa", sum := "a151010d0fc788f52dfd40b296e5f8b095dda815b85aba0f1e4cb93eb89f1353", checked := Try.checked }
namespace Rows
def none {H : Type} : Left H := { results := [], args := [] }

/-- 'dreylaw07.SinkPrints': WHATEVER THE INPUT: true; the input reads as it did. -/
def sinkPrintsSpec : ChangeSpec := { name := "sinkPrints", fn := fun _ => fun
  | [d1, d2] => { results := [.lit (.bool true)], args := [d1, d2] }
  | _ => none }
def sinkPrintsRow : OpenClaim := { program := "ytcikeaabijfmpaa", sum := "a151010d0fc788f52dfd40b296e5f8b095dda815b85aba0f1e4cb93eb89f1353", func := "drey/dreylaw07.SinkPrints", spec := "sinkPrints", inPlace := ["internal/bytealg.IndexByteString"], apart := false }
def SinkPrintsSaid : Prop := sinkPrintsRow.holds Try.pinned (OpenSpec.ofChange sinkPrintsSpec)

/-- ITS FALSE NEIGHBOUR: 'it returns false'. Refute it at one input. -/
def sinkPrintsWrong : ChangeSpec := { name := "sinkPrints", fn := fun _ => fun
  | [d1, d2] => { results := [.lit (.bool false)], args := [d1, d2] }
  | _ => none }
def SinkPrintsWrongFalsely : Prop := sinkPrintsRow.holds Try.pinned (OpenSpec.ofChange sinkPrintsWrong)

/-- 'dreylaw07.SinkReads': WHATEVER THE INPUT: true; the input reads as it did. -/
def sinkReadsSpec : ChangeSpec := { name := "sinkReads", fn := fun _ => fun
  | [d1, d2] => { results := [.lit (.bool true)], args := [d1, d2] }
  | _ => none }
def sinkReadsRow : OpenClaim := { program := "ytcikeaabijfmpaa", sum := "a151010d0fc788f52dfd40b296e5f8b095dda815b85aba0f1e4cb93eb89f1353", func := "drey/dreylaw07.SinkReads", spec := "sinkReads", inPlace := ["internal/bytealg.IndexByteString"], apart := false }
def SinkReadsSaid : Prop := sinkReadsRow.holds Try.pinned (OpenSpec.ofChange sinkReadsSpec)

/-- ITS FALSE NEIGHBOUR: 'it returns false'. Refute it at one input. -/
def sinkReadsWrong : ChangeSpec := { name := "sinkReads", fn := fun _ => fun
  | [d1, d2] => { results := [.lit (.bool false)], args := [d1, d2] }
  | _ => none }
def SinkReadsWrongFalsely : Prop := sinkReadsRow.holds Try.pinned (OpenSpec.ofChange sinkReadsWrong)

/-- 'dreylaw07.SinkParts': WHATEVER THE INPUT: true; the input reads as it did. -/
def sinkPartsSpec : ChangeSpec := { name := "sinkParts", fn := fun _ => fun
  | [d] => { results := [.lit (.bool true)], args := [d] }
  | _ => none }
def sinkPartsRow : OpenClaim := { program := "ytcikeaabijfmpaa", sum := "a151010d0fc788f52dfd40b296e5f8b095dda815b85aba0f1e4cb93eb89f1353", func := "drey/dreylaw07.SinkParts", spec := "sinkParts", inPlace := ["internal/bytealg.IndexByteString", "internal/bytealg.IndexString"], named := ["internal/bytealg.MaxLen"], apart := false }
def SinkPartsSaid : Prop := sinkPartsRow.holds Try.pinned (OpenSpec.ofChange sinkPartsSpec)

/-- ITS FALSE NEIGHBOUR: 'it returns false'. Refute it at one input. -/
def sinkPartsWrong : ChangeSpec := { name := "sinkParts", fn := fun _ => fun
  | [d] => { results := [.lit (.bool false)], args := [d] }
  | _ => none }
def SinkPartsWrongFalsely : Prop := sinkPartsRow.holds Try.pinned (OpenSpec.ofChange sinkPartsWrong)

/-- 'dreylaw04.ListSlices': WHATEVER THE INPUT: true; the input reads as it did. -/
def listSlicesSpec : ChangeSpec := { name := "listSlices", fn := fun _ => fun
  | [d1, d2, d3] => { results := [.lit (.bool true)], args := [d1, d2, d3] }
  | _ => none }
def listSlicesRow : OpenClaim := { program := "ytcikeaabijfmpaa", sum := "a151010d0fc788f52dfd40b296e5f8b095dda815b85aba0f1e4cb93eb89f1353", func := "drey/dreylaw04.ListSlices", spec := "listSlices", inPlace := ["slices.overlaps[drey/api.Value]"], apart := false }
def ListSlicesSaid : Prop := listSlicesRow.holds Try.pinned (OpenSpec.ofChange listSlicesSpec)

/-- ITS FALSE NEIGHBOUR: 'it returns false'. Refute it at one input. -/
def listSlicesWrong : ChangeSpec := { name := "listSlices", fn := fun _ => fun
  | [d1, d2, d3] => { results := [.lit (.bool false)], args := [d1, d2, d3] }
  | _ => none }
def ListSlicesWrongFalsely : Prop := listSlicesRow.holds Try.pinned (OpenSpec.ofChange listSlicesWrong)

/-- 'dreylaw07.SinkLines': WHATEVER THE INPUT: true; the input reads as it did. -/
def sinkLinesSpec : ChangeSpec := { name := "sinkLines", fn := fun _ => fun
  | [d] => { results := [.lit (.bool true)], args := [d] }
  | _ => none }
def sinkLinesRow : OpenClaim := { program := "ytcikeaabijfmpaa", sum := "a151010d0fc788f52dfd40b296e5f8b095dda815b85aba0f1e4cb93eb89f1353", func := "drey/dreylaw07.SinkLines", spec := "sinkLines", inPlace := ["internal/bytealg.IndexByteString", "internal/bytealg.IndexString"], named := ["internal/bytealg.MaxLen"], apart := false }
def SinkLinesSaid : Prop := sinkLinesRow.holds Try.pinned (OpenSpec.ofChange sinkLinesSpec)

/-- ITS FALSE NEIGHBOUR: 'it returns false'. Refute it at one input. -/
def sinkLinesWrong : ChangeSpec := { name := "sinkLines", fn := fun _ => fun
  | [d] => { results := [.lit (.bool false)], args := [d] }
  | _ => none }
def SinkLinesWrongFalsely : Prop := sinkLinesRow.holds Try.pinned (OpenSpec.ofChange sinkLinesWrong)

/-- 'dreylaw04.ListGreat': WHATEVER THE INPUT: true; the input reads as it did. -/
def listGreatSpec : ChangeSpec := { name := "listGreat", fn := fun _ => fun
  | [d] => { results := [.lit (.bool true)], args := [d] }
  | _ => none }
def listGreatRow : OpenClaim := { program := "ytcikeaabijfmpaa", sum := "a151010d0fc788f52dfd40b296e5f8b095dda815b85aba0f1e4cb93eb89f1353", func := "drey/dreylaw04.ListGreat", spec := "listGreat", inPlace := ["slices.overlaps[drey/api.Value]"], apart := false }
def ListGreatSaid : Prop := listGreatRow.holds Try.pinned (OpenSpec.ofChange listGreatSpec)

/-- ITS FALSE NEIGHBOUR: 'it returns false'. Refute it at one input. -/
def listGreatWrong : ChangeSpec := { name := "listGreat", fn := fun _ => fun
  | [d] => { results := [.lit (.bool false)], args := [d] }
  | _ => none }
def ListGreatWrongFalsely : Prop := listGreatRow.holds Try.pinned (OpenSpec.ofChange listGreatWrong)

/-- 'dreylaw04.ListFinds': WHATEVER THE INPUT: true; the input reads as it did. -/
def listFindsSpec : ChangeSpec := { name := "listFinds", fn := fun _ => fun
  | [d1, d2] => { results := [.lit (.bool true)], args := [d1, d2] }
  | _ => none }
def listFindsRow : OpenClaim := { program := "ytcikeaabijfmpaa", sum := "a151010d0fc788f52dfd40b296e5f8b095dda815b85aba0f1e4cb93eb89f1353", func := "drey/dreylaw04.ListFinds", spec := "listFinds", inPlace := ["slices.overlaps[drey/api.Value]"], apart := false }
def ListFindsSaid : Prop := listFindsRow.holds Try.pinned (OpenSpec.ofChange listFindsSpec)

/-- ITS FALSE NEIGHBOUR: 'it returns false'. Refute it at one input. -/
def listFindsWrong : ChangeSpec := { name := "listFinds", fn := fun _ => fun
  | [d1, d2] => { results := [.lit (.bool false)], args := [d1, d2] }
  | _ => none }
def ListFindsWrongFalsely : Prop := listFindsRow.holds Try.pinned (OpenSpec.ofChange listFindsWrong)

/-- 'dreylaw04.ListPlays': WHATEVER THE INPUT: true; the input reads as it did. -/
def listPlaysSpec : ChangeSpec := { name := "listPlays", fn := fun _ => fun
  | [d] => { results := [.lit (.bool true)], args := [d] }
  | _ => none }
def listPlaysRow : OpenClaim := { program := "ytcikeaabijfmpaa", sum := "a151010d0fc788f52dfd40b296e5f8b095dda815b85aba0f1e4cb93eb89f1353", func := "drey/dreylaw04.ListPlays", spec := "listPlays", inPlace := ["slices.overlaps[drey/api.Value]"], apart := false }
def ListPlaysSaid : Prop := listPlaysRow.holds Try.pinned (OpenSpec.ofChange listPlaysSpec)

/-- ITS FALSE NEIGHBOUR: 'it returns false'. Refute it at one input. -/
def listPlaysWrong : ChangeSpec := { name := "listPlays", fn := fun _ => fun
  | [d] => { results := [.lit (.bool false)], args := [d] }
  | _ => none }
def ListPlaysWrongFalsely : Prop := listPlaysRow.holds Try.pinned (OpenSpec.ofChange listPlaysWrong)

/-- 'dreylaw07.SinkBuilds': WHATEVER THE INPUT: true; the input reads as it did. -/
def sinkBuildsSpec : ChangeSpec := { name := "sinkBuilds", fn := fun _ => fun
  | [d1, d2] => { results := [.lit (.bool true)], args := [d1, d2] }
  | _ => none }
def sinkBuildsRow : OpenClaim := { program := "ytcikeaabijfmpaa", sum := "a151010d0fc788f52dfd40b296e5f8b095dda815b85aba0f1e4cb93eb89f1353", func := "drey/dreylaw07.SinkBuilds", spec := "sinkBuilds", inPlace := ["internal/bytealg.IndexByteString", "internal/abi.NoEscape", "internal/bytealg.MakeNoZero"], apart := false }
def SinkBuildsSaid : Prop := sinkBuildsRow.holds Try.pinned (OpenSpec.ofChange sinkBuildsSpec)

/-- ITS FALSE NEIGHBOUR: 'it returns false'. Refute it at one input. -/
def sinkBuildsWrong : ChangeSpec := { name := "sinkBuilds", fn := fun _ => fun
  | [d1, d2] => { results := [.lit (.bool false)], args := [d1, d2] }
  | _ => none }
def SinkBuildsWrongFalsely : Prop := sinkBuildsRow.holds Try.pinned (OpenSpec.ofChange sinkBuildsWrong)

/- THE SECOND FORM. 'bulk': how many values and letters a reading holds, each counted each time it is reached (what is shared counts as often as it is met; a slice's spare places count too). A statement '..UptoSaid' is the law's where the arguments, and the package variables that the reading takes, are together of bulk at most 1048576: NARROWER than '..Said'. Prove '..Said' where nothing that the law and all that it calls make is longer than what came in: it says more and counts as full. Else prove '..UptoSaid'. A law counts once. -/
mutual
def uptoBulk {H : Type} : DataW H → Nat
  | .lit (.string bytes) => bytes.length + 1
  | .lit _ => 1
  | .nil => 1
  | .ptr d => uptoBulk d + 1
  | .slice elems spare => uptoBulkAll elems + uptoBulkAll spare + 1
  | .agg parts => uptoBulkAll parts + 1
  | .iface _ d => uptoBulk d + 1
  | .map entries => uptoBulkEntries entries + 1
  | .held _ => 1
def uptoBulkAll {H : Type} : List (DataW H) → Nat
  | [] => 0
  | d :: r => uptoBulk d + uptoBulkAll r
def uptoBulkEntries {H : Type} : List (Lit × DataW H) → Nat
  | [] => 0
  | x :: r => uptoBulkEntry x + uptoBulkEntries r
def uptoBulkEntry {H : Type} : Lit × DataW H → Nat
  | (.string bytes, d) => bytes.length + uptoBulk d + 1
  | (_, d) => uptoBulk d + 1
 end
def uptoSmall : (H : Type) → List (DataW H) → Bool := fun _ ds => decide (uptoBulkAll ds ≤ 1048576)
def OpenSpec.upto (s : _root_.Go.ChangeSpec) : _root_.Go.OpenSpec := { _root_.Go.OpenSpec.ofChange s with cond := some uptoSmall }

/-- 'dreylaw07.SinkPrints', WHERE WHAT IT READS IS OF BULK AT MOST 1048576: true; the input reads as it did. -/
def sinkPrintsUptoRow : OpenClaim := { program := "ytcikeaabijfmpaa", sum := "a151010d0fc788f52dfd40b296e5f8b095dda815b85aba0f1e4cb93eb89f1353", func := "drey/dreylaw07.SinkPrints", spec := "sinkPrints", inPlace := ["internal/bytealg.IndexByteString"], apart := false, narrowed := true }
def SinkPrintsUptoSaid : Prop := sinkPrintsUptoRow.holds Try.pinned (OpenSpec.upto sinkPrintsSpec)

/-- 'dreylaw07.SinkReads', WHERE WHAT IT READS IS OF BULK AT MOST 1048576: true; the input reads as it did. -/
def sinkReadsUptoRow : OpenClaim := { program := "ytcikeaabijfmpaa", sum := "a151010d0fc788f52dfd40b296e5f8b095dda815b85aba0f1e4cb93eb89f1353", func := "drey/dreylaw07.SinkReads", spec := "sinkReads", inPlace := ["internal/bytealg.IndexByteString"], apart := false, narrowed := true }
def SinkReadsUptoSaid : Prop := sinkReadsUptoRow.holds Try.pinned (OpenSpec.upto sinkReadsSpec)

/-- 'dreylaw07.SinkParts', WHERE WHAT IT READS IS OF BULK AT MOST 1048576: true; the input reads as it did. -/
def sinkPartsUptoRow : OpenClaim := { program := "ytcikeaabijfmpaa", sum := "a151010d0fc788f52dfd40b296e5f8b095dda815b85aba0f1e4cb93eb89f1353", func := "drey/dreylaw07.SinkParts", spec := "sinkParts", inPlace := ["internal/bytealg.IndexByteString", "internal/bytealg.IndexString"], named := ["internal/bytealg.MaxLen"], apart := false, narrowed := true }
def SinkPartsUptoSaid : Prop := sinkPartsUptoRow.holds Try.pinned (OpenSpec.upto sinkPartsSpec)

/-- 'dreylaw04.ListSlices', WHERE WHAT IT READS IS OF BULK AT MOST 1048576: true; the input reads as it did. -/
def listSlicesUptoRow : OpenClaim := { program := "ytcikeaabijfmpaa", sum := "a151010d0fc788f52dfd40b296e5f8b095dda815b85aba0f1e4cb93eb89f1353", func := "drey/dreylaw04.ListSlices", spec := "listSlices", inPlace := ["slices.overlaps[drey/api.Value]"], apart := false, narrowed := true }
def ListSlicesUptoSaid : Prop := listSlicesUptoRow.holds Try.pinned (OpenSpec.upto listSlicesSpec)

/-- 'dreylaw07.SinkLines', WHERE WHAT IT READS IS OF BULK AT MOST 1048576: true; the input reads as it did. -/
def sinkLinesUptoRow : OpenClaim := { program := "ytcikeaabijfmpaa", sum := "a151010d0fc788f52dfd40b296e5f8b095dda815b85aba0f1e4cb93eb89f1353", func := "drey/dreylaw07.SinkLines", spec := "sinkLines", inPlace := ["internal/bytealg.IndexByteString", "internal/bytealg.IndexString"], named := ["internal/bytealg.MaxLen"], apart := false, narrowed := true }
def SinkLinesUptoSaid : Prop := sinkLinesUptoRow.holds Try.pinned (OpenSpec.upto sinkLinesSpec)

/-- 'dreylaw04.ListGreat', WHERE WHAT IT READS IS OF BULK AT MOST 1048576: true; the input reads as it did. -/
def listGreatUptoRow : OpenClaim := { program := "ytcikeaabijfmpaa", sum := "a151010d0fc788f52dfd40b296e5f8b095dda815b85aba0f1e4cb93eb89f1353", func := "drey/dreylaw04.ListGreat", spec := "listGreat", inPlace := ["slices.overlaps[drey/api.Value]"], apart := false, narrowed := true }
def ListGreatUptoSaid : Prop := listGreatUptoRow.holds Try.pinned (OpenSpec.upto listGreatSpec)

/-- 'dreylaw04.ListFinds', WHERE WHAT IT READS IS OF BULK AT MOST 1048576: true; the input reads as it did. -/
def listFindsUptoRow : OpenClaim := { program := "ytcikeaabijfmpaa", sum := "a151010d0fc788f52dfd40b296e5f8b095dda815b85aba0f1e4cb93eb89f1353", func := "drey/dreylaw04.ListFinds", spec := "listFinds", inPlace := ["slices.overlaps[drey/api.Value]"], apart := false, narrowed := true }
def ListFindsUptoSaid : Prop := listFindsUptoRow.holds Try.pinned (OpenSpec.upto listFindsSpec)

/-- 'dreylaw04.ListPlays', WHERE WHAT IT READS IS OF BULK AT MOST 1048576: true; the input reads as it did. -/
def listPlaysUptoRow : OpenClaim := { program := "ytcikeaabijfmpaa", sum := "a151010d0fc788f52dfd40b296e5f8b095dda815b85aba0f1e4cb93eb89f1353", func := "drey/dreylaw04.ListPlays", spec := "listPlays", inPlace := ["slices.overlaps[drey/api.Value]"], apart := false, narrowed := true }
def ListPlaysUptoSaid : Prop := listPlaysUptoRow.holds Try.pinned (OpenSpec.upto listPlaysSpec)

/-- 'dreylaw07.SinkBuilds', WHERE WHAT IT READS IS OF BULK AT MOST 1048576: true; the input reads as it did. -/
def sinkBuildsUptoRow : OpenClaim := { program := "ytcikeaabijfmpaa", sum := "a151010d0fc788f52dfd40b296e5f8b095dda815b85aba0f1e4cb93eb89f1353", func := "drey/dreylaw07.SinkBuilds", spec := "sinkBuilds", inPlace := ["internal/bytealg.IndexByteString", "internal/abi.NoEscape", "internal/bytealg.MakeNoZero"], apart := false, narrowed := true }
def SinkBuildsUptoSaid : Prop := sinkBuildsUptoRow.holds Try.pinned (OpenSpec.upto sinkBuildsSpec)

end Rows
end Go.Proofs.Ytcikeaabijfmpaa
