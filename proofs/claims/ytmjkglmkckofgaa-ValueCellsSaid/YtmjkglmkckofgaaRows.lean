/-
  No cell of these rows narrows 'for every input' (looked for: loops, veiled, ifaces, maps, wideKeys, modest, calm, conditions, laid).
  DERIVED. THE GIVEN ROWS OF THIS SEAT. 7 by the template 'for every input the law returns true; each argument reads behind the call as it read before'; 0 by the template 'total and deterministic' (their statements: YtmjkglmkckofgaaTotals.lean).
  GIVEN WITH THE SEED: the statements are not yours to turn. If you find one false, say at which input.
  Laid BY PROGRAM, IN A SANDBOX (cutbox-rows.mjs): the forced cells as the released guide's own fill.sh prints them over the translation cfc14d3e53382d9b… (all of the seat's roots in one cut). By AI agents, Wed Nov 11 2026. No macro, syntax, notation, axiom, sorry.
-/
import Derived.Test.YtmjkglmkckofgaaChecked
import GoSem.Claim
import GoSem.ClaimJoined
import GoSem.ClaimMapViews
import Derived.JoinedTies
import Derived.KernelRfl
namespace Go.Proofs.Ytmjkglmkckofgaa
/- THE CELL 'sum', in the pinned program and in every row, IS THE sha256 OF THE DUMP (.gsa) THAT YtmjkglmkckofgaaProg.lean LOADS. Nothing in Lean hashes anything: it is a label: what it is worth is what the hold of that sum in a sandbox is worth. -/
noncomputable def Try.pinned : Pinned := { name := "ytmjkglmkckofgaa", sum := "cfc14d3e53382d9b321728a5cb99e1f73d841fa47af008ef125cf6b20c5947c3", checked := Try.checked }
namespace Rows
def none {H : Type} : Left H := { results := [], args := [] }

/-- 'dreylaw03.ValueChecks': WHATEVER THE INPUT: true; the input reads as it did. -/
def valueChecksSpec : ChangeSpec := { name := "valueChecks", fn := fun _ => fun
  | [d] => { results := [.lit (.bool true)], args := [d] }
  | _ => none }
def valueChecksRow : OpenClaim := { program := "ytmjkglmkckofgaa", sum := "cfc14d3e53382d9b321728a5cb99e1f73d841fa47af008ef125cf6b20c5947c3", func := "drey/dreylaw03.ValueChecks", spec := "valueChecks", inPlace := ["internal/abi.NoEscape", "internal/bytealg.MakeNoZero"], apart := false }
def ValueChecksSaid : Prop := valueChecksRow.holds Try.pinned (OpenSpec.ofChange valueChecksSpec)

/-- ITS FALSE NEIGHBOUR: 'it returns false'. Refute it at one input. -/
def valueChecksWrong : ChangeSpec := { name := "valueChecks", fn := fun _ => fun
  | [d] => { results := [.lit (.bool false)], args := [d] }
  | _ => none }
def ValueChecksWrongFalsely : Prop := valueChecksRow.holds Try.pinned (OpenSpec.ofChange valueChecksWrong)

/-- 'dreylaw03.ValueTexts': WHATEVER THE INPUT: true; the input reads as it did. -/
def valueTextsSpec : ChangeSpec := { name := "valueTexts", fn := fun _ => fun
  | [d] => { results := [.lit (.bool true)], args := [d] }
  | _ => none }
def valueTextsRow : OpenClaim := { program := "ytmjkglmkckofgaa", sum := "cfc14d3e53382d9b321728a5cb99e1f73d841fa47af008ef125cf6b20c5947c3", func := "drey/dreylaw03.ValueTexts", spec := "valueTexts", inPlace := ["internal/abi.NoEscape", "internal/bytealg.MakeNoZero"], apart := false }
def ValueTextsSaid : Prop := valueTextsRow.holds Try.pinned (OpenSpec.ofChange valueTextsSpec)

/-- ITS FALSE NEIGHBOUR: 'it returns false'. Refute it at one input. -/
def valueTextsWrong : ChangeSpec := { name := "valueTexts", fn := fun _ => fun
  | [d] => { results := [.lit (.bool false)], args := [d] }
  | _ => none }
def ValueTextsWrongFalsely : Prop := valueTextsRow.holds Try.pinned (OpenSpec.ofChange valueTextsWrong)

/-- 'dreylaw03.ValueOrders': WHATEVER THE INPUT: true; the input reads as it did. -/
def valueOrdersSpec : ChangeSpec := { name := "valueOrders", fn := fun _ => fun
  | [d1, d2] => { results := [.lit (.bool true)], args := [d1, d2] }
  | _ => none }
def valueOrdersRow : OpenClaim := { program := "ytmjkglmkckofgaa", sum := "cfc14d3e53382d9b321728a5cb99e1f73d841fa47af008ef125cf6b20c5947c3", func := "drey/dreylaw03.ValueOrders", spec := "valueOrders", inPlace := ["internal/abi.NoEscape", "internal/bytealg.MakeNoZero"], apart := false }
def ValueOrdersSaid : Prop := valueOrdersRow.holds Try.pinned (OpenSpec.ofChange valueOrdersSpec)

/-- ITS FALSE NEIGHBOUR: 'it returns false'. Refute it at one input. -/
def valueOrdersWrong : ChangeSpec := { name := "valueOrders", fn := fun _ => fun
  | [d1, d2] => { results := [.lit (.bool false)], args := [d1, d2] }
  | _ => none }
def ValueOrdersWrongFalsely : Prop := valueOrdersRow.holds Try.pinned (OpenSpec.ofChange valueOrdersWrong)

/-- 'dreylaw03.ValueAdds': WHATEVER THE INPUT: true; the input reads as it did. -/
def valueAddsSpec : ChangeSpec := { name := "valueAdds", fn := fun _ => fun
  | [d1, d2] => { results := [.lit (.bool true)], args := [d1, d2] }
  | _ => none }
def valueAddsRow : OpenClaim := { program := "ytmjkglmkckofgaa", sum := "cfc14d3e53382d9b321728a5cb99e1f73d841fa47af008ef125cf6b20c5947c3", func := "drey/dreylaw03.ValueAdds", spec := "valueAdds", inPlace := ["internal/abi.NoEscape", "internal/bytealg.MakeNoZero"], apart := false }
def ValueAddsSaid : Prop := valueAddsRow.holds Try.pinned (OpenSpec.ofChange valueAddsSpec)

/-- ITS FALSE NEIGHBOUR: 'it returns false'. Refute it at one input. -/
def valueAddsWrong : ChangeSpec := { name := "valueAdds", fn := fun _ => fun
  | [d1, d2] => { results := [.lit (.bool false)], args := [d1, d2] }
  | _ => none }
def ValueAddsWrongFalsely : Prop := valueAddsRow.holds Try.pinned (OpenSpec.ofChange valueAddsWrong)

/-- 'dreylaw03.ValueReckons': WHATEVER THE INPUT: true; the input reads as it did. -/
def valueReckonsSpec : ChangeSpec := { name := "valueReckons", fn := fun _ => fun
  | [d1, d2, d3] => { results := [.lit (.bool true)], args := [d1, d2, d3] }
  | _ => none }
def valueReckonsRow : OpenClaim := { program := "ytmjkglmkckofgaa", sum := "cfc14d3e53382d9b321728a5cb99e1f73d841fa47af008ef125cf6b20c5947c3", func := "drey/dreylaw03.ValueReckons", spec := "valueReckons", inPlace := ["internal/abi.NoEscape", "internal/bytealg.MakeNoZero"], apart := false }
def ValueReckonsSaid : Prop := valueReckonsRow.holds Try.pinned (OpenSpec.ofChange valueReckonsSpec)

/-- ITS FALSE NEIGHBOUR: 'it returns false'. Refute it at one input. -/
def valueReckonsWrong : ChangeSpec := { name := "valueReckons", fn := fun _ => fun
  | [d1, d2, d3] => { results := [.lit (.bool false)], args := [d1, d2, d3] }
  | _ => none }
def ValueReckonsWrongFalsely : Prop := valueReckonsRow.holds Try.pinned (OpenSpec.ofChange valueReckonsWrong)

/-- 'dreylaw03.ValueCells': WHATEVER THE INPUT: true; the input reads as it did. -/
def valueCellsSpec : ChangeSpec := { name := "valueCells", fn := fun _ => fun
  | [d] => { results := [.lit (.bool true)], args := [d] }
  | _ => none }
def valueCellsRow : OpenClaim := { program := "ytmjkglmkckofgaa", sum := "cfc14d3e53382d9b321728a5cb99e1f73d841fa47af008ef125cf6b20c5947c3", func := "drey/dreylaw03.ValueCells", spec := "valueCells", inPlace := ["internal/abi.NoEscape", "internal/bytealg.MakeNoZero"], apart := false }
def ValueCellsSaid : Prop := valueCellsRow.holds Try.pinned (OpenSpec.ofChange valueCellsSpec)

/-- ITS FALSE NEIGHBOUR: 'it returns false'. Refute it at one input. -/
def valueCellsWrong : ChangeSpec := { name := "valueCells", fn := fun _ => fun
  | [d] => { results := [.lit (.bool false)], args := [d] }
  | _ => none }
def ValueCellsWrongFalsely : Prop := valueCellsRow.holds Try.pinned (OpenSpec.ofChange valueCellsWrong)

/-- 'dreylaw03.ValueSame': WHATEVER THE INPUT: true; the input reads as it did. -/
def valueSameSpec : ChangeSpec := { name := "valueSame", fn := fun _ => fun
  | [d1, d2] => { results := [.lit (.bool true)], args := [d1, d2] }
  | _ => none }
def valueSameRow : OpenClaim := { program := "ytmjkglmkckofgaa", sum := "cfc14d3e53382d9b321728a5cb99e1f73d841fa47af008ef125cf6b20c5947c3", func := "drey/dreylaw03.ValueSame", spec := "valueSame", inPlace := ["internal/abi.NoEscape", "internal/bytealg.MakeNoZero"], apart := false }
def ValueSameSaid : Prop := valueSameRow.holds Try.pinned (OpenSpec.ofChange valueSameSpec)

/-- ITS FALSE NEIGHBOUR: 'it returns false'. Refute it at one input. -/
def valueSameWrong : ChangeSpec := { name := "valueSame", fn := fun _ => fun
  | [d1, d2] => { results := [.lit (.bool false)], args := [d1, d2] }
  | _ => none }
def ValueSameWrongFalsely : Prop := valueSameRow.holds Try.pinned (OpenSpec.ofChange valueSameWrong)

/- THE SECOND FORM. 'bulk': how many values and letters a reading holds, each counted each time it is reached (what is shared counts as often as it is met; a slice's spare places count too). A statement '..UptoSaid' is the law's where the arguments, and the package variables that the reading takes, are together of bulk at most 1048576: NARROWER than '..Said'. Prove '..Said' where nothing that the law and all that it calls make is longer than what came in: it says more and counts as full. Else prove '..UptoSaid'. A law counts once. -/
mutual
def uptoBulk {H : Type} : DataW H → Nat
  | .lit (.string bytes) => bytes.length + 1
  | .lit _ => 1
  | .nil => 1
  | .ptr d => uptoBulk d + 1
  | .slice elems spare => uptoBulkAll elems + uptoBulkAll spare + 1
  | .agg parts => uptoBulkAll parts + 1
  | .iface _ d => uptoBulk d + 1
  | .map entries => uptoBulkEntries entries + 1
  | .held _ => 1
def uptoBulkAll {H : Type} : List (DataW H) → Nat
  | [] => 0
  | d :: r => uptoBulk d + uptoBulkAll r
def uptoBulkEntries {H : Type} : List (Lit × DataW H) → Nat
  | [] => 0
  | x :: r => uptoBulkEntry x + uptoBulkEntries r
def uptoBulkEntry {H : Type} : Lit × DataW H → Nat
  | (.string bytes, d) => bytes.length + uptoBulk d + 1
  | (_, d) => uptoBulk d + 1
 end
def uptoSmall : (H : Type) → List (DataW H) → Bool := fun _ ds => decide (uptoBulkAll ds ≤ 1048576)
def OpenSpec.upto (s : _root_.Go.ChangeSpec) : _root_.Go.OpenSpec := { _root_.Go.OpenSpec.ofChange s with cond := some uptoSmall }

/-- 'dreylaw03.ValueChecks', WHERE WHAT IT READS IS OF BULK AT MOST 1048576: true; the input reads as it did. -/
def valueChecksUptoRow : OpenClaim := { program := "ytmjkglmkckofgaa", sum := "cfc14d3e53382d9b321728a5cb99e1f73d841fa47af008ef125cf6b20c5947c3", func := "drey/dreylaw03.ValueChecks", spec := "valueChecks", inPlace := ["internal/abi.NoEscape", "internal/bytealg.MakeNoZero"], apart := false, narrowed := true }
def ValueChecksUptoSaid : Prop := valueChecksUptoRow.holds Try.pinned (OpenSpec.upto valueChecksSpec)

/-- 'dreylaw03.ValueTexts', WHERE WHAT IT READS IS OF BULK AT MOST 1048576: true; the input reads as it did. -/
def valueTextsUptoRow : OpenClaim := { program := "ytmjkglmkckofgaa", sum := "cfc14d3e53382d9b321728a5cb99e1f73d841fa47af008ef125cf6b20c5947c3", func := "drey/dreylaw03.ValueTexts", spec := "valueTexts", inPlace := ["internal/abi.NoEscape", "internal/bytealg.MakeNoZero"], apart := false, narrowed := true }
def ValueTextsUptoSaid : Prop := valueTextsUptoRow.holds Try.pinned (OpenSpec.upto valueTextsSpec)

/-- 'dreylaw03.ValueOrders', WHERE WHAT IT READS IS OF BULK AT MOST 1048576: true; the input reads as it did. -/
def valueOrdersUptoRow : OpenClaim := { program := "ytmjkglmkckofgaa", sum := "cfc14d3e53382d9b321728a5cb99e1f73d841fa47af008ef125cf6b20c5947c3", func := "drey/dreylaw03.ValueOrders", spec := "valueOrders", inPlace := ["internal/abi.NoEscape", "internal/bytealg.MakeNoZero"], apart := false, narrowed := true }
def ValueOrdersUptoSaid : Prop := valueOrdersUptoRow.holds Try.pinned (OpenSpec.upto valueOrdersSpec)

/-- 'dreylaw03.ValueAdds', WHERE WHAT IT READS IS OF BULK AT MOST 1048576: true; the input reads as it did. -/
def valueAddsUptoRow : OpenClaim := { program := "ytmjkglmkckofgaa", sum := "cfc14d3e53382d9b321728a5cb99e1f73d841fa47af008ef125cf6b20c5947c3", func := "drey/dreylaw03.ValueAdds", spec := "valueAdds", inPlace := ["internal/abi.NoEscape", "internal/bytealg.MakeNoZero"], apart := false, narrowed := true }
def ValueAddsUptoSaid : Prop := valueAddsUptoRow.holds Try.pinned (OpenSpec.upto valueAddsSpec)

/-- 'dreylaw03.ValueReckons', WHERE WHAT IT READS IS OF BULK AT MOST 1048576: true; the input reads as it did. -/
def valueReckonsUptoRow : OpenClaim := { program := "ytmjkglmkckofgaa", sum := "cfc14d3e53382d9b321728a5cb99e1f73d841fa47af008ef125cf6b20c5947c3", func := "drey/dreylaw03.ValueReckons", spec := "valueReckons", inPlace := ["internal/abi.NoEscape", "internal/bytealg.MakeNoZero"], apart := false, narrowed := true }
def ValueReckonsUptoSaid : Prop := valueReckonsUptoRow.holds Try.pinned (OpenSpec.upto valueReckonsSpec)

/-- 'dreylaw03.ValueCells', WHERE WHAT IT READS IS OF BULK AT MOST 1048576: true; the input reads as it did. -/
def valueCellsUptoRow : OpenClaim := { program := "ytmjkglmkckofgaa", sum := "cfc14d3e53382d9b321728a5cb99e1f73d841fa47af008ef125cf6b20c5947c3", func := "drey/dreylaw03.ValueCells", spec := "valueCells", inPlace := ["internal/abi.NoEscape", "internal/bytealg.MakeNoZero"], apart := false, narrowed := true }
def ValueCellsUptoSaid : Prop := valueCellsUptoRow.holds Try.pinned (OpenSpec.upto valueCellsSpec)

/-- 'dreylaw03.ValueSame', WHERE WHAT IT READS IS OF BULK AT MOST 1048576: true; the input reads as it did. -/
def valueSameUptoRow : OpenClaim := { program := "ytmjkglmkckofgaa", sum := "cfc14d3e53382d9b321728a5cb99e1f73d841fa47af008ef125cf6b20c5947c3", func := "drey/dreylaw03.ValueSame", spec := "valueSame", inPlace := ["internal/abi.NoEscape", "internal/bytealg.MakeNoZero"], apart := false, narrowed := true }
def ValueSameUptoSaid : Prop := valueSameUptoRow.holds Try.pinned (OpenSpec.upto valueSameSpec)

end Rows
end Go.Proofs.Ytmjkglmkckofgaa
