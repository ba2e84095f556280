/-
  No cell of these rows narrows 'for every input' (looked for: loops, veiled, ifaces, maps, wideKeys, modest, calm, conditions, laid).
  DERIVED. THE GIVEN ROWS OF THIS SEAT. 7 by the template 'for every input the law returns true; each argument reads behind the call as it read before'; 0 by the template 'total and deterministic' (their statements: YtfdfjogoiagnkaaTotals.lean).
  GIVEN WITH THE SEED: the statements are not yours to turn. If you find one false, say at which input.
  Laid BY PROGRAM, IN A SANDBOX (cutbox-rows.mjs): the forced cells as the released guide's own fill.sh prints them over the translation 5f57535fe9a517b8… (all of the seat's roots in one cut). By AI agents, Wed Nov 11 2026. No macro, syntax, notation, axiom, sorry.
-/
import Derived.Test.YtfdfjogoiagnkaaChecked
import GoSem.Claim
import GoSem.ClaimJoined
import GoSem.ClaimMapViews
import Derived.JoinedTies
import Derived.KernelRfl
namespace Go.Proofs.Ytfdfjogoiagnkaa
/- THE CELL 'sum', in the pinned program and in every row, IS THE sha256 OF THE DUMP (.gsa) THAT YtfdfjogoiagnkaaProg.lean LOADS. Nothing in Lean hashes anything: it is a label: what it is worth is what the hold of that sum in a sandbox is worth. -/
noncomputable def Try.pinned : Pinned := { name := "ytfdfjogoiagnkaa", sum := "5f57535fe9a517b8173e425a3d6c20fcd1a01e25829103860692afe5a36cf4cc", checked := Try.checked }
namespace Rows
def none {H : Type} : Left H := { results := [], args := [] }

/-- 'dreylaw16.LayoutDeep': WHATEVER THE INPUT: true; the input reads as it did. -/
def layoutDeepSpec : ChangeSpec := { name := "layoutDeep", fn := fun _ => fun
  | [d] => { results := [.lit (.bool true)], args := [d] }
  | _ => none }
def layoutDeepRow : OpenClaim := { program := "ytfdfjogoiagnkaa", sum := "5f57535fe9a517b8173e425a3d6c20fcd1a01e25829103860692afe5a36cf4cc", func := "drey/dreylaw16.LayoutDeep", spec := "layoutDeep", unfollowed := true, recurses := true, apart := false }
def LayoutDeepSaid : Prop := layoutDeepRow.holds Try.pinned (OpenSpec.ofChange layoutDeepSpec)

/-- ITS FALSE NEIGHBOUR: 'it returns false'. Refute it at one input. -/
def layoutDeepWrong : ChangeSpec := { name := "layoutDeep", fn := fun _ => fun
  | [d] => { results := [.lit (.bool false)], args := [d] }
  | _ => none }
def LayoutDeepWrongFalsely : Prop := layoutDeepRow.holds Try.pinned (OpenSpec.ofChange layoutDeepWrong)

/-- 'dreylaw16.LayoutClasses': WHATEVER THE INPUT: true; the input reads as it did. -/
def layoutClassesSpec : ChangeSpec := { name := "layoutClasses", fn := fun _ => fun
  | [d] => { results := [.lit (.bool true)], args := [d] }
  | _ => none }
def layoutClassesRow : OpenClaim := { program := "ytfdfjogoiagnkaa", sum := "5f57535fe9a517b8173e425a3d6c20fcd1a01e25829103860692afe5a36cf4cc", func := "drey/dreylaw16.LayoutClasses", spec := "layoutClasses", unfollowed := true, recurses := true, apart := false }
def LayoutClassesSaid : Prop := layoutClassesRow.holds Try.pinned (OpenSpec.ofChange layoutClassesSpec)

/-- ITS FALSE NEIGHBOUR: 'it returns false'. Refute it at one input. -/
def layoutClassesWrong : ChangeSpec := { name := "layoutClasses", fn := fun _ => fun
  | [d] => { results := [.lit (.bool false)], args := [d] }
  | _ => none }
def LayoutClassesWrongFalsely : Prop := layoutClassesRow.holds Try.pinned (OpenSpec.ofChange layoutClassesWrong)

/-- 'dreylaw16.LayoutClones': WHATEVER THE INPUT: true; the input reads as it did. -/
def layoutClonesSpec : ChangeSpec := { name := "layoutClones", fn := fun _ => fun
  | [d1, d2] => { results := [.lit (.bool true)], args := [d1, d2] }
  | _ => none }
def layoutClonesRow : OpenClaim := { program := "ytfdfjogoiagnkaa", sum := "5f57535fe9a517b8173e425a3d6c20fcd1a01e25829103860692afe5a36cf4cc", func := "drey/dreylaw16.LayoutClones", spec := "layoutClones", unfollowed := true, recurses := true, apart := false }
def LayoutClonesSaid : Prop := layoutClonesRow.holds Try.pinned (OpenSpec.ofChange layoutClonesSpec)

/-- ITS FALSE NEIGHBOUR: 'it returns false'. Refute it at one input. -/
def layoutClonesWrong : ChangeSpec := { name := "layoutClones", fn := fun _ => fun
  | [d1, d2] => { results := [.lit (.bool false)], args := [d1, d2] }
  | _ => none }
def LayoutClonesWrongFalsely : Prop := layoutClonesRow.holds Try.pinned (OpenSpec.ofChange layoutClonesWrong)

/-- 'dreytop.WholeAsks': WHATEVER THE INPUT: true; the input reads as it did. -/
def wholeAsksSpec : ChangeSpec := { name := "wholeAsks", fn := fun _ => fun
  | [d1, d2] => { results := [.lit (.bool true)], args := [d1, d2] }
  | _ => none }
def wholeAsksRow : OpenClaim := { program := "ytfdfjogoiagnkaa", sum := "5f57535fe9a517b8173e425a3d6c20fcd1a01e25829103860692afe5a36cf4cc", func := "drey/dreytop.WholeAsks", spec := "wholeAsks", unfollowed := true, recurses := true, apart := false }
def WholeAsksSaid : Prop := wholeAsksRow.holds Try.pinned (OpenSpec.ofChange wholeAsksSpec)

/-- ITS FALSE NEIGHBOUR: 'it returns false'. Refute it at one input. -/
def wholeAsksWrong : ChangeSpec := { name := "wholeAsks", fn := fun _ => fun
  | [d1, d2] => { results := [.lit (.bool false)], args := [d1, d2] }
  | _ => none }
def WholeAsksWrongFalsely : Prop := wholeAsksRow.holds Try.pinned (OpenSpec.ofChange wholeAsksWrong)

/-- 'dreylaw17.SlotPlays': WHATEVER THE INPUT: true; the input reads as it did. -/
def slotPlaysSpec : ChangeSpec := { name := "slotPlays", fn := fun _ => fun
  | [d1, d2] => { results := [.lit (.bool true)], args := [d1, d2] }
  | _ => none }
def slotPlaysRow : OpenClaim := { program := "ytfdfjogoiagnkaa", sum := "5f57535fe9a517b8173e425a3d6c20fcd1a01e25829103860692afe5a36cf4cc", func := "drey/dreylaw17.SlotPlays", spec := "slotPlays", unfollowed := true, recurses := true, apart := false }
def SlotPlaysSaid : Prop := slotPlaysRow.holds Try.pinned (OpenSpec.ofChange slotPlaysSpec)

/-- ITS FALSE NEIGHBOUR: 'it returns false'. Refute it at one input. -/
def slotPlaysWrong : ChangeSpec := { name := "slotPlays", fn := fun _ => fun
  | [d1, d2] => { results := [.lit (.bool false)], args := [d1, d2] }
  | _ => none }
def SlotPlaysWrongFalsely : Prop := slotPlaysRow.holds Try.pinned (OpenSpec.ofChange slotPlaysWrong)

/-- 'dreylaw17.SlotNext': WHATEVER THE INPUT: true; the input reads as it did. -/
def slotNextSpec : ChangeSpec := { name := "slotNext", fn := fun _ => fun
  | [d1, d2, d3] => { results := [.lit (.bool true)], args := [d1, d2, d3] }
  | _ => none }
def slotNextRow : OpenClaim := { program := "ytfdfjogoiagnkaa", sum := "5f57535fe9a517b8173e425a3d6c20fcd1a01e25829103860692afe5a36cf4cc", func := "drey/dreylaw17.SlotNext", spec := "slotNext", unfollowed := true, recurses := true, apart := false }
def SlotNextSaid : Prop := slotNextRow.holds Try.pinned (OpenSpec.ofChange slotNextSpec)

/-- ITS FALSE NEIGHBOUR: 'it returns false'. Refute it at one input. -/
def slotNextWrong : ChangeSpec := { name := "slotNext", fn := fun _ => fun
  | [d1, d2, d3] => { results := [.lit (.bool false)], args := [d1, d2, d3] }
  | _ => none }
def SlotNextWrongFalsely : Prop := slotNextRow.holds Try.pinned (OpenSpec.ofChange slotNextWrong)

/-- 'dreylaw17.SlotKinds': WHATEVER THE INPUT: true; the input reads as it did. -/
def slotKindsSpec : ChangeSpec := { name := "slotKinds", fn := fun _ => fun
  | [d1, d2, d3] => { results := [.lit (.bool true)], args := [d1, d2, d3] }
  | _ => none }
def slotKindsRow : OpenClaim := { program := "ytfdfjogoiagnkaa", sum := "5f57535fe9a517b8173e425a3d6c20fcd1a01e25829103860692afe5a36cf4cc", func := "drey/dreylaw17.SlotKinds", spec := "slotKinds", unfollowed := true, recurses := true, apart := false }
def SlotKindsSaid : Prop := slotKindsRow.holds Try.pinned (OpenSpec.ofChange slotKindsSpec)

/-- ITS FALSE NEIGHBOUR: 'it returns false'. Refute it at one input. -/
def slotKindsWrong : ChangeSpec := { name := "slotKinds", fn := fun _ => fun
  | [d1, d2, d3] => { results := [.lit (.bool false)], args := [d1, d2, d3] }
  | _ => none }
def SlotKindsWrongFalsely : Prop := slotKindsRow.holds Try.pinned (OpenSpec.ofChange slotKindsWrong)

/- THE SECOND FORM. 'bulk': how many values and letters a reading holds, each counted each time it is reached (what is shared counts as often as it is met; a slice's spare places count too). A statement '..UptoSaid' is the law's where the arguments, and the package variables that the reading takes, are together of bulk at most 1048576: NARROWER than '..Said'. Prove '..Said' where nothing that the law and all that it calls make is longer than what came in: it says more and counts as full. Else prove '..UptoSaid'. A law counts once. -/
mutual
def uptoBulk {H : Type} : DataW H → Nat
  | .lit (.string bytes) => bytes.length + 1
  | .lit _ => 1
  | .nil => 1
  | .ptr d => uptoBulk d + 1
  | .slice elems spare => uptoBulkAll elems + uptoBulkAll spare + 1
  | .agg parts => uptoBulkAll parts + 1
  | .iface _ d => uptoBulk d + 1
  | .map entries => uptoBulkEntries entries + 1
  | .held _ => 1
def uptoBulkAll {H : Type} : List (DataW H) → Nat
  | [] => 0
  | d :: r => uptoBulk d + uptoBulkAll r
def uptoBulkEntries {H : Type} : List (Lit × DataW H) → Nat
  | [] => 0
  | x :: r => uptoBulkEntry x + uptoBulkEntries r
def uptoBulkEntry {H : Type} : Lit × DataW H → Nat
  | (.string bytes, d) => bytes.length + uptoBulk d + 1
  | (_, d) => uptoBulk d + 1
 end
def uptoSmall : (H : Type) → List (DataW H) → Bool := fun _ ds => decide (uptoBulkAll ds ≤ 1048576)
def OpenSpec.upto (s : _root_.Go.ChangeSpec) : _root_.Go.OpenSpec := { _root_.Go.OpenSpec.ofChange s with cond := some uptoSmall }

/-- 'dreylaw16.LayoutDeep', WHERE WHAT IT READS IS OF BULK AT MOST 1048576: true; the input reads as it did. -/
def layoutDeepUptoRow : OpenClaim := { program := "ytfdfjogoiagnkaa", sum := "5f57535fe9a517b8173e425a3d6c20fcd1a01e25829103860692afe5a36cf4cc", func := "drey/dreylaw16.LayoutDeep", spec := "layoutDeep", unfollowed := true, recurses := true, apart := false, narrowed := true }
def LayoutDeepUptoSaid : Prop := layoutDeepUptoRow.holds Try.pinned (OpenSpec.upto layoutDeepSpec)

/-- 'dreylaw16.LayoutClasses', WHERE WHAT IT READS IS OF BULK AT MOST 1048576: true; the input reads as it did. -/
def layoutClassesUptoRow : OpenClaim := { program := "ytfdfjogoiagnkaa", sum := "5f57535fe9a517b8173e425a3d6c20fcd1a01e25829103860692afe5a36cf4cc", func := "drey/dreylaw16.LayoutClasses", spec := "layoutClasses", unfollowed := true, recurses := true, apart := false, narrowed := true }
def LayoutClassesUptoSaid : Prop := layoutClassesUptoRow.holds Try.pinned (OpenSpec.upto layoutClassesSpec)

/-- 'dreylaw16.LayoutClones', WHERE WHAT IT READS IS OF BULK AT MOST 1048576: true; the input reads as it did. -/
def layoutClonesUptoRow : OpenClaim := { program := "ytfdfjogoiagnkaa", sum := "5f57535fe9a517b8173e425a3d6c20fcd1a01e25829103860692afe5a36cf4cc", func := "drey/dreylaw16.LayoutClones", spec := "layoutClones", unfollowed := true, recurses := true, apart := false, narrowed := true }
def LayoutClonesUptoSaid : Prop := layoutClonesUptoRow.holds Try.pinned (OpenSpec.upto layoutClonesSpec)

/-- 'dreytop.WholeAsks', WHERE WHAT IT READS IS OF BULK AT MOST 1048576: true; the input reads as it did. -/
def wholeAsksUptoRow : OpenClaim := { program := "ytfdfjogoiagnkaa", sum := "5f57535fe9a517b8173e425a3d6c20fcd1a01e25829103860692afe5a36cf4cc", func := "drey/dreytop.WholeAsks", spec := "wholeAsks", unfollowed := true, recurses := true, apart := false, narrowed := true }
def WholeAsksUptoSaid : Prop := wholeAsksUptoRow.holds Try.pinned (OpenSpec.upto wholeAsksSpec)

/-- 'dreylaw17.SlotPlays', WHERE WHAT IT READS IS OF BULK AT MOST 1048576: true; the input reads as it did. -/
def slotPlaysUptoRow : OpenClaim := { program := "ytfdfjogoiagnkaa", sum := "5f57535fe9a517b8173e425a3d6c20fcd1a01e25829103860692afe5a36cf4cc", func := "drey/dreylaw17.SlotPlays", spec := "slotPlays", unfollowed := true, recurses := true, apart := false, narrowed := true }
def SlotPlaysUptoSaid : Prop := slotPlaysUptoRow.holds Try.pinned (OpenSpec.upto slotPlaysSpec)

/-- 'dreylaw17.SlotNext', WHERE WHAT IT READS IS OF BULK AT MOST 1048576: true; the input reads as it did. -/
def slotNextUptoRow : OpenClaim := { program := "ytfdfjogoiagnkaa", sum := "5f57535fe9a517b8173e425a3d6c20fcd1a01e25829103860692afe5a36cf4cc", func := "drey/dreylaw17.SlotNext", spec := "slotNext", unfollowed := true, recurses := true, apart := false, narrowed := true }
def SlotNextUptoSaid : Prop := slotNextUptoRow.holds Try.pinned (OpenSpec.upto slotNextSpec)

/-- 'dreylaw17.SlotKinds', WHERE WHAT IT READS IS OF BULK AT MOST 1048576: true; the input reads as it did. -/
def slotKindsUptoRow : OpenClaim := { program := "ytfdfjogoiagnkaa", sum := "5f57535fe9a517b8173e425a3d6c20fcd1a01e25829103860692afe5a36cf4cc", func := "drey/dreylaw17.SlotKinds", spec := "slotKinds", unfollowed := true, recurses := true, apart := false, narrowed := true }
def SlotKindsUptoSaid : Prop := slotKindsUptoRow.holds Try.pinned (OpenSpec.upto slotKindsSpec)

end Rows
end Go.Proofs.Ytfdfjogoiagnkaa
