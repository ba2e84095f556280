/- value.Same. -/
import Derived.Test.YtmefdniocgcckaaGrpA
import Derived.Test.YtmefdniocgcckaaGrpB
set_option linter.unusedSimpArgs false
set_option linter.unusedVariables false
namespace Go.Proofs.Ytmefdniocgcckaa
open Go.RowKit

theorem value_Same (a b : V) (w : World) : Calls Try.prog 36 #[a.val, b.val] w fun e w' => e = .returned (.bool (decide (a = b))) ∧ Keeps (fun _ => False) w w' := by
  obtain ⟨k, n, t⟩ := a
  obtain ⟨k2, n2, t2⟩ := b
  unfold V.val
  refine post_gen fun R hR => ?_
  go_enter Try.func36, Try.ntmps36
  go_wp2
  all_goals
    refine hR.out _ _ ⟨show Ending.returned (.bool _) = .returned (.bool _) from ret_bool ?_, ((Keeps.refl _ _).alloc _).alloc _⟩
    clear hR
    rw [Bool.eq_iff_iff]
    simp_all [toList_inj]
end Go.Proofs.Ytmefdniocgcckaa
