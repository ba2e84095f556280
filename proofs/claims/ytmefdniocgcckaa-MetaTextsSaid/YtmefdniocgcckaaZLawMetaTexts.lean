/- dreylaw18.MetaTexts: the walk. -/
import Derived.Test.YtmefdniocgcckaaZHead18
set_option linter.unusedSimpArgs false
set_option linter.unusedVariables false
namespace Go.Proofs.Ytmefdniocgcckaa
open Go.RowKit
set_option maxRecDepth 100000

set_option maxHeartbeats 4000000 in
theorem metaTexts_walk (w : World) (e : Int) : Calls Try.prog 3 #[.int .i64 e] w fun r w' => r = .returned (.bool true) ∧ Below w.heap.size w w' := by
  refine post_gen fun R hR => ?_
  go_enter Try.func3, Try.ntmps3
  go_wp2_with fail
  refine (asks18_true w).mono ?_
  rintro r w1 ⟨rfl, hB⟩
  have HB := hidden hB
  have CT := hidden (fun (W : World) => meta_Text W e)
  clear hB
  by_cases h3 : e = 3
  · subst h3
    rw [show thrown 3 = ⟨#[110, 111, 32, 115, 117, 99, 104, 32, 115, 108, 111, 116]⟩ from rfl] at CT
    go_wp2_with fail
    refine (CT.out _).mono ?_
    rintro r _ ⟨rfl, rfl⟩
    go_wp2_with fail
    exact hR.out _ _ ⟨rfl, HB.out⟩
  by_cases h1 : e = 1
  · subst h1
    rw [show thrown 1 = ⟨#[111, 117, 116, 32, 111, 102, 32, 114, 97, 110, 103, 101]⟩ from rfl] at CT
    go_wp2_with fail
    refine (CT.out _).mono ?_
    rintro r _ ⟨rfl, rfl⟩
    go_wp2_with fail
    exact hR.out _ _ ⟨rfl, HB.out⟩
  by_cases h10 : e = 10
  · subst h10
    rw [show thrown 10 = ⟨#[100, 105, 118, 105, 115, 105, 111, 110, 32, 98, 121, 32, 122, 101, 114, 111]⟩ from rfl] at CT
    go_wp2_with fail
    refine (CT.out _).mono ?_
    rintro r _ ⟨rfl, rfl⟩
    go_wp2_with fail
    exact hR.out _ _ ⟨rfl, HB.out⟩
  by_cases h2 : e = 2
  · subst h2
    rw [show thrown 2 = ⟨#[116, 111, 111, 32, 108, 111, 110, 103]⟩ from rfl] at CT
    go_wp2_with fail
    refine (CT.out _).mono ?_
    rintro r _ ⟨rfl, rfl⟩
    go_wp2_with fail
    exact hR.out _ _ ⟨rfl, HB.out⟩
  by_cases h6 : e = 6
  · subst h6
    rw [show thrown 6 = ⟨#[116, 111, 111, 32, 108, 111, 110, 103]⟩ from rfl] at CT
    go_wp2_with fail
    refine (CT.out _).mono ?_
    rintro r _ ⟨rfl, rfl⟩
    go_wp2_with fail
    exact hR.out _ _ ⟨rfl, HB.out⟩
  by_cases h4 : e = 4
  · subst h4
    rw [show thrown 4 = ⟨#[116, 111, 111, 32, 108, 111, 110, 103]⟩ from rfl] at CT
    go_wp2_with fail
    refine (CT.out _).mono ?_
    rintro r _ ⟨rfl, rfl⟩
    go_wp2_with fail
    exact hR.out _ _ ⟨rfl, HB.out⟩
  rw [show thrown e = ⟨#[119, 114, 111, 110, 103, 32, 116, 121, 112, 101]⟩ from by
    unfold thrown
    rw [if_neg h3, if_neg h1, if_neg h10]
    simp_all] at CT
  go_wp2_with fail
  refine (CT.out _).mono ?_
  rintro r _ ⟨rfl, rfl⟩
  go_wp2_with fail
  exact hR.out _ _ ⟨rfl, HB.out⟩
end Go.Proofs.Ytmefdniocgcckaa
