/- dreylaw18.MetaFinds: all ways. -/
import Derived.Test.YtmefdniocgcckaaZMF00
import Derived.Test.YtmefdniocgcckaaZMF01
import Derived.Test.YtmefdniocgcckaaZMF02
import Derived.Test.YtmefdniocgcckaaZMF03
import Derived.Test.YtmefdniocgcckaaZMF04
import Derived.Test.YtmefdniocgcckaaZMF10
import Derived.Test.YtmefdniocgcckaaZMF11
import Derived.Test.YtmefdniocgcckaaZMF12
import Derived.Test.YtmefdniocgcckaaZMF13
import Derived.Test.YtmefdniocgcckaaZMF14
set_option linter.unusedSimpArgs false
set_option linter.unusedVariables false
namespace Go.Proofs.Ytmefdniocgcckaa
open Go.RowKit
set_option maxRecDepth 100000

theorem metaFinds_walk (w : World) (name : ByteArray) (wh : Int) (called : Bool) : Calls Try.prog 4 #[.string name, .int .i64 wh, .bool called] w fun e w' => e = .returned (.bool true) ∧ Below w.heap.size w w' := by
  by_cases hn : (50 : Int) < name.size
  · refine post_gen fun R hR => ?_
    go_enter Try.func4, Try.ntmps4
    go_wp2_with fail
    refine (asks18_true w).mono ?_
    rintro e w1 ⟨rfl, hB⟩
    go_wp2_with fail
    exact hR.out _ _ ⟨rfl, hB⟩
  · by_cases h0 : wh = 0
    · subst h0; cases called with
      | false => exact metaFinds_00 w name hn
      | true => exact metaFinds_10 w name hn
    by_cases h1 : wh = 1
    · subst h1; cases called with
      | false => exact metaFinds_01 w name hn
      | true => exact metaFinds_11 w name hn
    by_cases h2 : wh = 2
    · subst h2; cases called with
      | false => exact metaFinds_02 w name hn
      | true => exact metaFinds_12 w name hn
    by_cases h3 : wh = 3
    · subst h3; cases called with
      | false => exact metaFinds_03 w name hn
      | true => exact metaFinds_13 w name hn
    cases called with
      | false => exact metaFinds_04 w name hn wh h0 h1 h2 h3
      | true => exact metaFinds_14 w name hn wh h0 h1 h2 h3
end Go.Proofs.Ytmefdniocgcckaa
