/- The walk of the statement StrFinds. -/
import Derived.Test.YtggkkonigeohhaaStrT
namespace Go.Proofs.Ytggkkonigeohhaa
open Go.RowKit
set_option maxRecDepth 100000

set_option maxHeartbeats 1000000 in
theorem strFinds_walk (w : World) (s what : ByteArray) (from' m : Int) (hm : w.cell? ⟨0, 0, none⟩ = some (.int .i64 m)) :
    Calls Try.prog 6 #[.string s, .string what, .int .i64 from'] w fun e w' => e = .returned (.bool true) ∧ Below w.heap.size w w' := by
  have HT := hidden (texts_true w m hm)
  have HM := hidden hm
  clear hm
  refine post_gen fun R hR => ?_
  by_cases hbig : 300 < s.size
  · go_enter Try.func6, Try.ntmps6
    go_wp2_with fail
    refine HT.out.mono ?_
    rintro e w1 ⟨rfl, hK⟩
    go_wp2_with fail
    exact hR.out _ _ ⟨rfl, hK.toNew (fun _ h => h.elim)⟩
  by_cases hbig2 : 300 < what.size
  · go_enter Try.func6, Try.ntmps6
    go_wp2_with fail
    refine HT.out.mono ?_
    rintro e w1 ⟨rfl, hK⟩
    go_wp2_with fail
    exact hR.out _ _ ⟨rfl, hK.toNew (fun _ h => h.elim)⟩
  go_enter Try.func6, Try.ntmps6
  go_wp2_with fail
  refine HT.out.mono ?_
  rintro e w1 ⟨rfl, hK⟩
  have HK := hidden hK
  have k1 := hidden (str_Find s what from' m w1 (by omega) (hK.cell HM.out (fun h => h)))
  have k2 := hidden (ref_Find s what from' w1 (by omega) (by omega))
  generalize findI s.data.toList what.data.toList from' = r at *
  clear hK HT
  go_wp2_with fail
  refine k1.out.mono ?_
  rintro e _ ⟨rfl, rfl⟩
  go_wp2_with fail
  refine k2.out.mono ?_
  rintro e w2 ⟨rfl, hD⟩
  go_wp2_with fail
  refine hR.out _ _ ⟨show Ending.returned (.bool _) = .returned (.bool _) from ret_bool ?_, ((HK.out.trans (hD.keeps _) (fun _ _ h => h))).toNew (fun _ h => h.elim)⟩
  simp
end Go.Proofs.Ytggkkonigeohhaa
