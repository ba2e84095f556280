/- The walk of the statement StrEscapes. -/
import Derived.Test.YtggkkonigeohhaaStrT
namespace Go.Proofs.Ytggkkonigeohhaa
open Go.RowKit
set_option maxRecDepth 100000

set_option maxHeartbeats 1000000 in
theorem strEscapes_walk (w : World) (s : ByteArray) (m : Int) (hm : w.cell? ⟨0, 0, none⟩ = some (.int .i64 m)) :
    Calls Try.prog 4 #[.string s] w fun e w' => e = .returned (.bool true) ∧ Below w.heap.size w w' := by
  have HT := hidden (texts_true w m hm)
  clear hm
  refine post_gen fun R hR => ?_
  by_cases hbig : 500 < s.size
  · go_enter Try.func4, Try.ntmps4
    go_wp2_with fail
    refine HT.out.mono ?_
    rintro e w1 ⟨rfl, hK⟩
    go_wp2_with fail
    exact hR.out _ _ ⟨rfl, hK.toNew (fun _ h => h.elim)⟩
  have k1 := fun W => str_Unescape s W (by omega)
  have k2 := fun W => ref_Unescape s W (by omega)
  cases hu : unesc s.data.toList with
  | inl t =>
    rw [hu] at k1 k2
    simp only [unAns, refAns] at k1 k2
    have K1 := hidden k1
    have K2 := hidden k2
    clear k1 k2 hu
    go_enter Try.func4, Try.ntmps4
    go_wp2_with fail
    refine HT.out.mono ?_
    rintro e w1 ⟨rfl, hK⟩
    have HK := hidden hK
    clear hK
    go_wp2_with fail
    refine (K1.out _).mono ?_
    rintro e w2 ⟨rfl, hK2⟩
    have HK2 := hidden (HK.out.trans hK2 (fun _ _ h => h))
    clear hK2 HK
    go_wp2_with fail
    refine (K2.out _).mono ?_
    rintro e w3 ⟨rfl, hK3⟩
    have HK3 := hidden ((HK2.out.alloc _).trans hK3 (fun _ _ h => h))
    obtain ⟨a0, a1, -, -⟩ := (show FaultAt w3 w2.heap.size 0 0 from hK3.heap (FaultAt.new w2 0 0) (fun h => h)).cells
    have hz : w2.heap.size < w3.heap.size := by have := hK3.size; simp at this; omega
    clear hK3 HK2
    go_wp2_with fail
    exact hR.out _ _ ⟨rfl, HK3.out.toNew (fun _ h => h.elim)⟩
  | inr k =>
    rw [hu] at k1 k2
    simp only [unAns, refAns] at k1 k2
    have K1 := hidden k1
    have K2 := hidden k2
    clear k1 k2 hu
    go_enter Try.func4, Try.ntmps4
    go_wp2_with fail
    refine HT.out.mono ?_
    rintro e w1 ⟨rfl, hK⟩
    have HK := hidden hK
    clear hK
    go_wp2_with fail
    refine (K1.out _).mono ?_
    rintro e w2 ⟨rfl, hK2⟩
    have HK2 := hidden (HK.out.trans hK2 (fun _ _ h => h))
    clear hK2 HK
    go_wp2_with fail
    refine (K2.out _).mono ?_
    rintro e w3 ⟨rfl, hK3⟩
    have HK3 := hidden ((HK2.out.alloc _).trans hK3 (fun _ _ h => h))
    obtain ⟨a0, a1, -, -⟩ := (show FaultAt w3 w2.heap.size 20 k from hK3.heap (FaultAt.new w2 20 k) (fun h => h)).cells
    have hz : w2.heap.size < w3.heap.size := by have := hK3.size; simp at this; omega
    clear hK3 HK2
    go_wp2_with fail
    exact hR.out _ _ ⟨rfl, HK3.out.toNew (fun _ h => h.elim)⟩
end Go.Proofs.Ytggkkonigeohhaa
