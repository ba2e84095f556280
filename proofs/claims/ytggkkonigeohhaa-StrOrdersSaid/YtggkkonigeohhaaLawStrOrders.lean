/- The walk of the statement StrOrders. -/
import Derived.Test.YtggkkonigeohhaaStrT
namespace Go.Proofs.Ytggkkonigeohhaa
open Go.RowKit
set_option maxRecDepth 100000

theorem cmpL_back (l : List UInt8) : ∀ m, cmpL m l = - cmpL l m := by
  induction l with
  | nil => intro m; cases m <;> simp [cmpL]
  | cons a l ih =>
    intro m
    cases m with
    | nil => simp [cmpL]
    | cons b m =>
      simp only [cmpL]
      by_cases h : a = b
      · subst h; simp [ih]
      · have hne : ¬ a.toNat = b.toNat := fun e => h (UInt8.toNat_inj.1 e)
        rw [if_neg h, if_neg (fun e => h e.symm)]
        by_cases hlt : a.toNat < b.toNat
        · rw [if_pos hlt, if_neg (by omega)]; rfl
        · rw [if_neg hlt, if_pos (by omega)]
theorem cmpL_in (l : List UInt8) : ∀ m, -1 ≤ cmpL l m ∧ cmpL l m ≤ 1 := by
  induction l with
  | nil => intro m; cases m <;> simp [cmpL]
  | cons a l ih =>
    intro m
    cases m with
    | nil => simp [cmpL]
    | cons b m =>
      simp only [cmpL]
      split
      · exact ih m
      · split <;> omega
set_option maxHeartbeats 1000000 in
theorem strOrders_walk (w : World) (a b : ByteArray) (m : Int) (hm : w.cell? ⟨0, 0, none⟩ = some (.int .i64 m)) :
    Calls Try.prog 10 #[.string a, .string b] w fun e w' => e = .returned (.bool true) ∧ Below w.heap.size w w' := by
  have HT := hidden (texts_true w m hm)
  clear hm
  refine post_gen fun R hR => ?_
  by_cases hbig : 500 < a.size
  · go_enter Try.func10, Try.ntmps10
    go_wp2_with fail
    refine HT.out.mono ?_
    rintro e w1 ⟨rfl, hK⟩
    go_wp2_with fail
    exact hR.out _ _ ⟨rfl, hK.toNew (fun _ h => h.elim)⟩
  by_cases hbig2 : 500 < b.size
  · go_enter Try.func10, Try.ntmps10
    go_wp2_with fail
    refine HT.out.mono ?_
    rintro e w1 ⟨rfl, hK⟩
    go_wp2_with fail
    exact hR.out _ _ ⟨rfl, hK.toNew (fun _ h => h.elim)⟩
  go_enter Try.func10, Try.ntmps10
  go_wp2_with fail
  refine HT.out.mono ?_
  rintro e w1 ⟨rfl, hK⟩
  have HK := hidden hK
  have k1 := hidden (fun W => str_Compare a b W (by omega) (by omega))
  have k2 := hidden (fun W => ref_Less a b W (by omega))
  have k3 := hidden (fun W => ref_Less b a W (by omega))
  rw [cmpL_back a.data.toList] at k3
  have hin := cmpL_in a.data.toList b.data.toList
  obtain ⟨hin1, hin2⟩ := hin
  generalize cmpL a.data.toList b.data.toList = c at *
  clear hK HT
  go_wp2_with fail
  refine (k1.out _).mono ?_
  rintro e w2 ⟨rfl, hD⟩
  have HK2 := hidden (HK.out.trans (hD.keeps _) (fun _ _ h => h))
  clear hD HK
  go_wp2_with fail
  refine (k2.out _).mono ?_
  rintro e w3 ⟨rfl, hD⟩
  have HK3 := hidden (HK2.out.trans (hD.keeps _) (fun _ _ h => h))
  clear hD HK2
  have e1 : (decide (c < 0) != decide (c < 0)) = false := by simp
  go_wp2_with fail
  refine (k3.out _).mono ?_
  rintro e w4 ⟨rfl, hD⟩
  have HK4 := hidden (HK3.out.trans (hD.keeps _) (fun _ _ h => h))
  clear hD HK3 e1
  have e2 : (decide (0 < c) != decide (-c < 0)) = false := by
    rw [show decide (-c < 0) = decide (0 < c) from by rw [Bool.eq_iff_iff]; simp]; simp
  have k4 := hidden (fun W => str_Hash a W (by omega))
  have k5 := hidden (fun W => str_Hash b W (by omega))
  by_cases hab : a = b
  · subst hab
    go_wp2_with fail
    refine (k4.out _).mono ?_
    rintro e _ ⟨rfl, rfl⟩
    go_wp2_with fail
    refine (k5.out _).mono ?_
    rintro e _ ⟨rfl, rfl⟩
    go_wp2_with fail
    refine hR.out _ _ ⟨show Ending.returned (.bool _) = .returned (.bool _) from ret_bool ?_, HK4.out.toNew (fun _ h => h.elim)⟩
    simp
  · have hn : ¬ a.toList = b.toList := fun h => hab (toList_inj.1 h)
    clear hab
    go_wp2_with fail
    refine hR.out _ _ ⟨show Ending.returned (.bool _) = .returned (.bool _) from ret_bool ?_, HK4.out.toNew (fun _ h => h.elim)⟩
    rfl
end Go.Proofs.Ytggkkonigeohhaa
