/- Layer 2: the head of its statements (dreylaw02.texts) is true. -/
import Derived.Test.YtggkkonigeohhaaStrR
namespace Go.Proofs.Ytggkkonigeohhaa
open Go.RowKit
set_option maxRecDepth 100000

set_option maxHeartbeats 2000000 in
theorem texts_true (w : World) (m : Int) (hm : w.cell? ⟨0, 0, none⟩ = some (.int .i64 m)) : Calls Try.prog 11 #[] w fun e w' => e = .returned (.bool true) ∧ Keeps (fun _ => False) w w' := by
  have HM := hidden hm
  clear hm
  refine post_gen fun R hR => ?_
  go_enter Try.func11, Try.ntmps11
  go_wp2_with fail
  refine (str_Quote ⟨#[97, 34, 10, 1]⟩ _ (by decide)).mono ?_
  rintro e w1 ⟨rfl, hK⟩
  have HK := hidden hK
  clear hK
  rw [show mkS (quoteL (⟨#[97, 34, 10, 1]⟩ : ByteArray).data.toList) = ⟨#[34, 97, 92, 34, 92, 110, 92, 120, 48, 49, 34]⟩ from by decide]
  go_wp2_with fail
  refine (str_Unescape _ _ (by decide)).mono ?_
  rintro e w2 ⟨rfl, hK⟩
  have HK2 := hidden (HK.out.trans hK (fun _ _ h => h))
  clear hK HK
  rw [show unAns (unesc (⟨#[97, 92, 120, 52, 49, 92, 116]⟩ : ByteArray).data.toList) = .tuple #[.string ⟨#[97, 65, 9]⟩, .agg #[.int .i64 0, .int .i64 0]] from by rfl]
  go_wp2_with fail
  refine (str_Unescape _ _ (by decide)).mono ?_
  rintro e w3 ⟨rfl, hK⟩
  have HK3 := hidden ((HK2.out.alloc _).trans hK (fun _ _ h => h))
  have HF := hidden (show FaultAt w3 w2.heap.size 0 0 from hK.heap (FaultAt.new w2 0 0) (fun h => h))
  have hz3 : w2.heap.size < w3.heap.size := by have := hK.size; simp at this; omega
  clear hK HK2
  rw [show unAns (unesc (⟨#[97, 98, 92, 113]⟩ : ByteArray).data.toList) = .tuple #[.string ⟨#[]⟩, .agg #[.int .i64 20, .int .i64 2]] from by rfl]
  go_wp2_with fail
  refine (str_Slice _ _ _ _ (by decide) (by decide) (by decide)).mono ?_
  rintro e _ ⟨rfl, rfl⟩
  rw [show slcAns (⟨#[97, 98, 99, 100, 101, 102]⟩ : ByteArray) (-3) (-1) = .tuple #[.string ⟨#[100, 101]⟩, .int .i64 0] from by rfl]
  go_wp2_with fail
  refine (str_Join _ _ 2 [⟨#[97]⟩, ⟨#[98]⟩] ⟨#[44, 32]⟩ (Strs.lit' (w3.alloc (.cells #[.int .i64 20, .int .i64 2] 26)) [⟨#[97]⟩, ⟨#[98]⟩] 9 (by simp)) (by decide) (by decide) (by decide) (by decide)).mono ?_
  rintro e w4 ⟨rfl, hK⟩
  rw [if_neg (show ¬ 1048576 < jn ⟨#[44, 32]⟩ [⟨#[97]⟩, ⟨#[98]⟩] from by decide), show mkS (joinB ⟨#[44, 32]⟩ [⟨#[97]⟩, ⟨#[98]⟩]) = ⟨#[97, 44, 32, 98]⟩ from by decide]
  have HK4 := hidden (((HK3.out.alloc _).alloc _).trans hK (fun _ _ h => h))
  obtain ⟨a0, a1, -, -⟩ := (show FaultAt w4 w2.heap.size 0 0 from hK.heap (blk_alloc (blk_alloc HF.out _) _) (fun h => h)).cells
  obtain ⟨b0, b1, -, -⟩ := (show FaultAt w4 w3.heap.size 20 2 from hK.heap (blk_alloc (FaultAt.new w3 20 2) _) (fun h => h)).cells
  have hz4 : w3.heap.size < w4.heap.size := by have := hK.size; simp at this; omega
  clear hK HK3 HF
  go_wp2_with fail
  refine (str_Find _ _ _ m _ (by decide) (HK4.out.cell HM.out (fun h => h))).mono ?_
  rintro e _ ⟨rfl, rfl⟩
  rw [show findI (⟨#[97, 98, 97, 98]⟩ : ByteArray).data.toList (⟨#[97, 98]⟩ : ByteArray).data.toList 1 = 2 from by decide]
  clear a0 a1 b0 b1 hz3 hz4
  go_wp2_with fail
  refine (str_Lower _ _ (by decide)).mono ?_
  rintro e w5 ⟨rfl, hK⟩
  rw [show mkS (List.map (eachB 65 90 32) (⟨#[65, 98, 90, 49]⟩ : ByteArray).data.toList) = ⟨#[97, 98, 122, 49]⟩ from by decide]
  have HK5 := hidden (HK4.out.trans hK (fun _ _ h => h))
  clear hK HK4
  go_wp2_with fail
  refine (str_Upper _ _ (by decide)).mono ?_
  rintro e w6 ⟨rfl, hK⟩
  rw [show mkS (List.map (eachB 97 122 (-32)) (⟨#[65, 98, 90, 49]⟩ : ByteArray).data.toList) = ⟨#[65, 66, 90, 49]⟩ from by decide]
  have HK6 := hidden (HK5.out.trans hK (fun _ _ h => h))
  clear hK HK5
  go_wp2_with fail
  refine (str_Strip _ _ (by decide)).mono ?_
  rintro e _ ⟨rfl, rfl⟩
  rw [show mkS (List.dropWhile blankB (backL (⟨#[32, 97, 32, 98, 10]⟩ : ByteArray).data.toList)) = ⟨#[97, 32, 98]⟩ from by decide]
  go_wp2_with fail
  refine (str_Split _ _ _ (by decide)).mono ?_
  rintro e w7 ⟨A, c, F, rfl, hRow, hin, hK, hF⟩
  rw [show (pieces (fun b => (⟨#[44, 59]⟩ : ByteArray).data.toList.contains b) (⟨#[97, 44, 98, 59, 99]⟩ : ByteArray).data.toList).length = 3 from by decide]
  have HK7 := hidden (HK6.out.trans hK (fun _ _ h => h))
  clear hRow hin hK hF HK6
  go_wp2_with fail
  refine (str_Name _ _ (by decide)).mono ?_
  rintro e _ ⟨rfl, rfl⟩
  rw [show nameB (⟨#[95, 97, 49]⟩ : ByteArray).data.toList = true from by decide]
  go_wp2_with fail
  refine (str_Name _ _ (by decide)).mono ?_
  rintro e _ ⟨rfl, rfl⟩
  rw [show nameB (⟨#[49, 97]⟩ : ByteArray).data.toList = false from by decide]
  go_wp2_with fail
  refine (str_Compare _ _ _ (by decide) (by decide)).mono ?_
  rintro e _ ⟨rfl, n8, rfl⟩
  rw [show cmpL (⟨#[97]⟩ : ByteArray).data.toList (⟨#[97, 98]⟩ : ByteArray).data.toList = -1 from by decide]
  go_wp2_with fail
  exact hR.out _ _ ⟨rfl, HK7.out.drewN _⟩
end Go.Proofs.Ytggkkonigeohhaa
