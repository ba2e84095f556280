/- Layer 18: the head of its statements (dreylaw18.asks) is true. -/
import Derived.Test.YtmefdniocgcckaaGrpI
import Derived.Test.YtmefdniocgcckaaGrpJ
set_option linter.unusedSimpArgs false
set_option linter.unusedVariables false
namespace Go.Proofs.Ytmefdniocgcckaa
open Go.RowKit
set_option maxRecDepth 100000
set_option linter.unusedSimpArgs false

theorem add12 (w : World) : Calls Try.prog 27 #[V.val ⟨2, 1, ⟨#[]⟩⟩, V.val ⟨2, 2, ⟨#[]⟩⟩] w fun e w' => e = .returned (.tuple #[V.val ⟨2, 3, ⟨#[]⟩⟩, .int .i64 0]) ∧ Keeps (fun _ => False) w w' := by
  refine (value_Add ⟨2, 1, ⟨#[]⟩⟩ ⟨2, 2, ⟨#[]⟩⟩ w (by decide) (by decide) (by decide +kernel) (by decide +kernel)).mono ?_
  rintro e w' ⟨rfl, h⟩
  exact ⟨by simp [V.add, nAdd, wrap64], h⟩
theorem cmp12 (w : World) : Calls Try.prog 25 #[V.val ⟨2, 1, ⟨#[]⟩⟩, V.val ⟨2, 2, ⟨#[]⟩⟩] w fun e w' => e = .returned (.tuple #[.int .i64 (-1), .int .i64 0]) ∧ Keeps (fun _ => False) w w' := by
  refine (value_Compare ⟨2, 1, ⟨#[]⟩⟩ ⟨2, 2, ⟨#[]⟩⟩ w (by decide) (by decide)).mono ?_
  rintro e w' ⟨rfl, h⟩
  exact ⟨by simp [V.cmp, cmpI], h⟩
set_option maxHeartbeats 16000000 in
theorem asks18_true (w : World) : Calls Try.prog 6 #[] w fun e w' => e = .returned (.bool true) ∧ Below w.heap.size w w' := by
  refine post_gen fun R hR => ?_
  go_enter Try.func6, Try.ntmps6
  (try go_wp2_with fail)
  refine (heap_New w 50).mono ?_
  rintro e w1 ⟨hb, F0, rfl, hH, hK, hF⟩
  have H2 := hidden (show Hd w hb F0 [] ⟨[], 0, 50, 0, 0⟩ w1 from ⟨hH, HOk.new 50, fun k h => (hF k h).elim (fun h => h.elim) id, hK.mono (fun _ _ h => h.elim)⟩)
  have S3 := hidden (show (⟨[], 0, 50, 0, 0⟩ : HSt).live = 0 ∧ (⟨[], 0, 50, 0, 0⟩ : HSt).limit = 50 from ⟨rfl, rfl⟩)
  clear hH hK hF
  have C4 := hidden (heap_Alloc_kind 5 (by decide) H2.out (by decide))
  (try go_wp2_with fail)
  refine C4.out.mono ?_
  rintro e w5 ⟨f, pf, F6, HH7, st8, rfl, hM⟩
  have N9 := hidden (show HH7[f]? = some (some (pf, kindCl 5)) from hM.new.at_)
  have S10 := hidden (show st8.live = 1 ∧ st8.limit = 50 from ⟨by rw [hM.live]; decide, by rw [hM.limit]⟩)
  have H11 := hidden (H2.out.made hM (fun k h => h.elim))
  clear C4 hM S3 H2
  have C12 := hidden (heap_NewTable_nil _ _ _ _ _ H11.out.heap H11.out.ok (by rw [S10.out.1, S10.out.2]; decide))
  unfold V.val at C12
  (try go_wp2_with fail)
  refine C12.out.mono ?_
  rintro e w13 ⟨t, pt, tt, F14, HH15, st16, rfl, hM⟩
  have N17 := hidden (hM.new.old N9.out)
  have E18 := hidden (hM.new.ne N9.out)
  have N19 := hidden (show HH15[t]? = some (some (pt, tableCl tt [] 0)) from hM.new.at_)
  have S20 := hidden (show st16.live = 2 ∧ st16.limit = 50 from ⟨by rw [hM.live, S10.out.1]; decide, by rw [hM.limit, S10.out.2]⟩)
  have H21 := hidden (H11.out.made hM (fun k h => h.elim))
  clear C12 hM N9 S10 H11
  (try go_wp2_with fail)
  have V25 := hidden (show Vr F14 (w13.alloc (.cells #[.int .i64 4, .int .i64 t, .string ⟨#[]⟩] 29)) w13.heap.size ⟨4, t, ⟨#[]⟩⟩ from Vr.new ⟨4, t, ⟨#[]⟩⟩ H21.out.heap.inw)
  have K22 := (Keeps.refl (fun _ => False) w13).alloc (.cells #[.int .i64 4, .int .i64 t, .string ⟨#[]⟩] 29)
  have H26 := hidden (H21.out.calm K22)
  clear K22 H21
  generalize w13.heap.size = v23 at *
  generalize w13.alloc (.cells #[.int .i64 4, .int .i64 t, .string ⟨#[]⟩] 29) = w24 at *
  have C27 := hidden (heap_NewTable_nil _ _ _ _ _ H26.out.heap H26.out.ok (by rw [S20.out.1, S20.out.2]; decide))
  unfold V.val at C27
  obtain ⟨l280, l281, l282, l28z⟩ := V25.out.cells
  (try dsimp only [rV, iV, V.null] at l280 l281 l282)
  (try go_wp2_with fail)
  refine C27.out.mono ?_
  rintro e w29 ⟨d, pd, td, F30, HH31, st32, rfl, hM⟩
  have N33 := hidden (hM.new.old N17.out)
  have E34 := hidden (hM.new.ne N17.out)
  have N35 := hidden (hM.new.old N19.out)
  have E36 := hidden (hM.new.ne N19.out)
  have N37 := hidden (show HH31[d]? = some (some (pd, tableCl td [] 0)) from hM.new.at_)
  have S38 := hidden (show st32.live = 3 ∧ st32.limit = 50 from ⟨by rw [hM.live, S20.out.1]; decide, by rw [hM.limit, S20.out.2]⟩)
  have H39 := hidden (H26.out.made hM (fun k h => h.elim))
  have V40 := hidden (V25.out.step hM.keeps hM.fr)
  clear l280 l281 l282 l28z C27 hM N17 N19 S20 H26 V25
  obtain ⟨l410, l411, l412, l41z⟩ := V40.out.cells
  (try dsimp only [rV, iV, V.null] at l410 l411 l412)
  (try go_wp2_with fail)
  clear l410 l411 l412 l41z
  have V45 := hidden (show Vr F30 (w29.alloc (.cells #[.int .i64 4, .int .i64 d, .string ⟨#[]⟩] 29)) w29.heap.size ⟨4, d, ⟨#[]⟩⟩ from Vr.new ⟨4, d, ⟨#[]⟩⟩ H39.out.heap.inw)
  have K42 := (Keeps.refl (fun _ => False) w29).alloc (.cells #[.int .i64 4, .int .i64 d, .string ⟨#[]⟩] 29)
  have H46 := hidden (H39.out.calm K42)
  have V47 := hidden (V40.out.calm K42)
  clear K42 H39 V40
  generalize w29.heap.size = v43 at *
  generalize w29.alloc (.cells #[.int .i64 4, .int .i64 d, .string ⟨#[]⟩] 29) = w44 at *
  obtain ⟨l480, l481, l482, l48z⟩ := V47.out.cells
  (try dsimp only [rV, iV, V.null] at l480 l481 l482)
  obtain ⟨l490, l491, l492, l49z⟩ := V45.out.cells
  (try dsimp only [rV, iV, V.null] at l490 l491 l492)
  (try go_wp2_with fail)
  clear l480 l481 l482 l48z l490 l491 l492 l49z
  have SK50 := hidden (fun (W : World) (hk : Keeps (fun _ => False) w44 W) => show W.cell? ⟨v43, 0, none⟩ = some (.int .i64 4) ∧ W.cell? ⟨v43, 1, none⟩ = some (.int .i64 d) ∧ W.cell? ⟨v43, 2, none⟩ = some (.string ⟨#[]⟩) from (by have c0 := (V45.out.calm hk).cells; exact ⟨c0.1, c0.2.1, c0.2.2.1⟩))
  refine wp_region_noPanic ?_
  refine wp_region_held_drew (S := (fun W => W.cell? ⟨v43, 0, none⟩ = some (.int .i64 4) ∧ W.cell? ⟨v43, 1, none⟩ = some (.int .i64 d) ∧ W.cell? ⟨v43, 2, none⟩ = some (.string ⟨#[]⟩))) (by kernel_rfl) ?_ (fun hHeld => ?_)
  · ((try dsimp only); (first | done | exact SK50.out _ ((Keeps.refl _ w44).drew)))
  have KD51 := (Keeps.refl (fun _ => False) w44).drew
  have H53 := hidden (H46.out.calm KD51)
  have V54 := hidden (V47.out.calm KD51)
  have V55 := hidden (V45.out.calm KD51)
  clear KD51 H46 V47 V45
  generalize w44.drew = w52 at *
  clear SK50
  refine wpAnyH_take (i := 0) (oi := ⟨_, _, _, _, _, _⟩) (v := ?_) rfl (by kernel_rfl) (by kernel_rfl) (by kernel_rfl) (fun _ _ _ h => h) (Or.inl ⟨by rfl, ?_⟩) hHeld ?_
  rotate_left
  · (intro w' hSw; (try dsimp only at hSw); go_simp; (try with_reducible rfl))
  try simp only [Act.put, List.setIfInBounds_toArray, List.set_cons_zero, List.set_cons_succ]
  refine wpAnyH_take (i := 1) (oi := ⟨_, _, _, _, _, _⟩) (v := ?_) rfl (by kernel_rfl) (by kernel_rfl) (by kernel_rfl) (fun _ _ _ h => h) (Or.inl ⟨by rfl, ?_⟩) hHeld ?_
  rotate_left
  · (intro w' hSw; (try dsimp only at hSw); go_simp; (try with_reducible rfl))
  try simp only [Act.put, List.setIfInBounds_toArray, List.set_cons_zero, List.set_cons_succ]
  refine wpAnyH_take (i := 3) (oi := ⟨_, _, _, _, _, _⟩) (v := ?_) rfl (by kernel_rfl) (by kernel_rfl) (by kernel_rfl) (fun _ _ _ h => h) (Or.inl ⟨by rfl, ?_⟩) hHeld ?_
  rotate_left
  · (intro w' hSw; (try dsimp only at hSw); go_simp; (try with_reducible rfl))
  try simp only [Act.put, List.setIfInBounds_toArray, List.set_cons_zero, List.set_cons_succ]
  refine wpAnyH_ready (rs := [2]) (by kernel_rfl) (by simp) ?_
  refine AllReadyH.cons (o := ⟨_, _, _, _, _, _⟩) rfl (fun K hK => ?_) AllReadyH.nil
  go_simp
  have C56 := hidden (value_Str ⟨#[95, 97, 100, 100]⟩ w52)
  unfold V.val at C56
  (first | (go_at_call 16; refine C56.out.mono ?_))
  rintro e w57 ⟨rfl, hK1⟩
  have H58 := hidden (H53.out.calm hK1)
  have V59 := hidden (V54.out.calm hK1)
  have V60 := hidden (V55.out.calm hK1)
  clear C56 hK1 H53 V54 V55
  (try go_wp2_with fail)
  refine hK.out _ _ ?_ (fun hH2 => ?_)
  · ((try dsimp only); (first | done | exact (by have c0 := (V60.out).cells; exact ⟨c0.1, c0.2.1, c0.2.2.1⟩)))
  clear hK K hHeld
  have hHeld := hH2
  clear hH2
  try simp only [Act.put, List.setIfInBounds_toArray, List.set_cons_zero, List.set_cons_succ]
  refine wpAnyH_ready (rs := [4]) (by kernel_rfl) (by simp) ?_
  refine AllReadyH.cons (o := ⟨_, _, _, _, _, _⟩) rfl (fun K hK => ?_) AllReadyH.nil
  go_simp
  have C61 := hidden (heap_Ref f w57)
  unfold V.val at C61
  (first | (go_at_call 12; refine C61.out.mono ?_))
  rintro e w62 ⟨rfl, hK1⟩
  have H63 := hidden (H58.out.calm hK1)
  have V64 := hidden (V59.out.calm hK1)
  have V65 := hidden (V60.out.calm hK1)
  clear C61 hK1 H58 V59 V60
  (try go_wp2_with fail)
  refine hK.out _ _ ?_ (fun hH2 => ?_)
  · ((try dsimp only); (first | done | exact (by have c0 := (V65.out).cells; exact ⟨c0.1, c0.2.1, c0.2.2.1⟩)))
  clear hK K hHeld
  have hHeld := hH2
  clear hH2
  try simp only [Act.put, List.setIfInBounds_toArray, List.set_cons_zero, List.set_cons_succ]
  refine wpAnyH_ready (rs := [5]) (by kernel_rfl) (by simp) ?_
  refine AllReadyH.cons (o := ⟨_, _, _, _, _, _⟩) rfl (fun K hK => ?_) AllReadyH.nil
  go_simp
  have C66 := hidden (slot_New H63.out.heap N37.out (.inl rfl) rfl (by decide) ⟨#[]⟩ ⟨3, 0, ⟨#[95, 97, 100, 100]⟩⟩ ⟨4, f, ⟨#[]⟩⟩ (by decide) (by decide) (by decide))
  unfold V.val at C66
  (first | (go_at_call 17; refine C66.out.mono ?_))
  rintro e w67 ⟨F68, rfl, g1, g2, g3⟩
  have N70 := hidden (show (tabH HH31 d pd (tableCl td [] 0) td (putE [] 0 ⟨3, 0, ⟨#[95, 97, 100, 100]⟩⟩ ⟨4, f, ⟨#[]⟩⟩))[f]? = some (some (pf, kindCl 5)) from set_old N33.out E34.out)
  have N71 := hidden (show (tabH HH31 d pd (tableCl td [] 0) td (putE [] 0 ⟨3, 0, ⟨#[95, 97, 100, 100]⟩⟩ ⟨4, f, ⟨#[]⟩⟩))[t]? = some (some (pt, tableCl tt [] 0)) from set_old N35.out E36.out)
  have N72 := hidden (show (tabH HH31 d pd (tableCl td [] 0) td (putE [] 0 ⟨3, 0, ⟨#[95, 97, 100, 100]⟩⟩ ⟨4, f, ⟨#[]⟩⟩))[d]? = some (some (pd, tableCl td [⟨⟨3, 0, ⟨#[95, 97, 100, 100]⟩⟩, ⟨4, f, ⟨#[]⟩⟩, 1, false⟩] 1)) from tabH_at N37.out)
  have H73 := hidden (show Hd w hb F68 (tabH HH31 d pd (tableCl td [] 0) td (putE [] 0 ⟨3, 0, ⟨#[95, 97, 100, 100]⟩⟩ ⟨4, f, ⟨#[]⟩⟩)) st32 w67 from H63.out.turn2 N37.out g1 g2 g3)
  have V74 := hidden (V64.out.step g2 g3)
  have V75 := hidden (V65.out.step g2 g3)
  clear C66 g1 g2 g3 N33 N35 N37 H63 V64 V65
  generalize tabH HH31 d pd (tableCl td [] 0) td (putE [] 0 ⟨3, 0, ⟨#[95, 97, 100, 100]⟩⟩ ⟨4, f, ⟨#[]⟩⟩) = HH69 at *
  (try go_wp2_with fail)
  refine hK.out _ _ ?_ (fun hH2 => ?_)
  · ((try dsimp only); (first | done | exact (by have c0 := (V75.out).cells; exact ⟨c0.1, c0.2.1, c0.2.2.1⟩)))
  clear hK K hHeld
  have hHeld := hH2
  clear hH2
  try simp only [Act.put, List.setIfInBounds_toArray, List.set_cons_zero, List.set_cons_succ]
  refine wpAnyH_done (by kernel_rfl) ?_ _
  refine NoPanic.normal ?_
  clear hHeld
  have C76 := hidden (slot_SetDelegate_ok H73.out.heap N71.out rfl (b := V.null) (bs := []) rfl (dt := ⟨4, d, ⟨#[]⟩⟩) (l := [rV d]) (.cons N72.out rfl rfl (.nil rfl)) (by simp) (by have := E36.out; simp [rV]; omega))
  unfold V.val at C76
  obtain ⟨l770, l771, l772, l77z⟩ := V74.out.cells
  (try dsimp only [rV, iV, V.null] at l770 l771 l772)
  obtain ⟨l780, l781, l782, l78z⟩ := V75.out.cells
  (try dsimp only [rV, iV, V.null] at l780 l781 l782)
  (try go_wp2_with fail)
  refine C76.out.mono ?_
  rintro e w79 ⟨F80, rfl, g1, g2, g3⟩
  have N82 := hidden (show (HH69.set t (some (pt, { tableCl tt [] 0 with vals := [⟨4, d, ⟨#[]⟩⟩] })))[f]? = some (some (pf, kindCl 5)) from set_old N70.out E18.out)
  have N83 := hidden (show (HH69.set t (some (pt, { tableCl tt [] 0 with vals := [⟨4, d, ⟨#[]⟩⟩] })))[t]? = some (some (pt, { tableCl tt [] 0 with vals := [⟨4, d, ⟨#[]⟩⟩] })) from set_self N71.out)
  have N84 := hidden (show (HH69.set t (some (pt, { tableCl tt [] 0 with vals := [⟨4, d, ⟨#[]⟩⟩] })))[d]? = some (some (pd, tableCl td [⟨⟨3, 0, ⟨#[95, 97, 100, 100]⟩⟩, ⟨4, f, ⟨#[]⟩⟩, 1, false⟩] 1)) from set_old N72.out (Ne.symm E36.out))
  have H85 := hidden (show Hd w hb F80 (HH69.set t (some (pt, { tableCl tt [] 0 with vals := [⟨4, d, ⟨#[]⟩⟩] }))) st32 w79 from H73.out.turn2 N71.out g1 g2 g3)
  have V86 := hidden (V74.out.step g2 g3)
  have V87 := hidden (V75.out.step g2 g3)
  clear l770 l771 l772 l77z l780 l781 l782 l78z C76 g1 g2 g3 N70 N71 N72 H73 V74 V75
  generalize HH69.set t (some (pt, { tableCl tt [] 0 with vals := [⟨4, d, ⟨#[]⟩⟩] })) = HH81 at *
  have C88 := hidden (meta_Find_tableF H85.out.heap N83.out rfl (bs := []) rfl N84.out rfl (ls := [[⟨⟨3, 0, ⟨#[95, 97, 100, 100]⟩⟩, ⟨4, f, ⟨#[]⟩⟩, 1, false⟩]]) (.cons N84.out rfl rfl (by decide) rfl (.nil rfl)) (by simp) ⟨#[95, 97, 100, 100]⟩ (by decide) (f := f) (by simp [tabR, getR]) N82.out)
  unfold V.val at C88
  obtain ⟨l890, l891, l892, l89z⟩ := V86.out.cells
  (try dsimp only [rV, iV, V.null] at l890 l891 l892)
  obtain ⟨l900, l901, l902, l90z⟩ := V87.out.cells
  (try dsimp only [rV, iV, V.null] at l900 l901 l902)
  (try go_wp2_with fail)
  refine C88.out.mono ?_
  rintro e w91 ⟨rfl, hK⟩
  have H92 := hidden (H85.out.calm hK)
  have V93 := hidden (V86.out.calm hK)
  have V94 := hidden (V87.out.calm hK)
  clear l890 l891 l892 l89z l900 l901 l902 l90z C88 hK H85 V86 V87
  obtain ⟨l950, l951, l952, l95z⟩ := V93.out.cells
  (try dsimp only [rV, iV, V.null] at l950 l951 l952)
  obtain ⟨l960, l961, l962, l96z⟩ := V94.out.cells
  (try dsimp only [rV, iV, V.null] at l960 l961 l962)
  (try go_wp2_with fail)
  clear l950 l951 l952 l95z l960 l961 l962 l96z
  have V100 := hidden (show Vr F80 (w91.alloc (.cells #[.int .i64 4, .int .i64 f, .string ⟨#[]⟩] 29)) w91.heap.size ⟨4, f, ⟨#[]⟩⟩ from Vr.new ⟨4, f, ⟨#[]⟩⟩ H92.out.heap.inw)
  have K97 := (Keeps.refl (fun _ => False) w91).alloc (.cells #[.int .i64 4, .int .i64 f, .string ⟨#[]⟩] 29)
  have H101 := hidden (H92.out.calm K97)
  have V102 := hidden (V93.out.calm K97)
  have V103 := hidden (V94.out.calm K97)
  clear K97 H92 V93 V94
  generalize w91.heap.size = v98 at *
  generalize w91.alloc (.cells #[.int .i64 4, .int .i64 f, .string ⟨#[]⟩] 29) = w99 at *
  have C104 := hidden (meta_Find_none (w := w99) ⟨4, d, ⟨#[]⟩⟩ V.null 0 (.inr rfl) (fun W hk => slot_Delegate_ok (H101.out.heap.calm hk) N84.out rfl (b := V.null) (bs := []) rfl ⟨#[]⟩) (fun W hk => lay_Of_no (H101.out.heap.calm hk) ⟨4, d, ⟨#[]⟩⟩ (by rw [ofR_kind N84.out ⟨#[]⟩ (by decide) (show (2 : Int) ≠ 4 by decide)]; decide)) ⟨#[95, 97, 100, 100]⟩)
  unfold V.val V.null at C104
  obtain ⟨l1050, l1051, l1052, l105z⟩ := V102.out.cells
  (try dsimp only [rV, iV, V.null] at l1050 l1051 l1052)
  obtain ⟨l1060, l1061, l1062, l106z⟩ := V103.out.cells
  (try dsimp only [rV, iV, V.null] at l1060 l1061 l1062)
  obtain ⟨l1070, l1071, l1072, l107z⟩ := V100.out.cells
  (try dsimp only [rV, iV, V.null] at l1070 l1071 l1072)
  (try go_wp2_with fail)
  refine C104.out.mono ?_
  rintro e w108 ⟨rfl, hK⟩
  have H109 := hidden (H101.out.calm hK)
  have V110 := hidden (V102.out.calm hK)
  have V111 := hidden (V103.out.calm hK)
  have V112 := hidden (V100.out.calm hK)
  clear l1050 l1051 l1052 l105z l1060 l1061 l1062 l106z l1070 l1071 l1072 l107z C104 hK H101 V102 V103 V100
  obtain ⟨l1130, l1131, l1132, l113z⟩ := V110.out.cells
  (try dsimp only [rV, iV, V.null] at l1130 l1131 l1132)
  obtain ⟨l1140, l1141, l1142, l114z⟩ := V111.out.cells
  (try dsimp only [rV, iV, V.null] at l1140 l1141 l1142)
  obtain ⟨l1150, l1151, l1152, l115z⟩ := V112.out.cells
  (try dsimp only [rV, iV, V.null] at l1150 l1151 l1152)
  (try go_wp2_with fail)
  clear l1130 l1131 l1132 l113z l1140 l1141 l1142 l114z l1150 l1151 l1152 l115z
  have V119 := hidden (show Vr F80 (w108.alloc (.cells #[.int .i64 0, .int .i64 0, .string ⟨#[]⟩] 29)) w108.heap.size ⟨0, 0, ⟨#[]⟩⟩ from Vr.new ⟨0, 0, ⟨#[]⟩⟩ H109.out.heap.inw)
  have K116 := (Keeps.refl (fun _ => False) w108).alloc (.cells #[.int .i64 0, .int .i64 0, .string ⟨#[]⟩] 29)
  have H120 := hidden (H109.out.calm K116)
  have V121 := hidden (V110.out.calm K116)
  have V122 := hidden (V111.out.calm K116)
  have V123 := hidden (V112.out.calm K116)
  clear K116 H109 V110 V111 V112
  generalize w108.heap.size = v117 at *
  generalize w108.alloc (.cells #[.int .i64 0, .int .i64 0, .string ⟨#[]⟩] 29) = w118 at *
  obtain ⟨l1240, l1241, l1242, l124z⟩ := V121.out.cells
  (try dsimp only [rV, iV, V.null] at l1240 l1241 l1242)
  obtain ⟨l1250, l1251, l1252, l125z⟩ := V122.out.cells
  (try dsimp only [rV, iV, V.null] at l1250 l1251 l1252)
  obtain ⟨l1260, l1261, l1262, l126z⟩ := V123.out.cells
  (try dsimp only [rV, iV, V.null] at l1260 l1261 l1262)
  obtain ⟨l1270, l1271, l1272, l127z⟩ := V119.out.cells
  (try dsimp only [rV, iV, V.null] at l1270 l1271 l1272)
  (try go_wp2_with fail)
  clear l1240 l1241 l1242 l124z l1250 l1251 l1252 l125z l1260 l1261 l1262 l126z l1270 l1271 l1272 l127z
  -- region 10
  have SK129 := hidden (fun (W : World) (hk : Keeps (fun k => w118.heap.size ≤ k) w118 W) => show W.cell? ⟨v23, 0, none⟩ = some (.int .i64 4) ∧ W.cell? ⟨v23, 1, none⟩ = some (.int .i64 t) ∧ W.cell? ⟨v23, 2, none⟩ = some (.string ⟨#[]⟩) from (by have c0 := (V121.out.beyond hk).cells; exact ⟨c0.1, c0.2.1, c0.2.2.1⟩))
  have C130 := hidden (fun (W : World) (hk : Keeps (fun _ => False) w118 W) => value_Int 1 W)
  unfold V.val at C130
  (try dsimp only [rV, iV] at C130)
  have C131 := hidden (fun (W : World) (hk : Keeps (fun _ => False) w118 W) => meta_Arith_ask (w := W) 10 t ⟨#[]⟩ 2 1 ⟨#[]⟩ 4 f ⟨#[]⟩ (by decide +kernel) (fun W2 hk2 => meta_Find_tableF ((H120.out.calm (hk.trans hk2 (fun _ _ h => h))).heap) N83.out rfl (bs := []) rfl N84.out rfl (ls := [[⟨⟨3, 0, ⟨#[95, 97, 100, 100]⟩⟩, ⟨4, f, ⟨#[]⟩⟩, 1, false⟩]]) (.cons N84.out rfl rfl (by decide) rfl (.nil rfl)) (by simp) (opName 10) (opName_size _) (f := f) (by simp [tabR, getR, opName]) N82.out))
  unfold V.val at C131
  (try dsimp only [rV, iV] at C131)
  refine wp_region_noPanic ?_
  refine wp_region_held_drew (S := (fun W => W.cell? ⟨v23, 0, none⟩ = some (.int .i64 4) ∧ W.cell? ⟨v23, 1, none⟩ = some (.int .i64 t) ∧ W.cell? ⟨v23, 2, none⟩ = some (.string ⟨#[]⟩))) (by kernel_rfl) ?_ (fun hHeld => ?_)
  · ((try dsimp only); exact SK129.out _ ((Keeps.refl _ w118).drew))
  refine wpAnyH_take (i := 0) (oi := ⟨_, _, _, _, _, _⟩) (v := ?_) rfl (by kernel_rfl) (by kernel_rfl) (by kernel_rfl) (fun _ _ _ h => h) (Or.inl ⟨by rfl, ?_⟩) hHeld ?_
  rotate_left
  · (intro w' hSw; (try dsimp only at hSw); go_simp; (try with_reducible rfl))
  try simp only [Act.put, List.setIfInBounds_toArray, List.set_cons_zero, List.set_cons_succ]
  refine wpAnyH_take (i := 1) (oi := ⟨_, _, _, _, _, _⟩) (v := ?_) rfl (by kernel_rfl) (by kernel_rfl) (by kernel_rfl) (fun _ _ _ h => h) (Or.inl ⟨by rfl, ?_⟩) hHeld ?_
  rotate_left
  · (intro w' hSw; (try dsimp only at hSw); go_simp; (try with_reducible rfl))
  try simp only [Act.put, List.setIfInBounds_toArray, List.set_cons_zero, List.set_cons_succ]
  have KDx127 := hidden ((Keeps.refl (fun _ => False) w118).drew)
  generalize w118.drew = wdx127 at *
  clear hHeld
  refine merge2 ?PPx127 (fun TAIL => ?_) ?_
  rotate_left
  · refine wpAnyH_ready (rs := [2, 8, 9]) (by kernel_rfl) (by simp) ?_
    refine AllReadyH.cons (o := ⟨_, _, _, _, _, _⟩) rfl (fun K hK => ?_) (AllReadyH.cons (o := ⟨_, _, _, _, _, _⟩) rfl (fun K hK => ?_) (AllReadyH.cons (o := ⟨_, _, _, _, _, _⟩) rfl (fun K hK => ?_) AllReadyH.nil))
    · go_simp
      (first | (go_at_call 9; refine (C130.out wdx127 KDx127.out).mono ?_; rintro e wcx1271 ⟨rfl, h1⟩))
      go_wp2_with fail
      have KCx1271 := hidden (KDx127.out.trans h1 (fun _ _ h => h))
      refine hK.out _ _ ?_ (fun hH2 => ?_)
      · ((try dsimp only); exact SK129.out _ (KCx1271.out.mono (fun _ _ h => h.elim)))
      clear hK K hH2
      try simp only [Act.put, List.setIfInBounds_toArray, List.set_cons_zero, List.set_cons_succ]
      clear h1 
      refine wpAnyH_ready (rs := [3, 8, 9]) (by kernel_rfl) (by simp) ?_
      refine AllReadyH.cons (o := ⟨_, _, _, _, _, _⟩) rfl (fun K hK => ?_) (AllReadyH.cons (o := ⟨_, _, _, _, _, _⟩) rfl (fun K hK => ?_) (AllReadyH.cons (o := ⟨_, _, _, _, _, _⟩) rfl (fun K hK => ?_) AllReadyH.nil))
      · go_simp
        (first | (go_at_call 23; refine (C131.out wcx1271 KCx1271.out).mono ?_; rintro e wcx1272 ⟨rfl, h1⟩))
        go_wp2_with fail
        have KCx1272 := hidden (KCx1271.out.trans h1 (fun _ _ h => h))
        refine hK.out _ _ ?_ (fun hH2 => ?_)
        · ((try dsimp only); exact SK129.out _ (KCx1272.out.mono (fun _ _ h => h.elim)))
        clear hK K hH2
        try simp only [Act.put, List.setIfInBounds_toArray, List.set_cons_zero, List.set_cons_succ]
        clear h1 KCx1271
        have hHeld := SK129.out _ (KCx1272.out.mono (fun _ _ h => h.elim))
        (try dsimp only at hHeld)
        refine wpAnyH_take (i := 4) (oi := ⟨_, _, _, _, _, _⟩) (v := ?_) rfl (by kernel_rfl) (by kernel_rfl) (by kernel_rfl) (fun _ _ _ h => h) (Or.inl ⟨by rfl, ?_⟩) hHeld ?_
        rotate_left
        · (intro w' hSw; (try dsimp only at hSw); go_simp; (try with_reducible rfl))
        try simp only [Act.put, List.setIfInBounds_toArray, List.set_cons_zero, List.set_cons_succ]
        refine wpAnyH_take (i := 5) (oi := ⟨_, _, _, _, _, _⟩) (v := ?_) rfl (by kernel_rfl) (by kernel_rfl) (by kernel_rfl) (fun _ _ _ h => h) (Or.inl ⟨by rfl, ?_⟩) hHeld ?_
        rotate_left
        · (intro w' hSw; (try dsimp only at hSw); go_simp; (try with_reducible rfl))
        try simp only [Act.put, List.setIfInBounds_toArray, List.set_cons_zero, List.set_cons_succ]
        refine wpAnyH_take (i := 6) (oi := ⟨_, _, _, _, _, _⟩) (v := ?_) rfl (by kernel_rfl) (by kernel_rfl) (by kernel_rfl) (fun _ _ _ h => h) (Or.inl ⟨by rfl, ?_⟩) hHeld ?_
        rotate_left
        · (intro w' hSw; (try dsimp only at hSw); go_simp; (try with_reducible rfl))
        try simp only [Act.put, List.setIfInBounds_toArray, List.set_cons_zero, List.set_cons_succ]
        refine wpAnyH_take (i := 7) (oi := ⟨_, _, _, _, _, _⟩) (v := ?_) rfl (by kernel_rfl) (by kernel_rfl) (by kernel_rfl) (fun _ _ _ h => h) (Or.inl ⟨by rfl, ?_⟩) hHeld ?_
        rotate_left
        · (intro w' hSw; (try dsimp only at hSw); go_simp; (try with_reducible rfl))
        try simp only [Act.put, List.setIfInBounds_toArray, List.set_cons_zero, List.set_cons_succ]
        clear hHeld
        refine wpAnyH_ready (rs := [8, 9]) (by kernel_rfl) (by simp) ?_
        refine AllReadyH.cons (o := ⟨_, _, _, _, _, _⟩) rfl (fun K hK => ?_) (AllReadyH.cons (o := ⟨_, _, _, _, _, _⟩) rfl (fun K hK => ?_) AllReadyH.nil)
        · go_simp
          refine hK.out _ _ ?_ (fun hH2 => ?_)
          · ((try dsimp only); exact SK129.out _ ((KCx1272.out.alloc _).mono (fun _ _ h => h.elim)))
          clear hK K hH2
          try simp only [Act.put, List.setIfInBounds_toArray, List.set_cons_zero, List.set_cons_succ]
          have KAx1273 := hidden (KCx1272.out.alloc (.cells #[.int .i64 0, .int .i64 0, .string ⟨#[]⟩] 29))
          have XX3 := hidden (show IsVar (wcx1272.alloc (.cells #[.int .i64 0, .int .i64 0, .string ⟨#[]⟩] 29)) wcx1272.heap.size V.null from IsVar.new wcx1272 V.null)
          have GG3 := hidden (show w118.heap.size ≤ wcx1272.heap.size from KCx1272.out.size)
          clear KCx1272
          generalize wcx1272.heap.size = rx1270_3 at *
          generalize wcx1272.alloc (.cells #[.int .i64 0, .int .i64 0, .string ⟨#[]⟩] 29) = wax1273 at *
          refine wpAnyH_ready (rs := [9]) (by kernel_rfl) (by simp) ?_
          refine AllReadyH.cons (o := ⟨_, _, _, _, _, _⟩) rfl (fun K hK => ?_) AllReadyH.nil
          go_simp
          refine hK.out _ _ ?_ (fun hH2 => ?_)
          · ((try dsimp only); exact SK129.out _ ((KAx1273.out.alloc _).mono (fun _ _ h => h.elim)))
          clear hK K hH2
          try simp only [Act.put, List.setIfInBounds_toArray, List.set_cons_zero, List.set_cons_succ]
          have KAx1274 := hidden (KAx1273.out.alloc (.cells #[.int .i64 0, .int .i64 0, .string ⟨#[]⟩] 29))
          have XX4 := hidden (show IsVar (wax1273.alloc (.cells #[.int .i64 0, .int .i64 0, .string ⟨#[]⟩] 29)) wax1273.heap.size V.null from IsVar.new wax1273 V.null)
          have GG4 := hidden (show w118.heap.size ≤ wax1273.heap.size from KAx1273.out.size)
          have NN4_0 := hidden (show rx1270_3 ≠ wax1273.heap.size from Nat.ne_of_lt (blk_lt XX3.out))
          have XX4_0 := hidden (show IsVar (wax1273.alloc (.cells #[.int .i64 0, .int .i64 0, .string ⟨#[]⟩] 29)) rx1270_3 V.null from blk_alloc XX3.out (.cells #[.int .i64 0, .int .i64 0, .string ⟨#[]⟩] 29))
          clear KAx1273
          generalize wax1273.heap.size = rx1271_4 at *
          generalize wax1273.alloc (.cells #[.int .i64 0, .int .i64 0, .string ⟨#[]⟩] 29) = wax1274 at *
          have ALL := hidden (show Keeps (fun _ => False) w118 wax1274 ∧ IsVar wax1274 rx1270_3 V.null ∧ IsVar wax1274 rx1271_4 V.null ∧ w118.heap.size ≤ rx1270_3 ∧ w118.heap.size ≤ rx1271_4 ∧ rx1270_3 ≠ rx1271_4 from ⟨KAx1274.out, XX4_0.out, XX4.out, GG3.out, GG4.out, NN4_0.out⟩)
          revert ALL
          exact TAIL rx1270_3 rx1271_4 wax1274
        · go_simp
          refine hK.out _ _ ?_ (fun hH2 => ?_)
          · ((try dsimp only); exact SK129.out _ ((KCx1272.out.alloc _).mono (fun _ _ h => h.elim)))
          clear hK K hH2
          try simp only [Act.put, List.setIfInBounds_toArray, List.set_cons_zero, List.set_cons_succ]
          have KAx1275 := hidden (KCx1272.out.alloc (.cells #[.int .i64 0, .int .i64 0, .string ⟨#[]⟩] 29))
          have XX5 := hidden (show IsVar (wcx1272.alloc (.cells #[.int .i64 0, .int .i64 0, .string ⟨#[]⟩] 29)) wcx1272.heap.size V.null from IsVar.new wcx1272 V.null)
          have GG5 := hidden (show w118.heap.size ≤ wcx1272.heap.size from KCx1272.out.size)
          clear KCx1272
          generalize wcx1272.heap.size = rx1271_5 at *
          generalize wcx1272.alloc (.cells #[.int .i64 0, .int .i64 0, .string ⟨#[]⟩] 29) = wax1275 at *
          refine wpAnyH_ready (rs := [8]) (by kernel_rfl) (by simp) ?_
          refine AllReadyH.cons (o := ⟨_, _, _, _, _, _⟩) rfl (fun K hK => ?_) AllReadyH.nil
          go_simp
          refine hK.out _ _ ?_ (fun hH2 => ?_)
          · ((try dsimp only); exact SK129.out _ ((KAx1275.out.alloc _).mono (fun _ _ h => h.elim)))
          clear hK K hH2
          try simp only [Act.put, List.setIfInBounds_toArray, List.set_cons_zero, List.set_cons_succ]
          have KAx1276 := hidden (KAx1275.out.alloc (.cells #[.int .i64 0, .int .i64 0, .string ⟨#[]⟩] 29))
          have XX6 := hidden (show IsVar (wax1275.alloc (.cells #[.int .i64 0, .int .i64 0, .string ⟨#[]⟩] 29)) wax1275.heap.size V.null from IsVar.new wax1275 V.null)
          have GG6 := hidden (show w118.heap.size ≤ wax1275.heap.size from KAx1275.out.size)
          have NN6_1 := hidden (show wax1275.heap.size ≠ rx1271_5 from Ne.symm (Nat.ne_of_lt (blk_lt XX5.out)))
          have XX6_1 := hidden (show IsVar (wax1275.alloc (.cells #[.int .i64 0, .int .i64 0, .string ⟨#[]⟩] 29)) rx1271_5 V.null from blk_alloc XX5.out (.cells #[.int .i64 0, .int .i64 0, .string ⟨#[]⟩] 29))
          clear KAx1275
          generalize wax1275.heap.size = rx1270_6 at *
          generalize wax1275.alloc (.cells #[.int .i64 0, .int .i64 0, .string ⟨#[]⟩] 29) = wax1276 at *
          have ALL := hidden (show Keeps (fun _ => False) w118 wax1276 ∧ IsVar wax1276 rx1270_6 V.null ∧ IsVar wax1276 rx1271_5 V.null ∧ w118.heap.size ≤ rx1270_6 ∧ w118.heap.size ≤ rx1271_5 ∧ rx1270_6 ≠ rx1271_5 from ⟨KAx1276.out, XX6.out, XX6_1.out, GG6.out, GG5.out, NN6_1.out⟩)
          revert ALL
          exact TAIL rx1270_6 rx1271_5 wax1276
      · go_simp
        refine hK.out _ _ ?_ (fun hH2 => ?_)
        · ((try dsimp only); exact SK129.out _ ((KCx1271.out.alloc _).mono (fun _ _ h => h.elim)))
        clear hK K hH2
        try simp only [Act.put, List.setIfInBounds_toArray, List.set_cons_zero, List.set_cons_succ]
        have KAx1277 := hidden (KCx1271.out.alloc (.cells #[.int .i64 0, .int .i64 0, .string ⟨#[]⟩] 29))
        have XX7 := hidden (show IsVar (wcx1271.alloc (.cells #[.int .i64 0, .int .i64 0, .string ⟨#[]⟩] 29)) wcx1271.heap.size V.null from IsVar.new wcx1271 V.null)
        have GG7 := hidden (show w118.heap.size ≤ wcx1271.heap.size from KCx1271.out.size)
        clear KCx1271
        generalize wcx1271.heap.size = rx1270_7 at *
        generalize wcx1271.alloc (.cells #[.int .i64 0, .int .i64 0, .string ⟨#[]⟩] 29) = wax1277 at *
        refine wpAnyH_ready (rs := [3, 9]) (by kernel_rfl) (by simp) ?_
        refine AllReadyH.cons (o := ⟨_, _, _, _, _, _⟩) rfl (fun K hK => ?_) (AllReadyH.cons (o := ⟨_, _, _, _, _, _⟩) rfl (fun K hK => ?_) AllReadyH.nil)
        · go_simp
          (first | (go_at_call 23; refine (C131.out wax1277 KAx1277.out).mono ?_; rintro e wcx1278 ⟨rfl, h1⟩))
          go_wp2_with fail
          have KCx1278 := hidden (KAx1277.out.trans h1 (fun _ _ h => h))
          refine hK.out _ _ ?_ (fun hH2 => ?_)
          · ((try dsimp only); exact SK129.out _ (KCx1278.out.mono (fun _ _ h => h.elim)))
          clear hK K hH2
          try simp only [Act.put, List.setIfInBounds_toArray, List.set_cons_zero, List.set_cons_succ]
          have XX8_0 := hidden (show IsVar wcx1278 rx1270_7 V.null from XX7.out.keeps h1 (fun h => h))
          clear h1 KAx1277
          have hHeld := SK129.out _ (KCx1278.out.mono (fun _ _ h => h.elim))
          (try dsimp only at hHeld)
          refine wpAnyH_take (i := 4) (oi := ⟨_, _, _, _, _, _⟩) (v := ?_) rfl (by kernel_rfl) (by kernel_rfl) (by kernel_rfl) (fun _ _ _ h => h) (Or.inl ⟨by rfl, ?_⟩) hHeld ?_
          rotate_left
          · (intro w' hSw; (try dsimp only at hSw); go_simp; (try with_reducible rfl))
          try simp only [Act.put, List.setIfInBounds_toArray, List.set_cons_zero, List.set_cons_succ]
          refine wpAnyH_take (i := 5) (oi := ⟨_, _, _, _, _, _⟩) (v := ?_) rfl (by kernel_rfl) (by kernel_rfl) (by kernel_rfl) (fun _ _ _ h => h) (Or.inl ⟨by rfl, ?_⟩) hHeld ?_
          rotate_left
          · (intro w' hSw; (try dsimp only at hSw); go_simp; (try with_reducible rfl))
          try simp only [Act.put, List.setIfInBounds_toArray, List.set_cons_zero, List.set_cons_succ]
          refine wpAnyH_take (i := 6) (oi := ⟨_, _, _, _, _, _⟩) (v := ?_) rfl (by kernel_rfl) (by kernel_rfl) (by kernel_rfl) (fun _ _ _ h => h) (Or.inl ⟨by rfl, ?_⟩) hHeld ?_
          rotate_left
          · (intro w' hSw; (try dsimp only at hSw); go_simp; (try with_reducible rfl))
          try simp only [Act.put, List.setIfInBounds_toArray, List.set_cons_zero, List.set_cons_succ]
          refine wpAnyH_take (i := 7) (oi := ⟨_, _, _, _, _, _⟩) (v := ?_) rfl (by kernel_rfl) (by kernel_rfl) (by kernel_rfl) (fun _ _ _ h => h) (Or.inl ⟨by rfl, ?_⟩) hHeld ?_
          rotate_left
          · (intro w' hSw; (try dsimp only at hSw); go_simp; (try with_reducible rfl))
          try simp only [Act.put, List.setIfInBounds_toArray, List.set_cons_zero, List.set_cons_succ]
          clear hHeld
          refine wpAnyH_ready (rs := [9]) (by kernel_rfl) (by simp) ?_
          refine AllReadyH.cons (o := ⟨_, _, _, _, _, _⟩) rfl (fun K hK => ?_) AllReadyH.nil
          go_simp
          refine hK.out _ _ ?_ (fun hH2 => ?_)
          · ((try dsimp only); exact SK129.out _ ((KCx1278.out.alloc _).mono (fun _ _ h => h.elim)))
          clear hK K hH2
          try simp only [Act.put, List.setIfInBounds_toArray, List.set_cons_zero, List.set_cons_succ]
          have KAx1279 := hidden (KCx1278.out.alloc (.cells #[.int .i64 0, .int .i64 0, .string ⟨#[]⟩] 29))
          have XX9 := hidden (show IsVar (wcx1278.alloc (.cells #[.int .i64 0, .int .i64 0, .string ⟨#[]⟩] 29)) wcx1278.heap.size V.null from IsVar.new wcx1278 V.null)
          have GG9 := hidden (show w118.heap.size ≤ wcx1278.heap.size from KCx1278.out.size)
          have NN9_0 := hidden (show rx1270_7 ≠ wcx1278.heap.size from Nat.ne_of_lt (blk_lt XX8_0.out))
          have XX9_0 := hidden (show IsVar (wcx1278.alloc (.cells #[.int .i64 0, .int .i64 0, .string ⟨#[]⟩] 29)) rx1270_7 V.null from blk_alloc XX8_0.out (.cells #[.int .i64 0, .int .i64 0, .string ⟨#[]⟩] 29))
          clear KCx1278
          generalize wcx1278.heap.size = rx1271_9 at *
          generalize wcx1278.alloc (.cells #[.int .i64 0, .int .i64 0, .string ⟨#[]⟩] 29) = wax1279 at *
          have ALL := hidden (show Keeps (fun _ => False) w118 wax1279 ∧ IsVar wax1279 rx1270_7 V.null ∧ IsVar wax1279 rx1271_9 V.null ∧ w118.heap.size ≤ rx1270_7 ∧ w118.heap.size ≤ rx1271_9 ∧ rx1270_7 ≠ rx1271_9 from ⟨KAx1279.out, XX9_0.out, XX9.out, GG7.out, GG9.out, NN9_0.out⟩)
          revert ALL
          exact TAIL rx1270_7 rx1271_9 wax1279
        · go_simp
          refine hK.out _ _ ?_ (fun hH2 => ?_)
          · ((try dsimp only); exact SK129.out _ ((KAx1277.out.alloc _).mono (fun _ _ h => h.elim)))
          clear hK K hH2
          try simp only [Act.put, List.setIfInBounds_toArray, List.set_cons_zero, List.set_cons_succ]
          have KAx12710 := hidden (KAx1277.out.alloc (.cells #[.int .i64 0, .int .i64 0, .string ⟨#[]⟩] 29))
          have XX10 := hidden (show IsVar (wax1277.alloc (.cells #[.int .i64 0, .int .i64 0, .string ⟨#[]⟩] 29)) wax1277.heap.size V.null from IsVar.new wax1277 V.null)
          have GG10 := hidden (show w118.heap.size ≤ wax1277.heap.size from KAx1277.out.size)
          have NN10_0 := hidden (show rx1270_7 ≠ wax1277.heap.size from Nat.ne_of_lt (blk_lt XX7.out))
          have XX10_0 := hidden (show IsVar (wax1277.alloc (.cells #[.int .i64 0, .int .i64 0, .string ⟨#[]⟩] 29)) rx1270_7 V.null from blk_alloc XX7.out (.cells #[.int .i64 0, .int .i64 0, .string ⟨#[]⟩] 29))
          clear KAx1277
          generalize wax1277.heap.size = rx1271_10 at *
          generalize wax1277.alloc (.cells #[.int .i64 0, .int .i64 0, .string ⟨#[]⟩] 29) = wax12710 at *
          refine wpAnyH_ready (rs := [3]) (by kernel_rfl) (by simp) ?_
          refine AllReadyH.cons (o := ⟨_, _, _, _, _, _⟩) rfl (fun K hK => ?_) AllReadyH.nil
          go_simp
          (first | (go_at_call 23; refine (C131.out wax12710 KAx12710.out).mono ?_; rintro e wcx12711 ⟨rfl, h1⟩))
          go_wp2_with fail
          have KCx12711 := hidden (KAx12710.out.trans h1 (fun _ _ h => h))
          refine hK.out _ _ ?_ (fun hH2 => ?_)
          · ((try dsimp only); exact SK129.out _ (KCx12711.out.mono (fun _ _ h => h.elim)))
          clear hK K hH2
          try simp only [Act.put, List.setIfInBounds_toArray, List.set_cons_zero, List.set_cons_succ]
          have XX11_0 := hidden (show IsVar wcx12711 rx1270_7 V.null from XX10_0.out.keeps h1 (fun h => h))
          have XX11_1 := hidden (show IsVar wcx12711 rx1271_10 V.null from XX10.out.keeps h1 (fun h => h))
          clear h1 KAx12710
          have hHeld := SK129.out _ (KCx12711.out.mono (fun _ _ h => h.elim))
          (try dsimp only at hHeld)
          refine wpAnyH_take (i := 4) (oi := ⟨_, _, _, _, _, _⟩) (v := ?_) rfl (by kernel_rfl) (by kernel_rfl) (by kernel_rfl) (fun _ _ _ h => h) (Or.inl ⟨by rfl, ?_⟩) hHeld ?_
          rotate_left
          · (intro w' hSw; (try dsimp only at hSw); go_simp; (try with_reducible rfl))
          try simp only [Act.put, List.setIfInBounds_toArray, List.set_cons_zero, List.set_cons_succ]
          refine wpAnyH_take (i := 5) (oi := ⟨_, _, _, _, _, _⟩) (v := ?_) rfl (by kernel_rfl) (by kernel_rfl) (by kernel_rfl) (fun _ _ _ h => h) (Or.inl ⟨by rfl, ?_⟩) hHeld ?_
          rotate_left
          · (intro w' hSw; (try dsimp only at hSw); go_simp; (try with_reducible rfl))
          try simp only [Act.put, List.setIfInBounds_toArray, List.set_cons_zero, List.set_cons_succ]
          refine wpAnyH_take (i := 6) (oi := ⟨_, _, _, _, _, _⟩) (v := ?_) rfl (by kernel_rfl) (by kernel_rfl) (by kernel_rfl) (fun _ _ _ h => h) (Or.inl ⟨by rfl, ?_⟩) hHeld ?_
          rotate_left
          · (intro w' hSw; (try dsimp only at hSw); go_simp; (try with_reducible rfl))
          try simp only [Act.put, List.setIfInBounds_toArray, List.set_cons_zero, List.set_cons_succ]
          refine wpAnyH_take (i := 7) (oi := ⟨_, _, _, _, _, _⟩) (v := ?_) rfl (by kernel_rfl) (by kernel_rfl) (by kernel_rfl) (fun _ _ _ h => h) (Or.inl ⟨by rfl, ?_⟩) hHeld ?_
          rotate_left
          · (intro w' hSw; (try dsimp only at hSw); go_simp; (try with_reducible rfl))
          try simp only [Act.put, List.setIfInBounds_toArray, List.set_cons_zero, List.set_cons_succ]
          clear hHeld
          have ALL := hidden (show Keeps (fun _ => False) w118 wcx12711 ∧ IsVar wcx12711 rx1270_7 V.null ∧ IsVar wcx12711 rx1271_10 V.null ∧ w118.heap.size ≤ rx1270_7 ∧ w118.heap.size ≤ rx1271_10 ∧ rx1270_7 ≠ rx1271_10 from ⟨KCx12711.out, XX11_0.out, XX11_1.out, GG7.out, GG10.out, NN10_0.out⟩)
          revert ALL
          exact TAIL rx1270_7 rx1271_10 wcx12711
      · go_simp
        refine hK.out _ _ ?_ (fun hH2 => ?_)
        · ((try dsimp only); exact SK129.out _ ((KCx1271.out.alloc _).mono (fun _ _ h => h.elim)))
        clear hK K hH2
        try simp only [Act.put, List.setIfInBounds_toArray, List.set_cons_zero, List.set_cons_succ]
        have KAx12712 := hidden (KCx1271.out.alloc (.cells #[.int .i64 0, .int .i64 0, .string ⟨#[]⟩] 29))
        have XX12 := hidden (show IsVar (wcx1271.alloc (.cells #[.int .i64 0, .int .i64 0, .string ⟨#[]⟩] 29)) wcx1271.heap.size V.null from IsVar.new wcx1271 V.null)
        have GG12 := hidden (show w118.heap.size ≤ wcx1271.heap.size from KCx1271.out.size)
        clear KCx1271
        generalize wcx1271.heap.size = rx1271_12 at *
        generalize wcx1271.alloc (.cells #[.int .i64 0, .int .i64 0, .string ⟨#[]⟩] 29) = wax12712 at *
        refine wpAnyH_ready (rs := [3, 8]) (by kernel_rfl) (by simp) ?_
        refine AllReadyH.cons (o := ⟨_, _, _, _, _, _⟩) rfl (fun K hK => ?_) (AllReadyH.cons (o := ⟨_, _, _, _, _, _⟩) rfl (fun K hK => ?_) AllReadyH.nil)
        · go_simp
          (first | (go_at_call 23; refine (C131.out wax12712 KAx12712.out).mono ?_; rintro e wcx12713 ⟨rfl, h1⟩))
          go_wp2_with fail
          have KCx12713 := hidden (KAx12712.out.trans h1 (fun _ _ h => h))
          refine hK.out _ _ ?_ (fun hH2 => ?_)
          · ((try dsimp only); exact SK129.out _ (KCx12713.out.mono (fun _ _ h => h.elim)))
          clear hK K hH2
          try simp only [Act.put, List.setIfInBounds_toArray, List.set_cons_zero, List.set_cons_succ]
          have XX13_1 := hidden (show IsVar wcx12713 rx1271_12 V.null from XX12.out.keeps h1 (fun h => h))
          clear h1 KAx12712
          have hHeld := SK129.out _ (KCx12713.out.mono (fun _ _ h => h.elim))
          (try dsimp only at hHeld)
          refine wpAnyH_take (i := 4) (oi := ⟨_, _, _, _, _, _⟩) (v := ?_) rfl (by kernel_rfl) (by kernel_rfl) (by kernel_rfl) (fun _ _ _ h => h) (Or.inl ⟨by rfl, ?_⟩) hHeld ?_
          rotate_left
          · (intro w' hSw; (try dsimp only at hSw); go_simp; (try with_reducible rfl))
          try simp only [Act.put, List.setIfInBounds_toArray, List.set_cons_zero, List.set_cons_succ]
          refine wpAnyH_take (i := 5) (oi := ⟨_, _, _, _, _, _⟩) (v := ?_) rfl (by kernel_rfl) (by kernel_rfl) (by kernel_rfl) (fun _ _ _ h => h) (Or.inl ⟨by rfl, ?_⟩) hHeld ?_
          rotate_left
          · (intro w' hSw; (try dsimp only at hSw); go_simp; (try with_reducible rfl))
          try simp only [Act.put, List.setIfInBounds_toArray, List.set_cons_zero, List.set_cons_succ]
          refine wpAnyH_take (i := 6) (oi := ⟨_, _, _, _, _, _⟩) (v := ?_) rfl (by kernel_rfl) (by kernel_rfl) (by kernel_rfl) (fun _ _ _ h => h) (Or.inl ⟨by rfl, ?_⟩) hHeld ?_
          rotate_left
          · (intro w' hSw; (try dsimp only at hSw); go_simp; (try with_reducible rfl))
          try simp only [Act.put, List.setIfInBounds_toArray, List.set_cons_zero, List.set_cons_succ]
          refine wpAnyH_take (i := 7) (oi := ⟨_, _, _, _, _, _⟩) (v := ?_) rfl (by kernel_rfl) (by kernel_rfl) (by kernel_rfl) (fun _ _ _ h => h) (Or.inl ⟨by rfl, ?_⟩) hHeld ?_
          rotate_left
          · (intro w' hSw; (try dsimp only at hSw); go_simp; (try with_reducible rfl))
          try simp only [Act.put, List.setIfInBounds_toArray, List.set_cons_zero, List.set_cons_succ]
          clear hHeld
          refine wpAnyH_ready (rs := [8]) (by kernel_rfl) (by simp) ?_
          refine AllReadyH.cons (o := ⟨_, _, _, _, _, _⟩) rfl (fun K hK => ?_) AllReadyH.nil
          go_simp
          refine hK.out _ _ ?_ (fun hH2 => ?_)
          · ((try dsimp only); exact SK129.out _ ((KCx12713.out.alloc _).mono (fun _ _ h => h.elim)))
          clear hK K hH2
          try simp only [Act.put, List.setIfInBounds_toArray, List.set_cons_zero, List.set_cons_succ]
          have KAx12714 := hidden (KCx12713.out.alloc (.cells #[.int .i64 0, .int .i64 0, .string ⟨#[]⟩] 29))
          have XX14 := hidden (show IsVar (wcx12713.alloc (.cells #[.int .i64 0, .int .i64 0, .string ⟨#[]⟩] 29)) wcx12713.heap.size V.null from IsVar.new wcx12713 V.null)
          have GG14 := hidden (show w118.heap.size ≤ wcx12713.heap.size from KCx12713.out.size)
          have NN14_1 := hidden (show wcx12713.heap.size ≠ rx1271_12 from Ne.symm (Nat.ne_of_lt (blk_lt XX13_1.out)))
          have XX14_1 := hidden (show IsVar (wcx12713.alloc (.cells #[.int .i64 0, .int .i64 0, .string ⟨#[]⟩] 29)) rx1271_12 V.null from blk_alloc XX13_1.out (.cells #[.int .i64 0, .int .i64 0, .string ⟨#[]⟩] 29))
          clear KCx12713
          generalize wcx12713.heap.size = rx1270_14 at *
          generalize wcx12713.alloc (.cells #[.int .i64 0, .int .i64 0, .string ⟨#[]⟩] 29) = wax12714 at *
          have ALL := hidden (show Keeps (fun _ => False) w118 wax12714 ∧ IsVar wax12714 rx1270_14 V.null ∧ IsVar wax12714 rx1271_12 V.null ∧ w118.heap.size ≤ rx1270_14 ∧ w118.heap.size ≤ rx1271_12 ∧ rx1270_14 ≠ rx1271_12 from ⟨KAx12714.out, XX14.out, XX14_1.out, GG14.out, GG12.out, NN14_1.out⟩)
          revert ALL
          exact TAIL rx1270_14 rx1271_12 wax12714
        · go_simp
          refine hK.out _ _ ?_ (fun hH2 => ?_)
          · ((try dsimp only); exact SK129.out _ ((KAx12712.out.alloc _).mono (fun _ _ h => h.elim)))
          clear hK K hH2
          try simp only [Act.put, List.setIfInBounds_toArray, List.set_cons_zero, List.set_cons_succ]
          have KAx12715 := hidden (KAx12712.out.alloc (.cells #[.int .i64 0, .int .i64 0, .string ⟨#[]⟩] 29))
          have XX15 := hidden (show IsVar (wax12712.alloc (.cells #[.int .i64 0, .int .i64 0, .string ⟨#[]⟩] 29)) wax12712.heap.size V.null from IsVar.new wax12712 V.null)
          have GG15 := hidden (show w118.heap.size ≤ wax12712.heap.size from KAx12712.out.size)
          have NN15_1 := hidden (show wax12712.heap.size ≠ rx1271_12 from Ne.symm (Nat.ne_of_lt (blk_lt XX12.out)))
          have XX15_1 := hidden (show IsVar (wax12712.alloc (.cells #[.int .i64 0, .int .i64 0, .string ⟨#[]⟩] 29)) rx1271_12 V.null from blk_alloc XX12.out (.cells #[.int .i64 0, .int .i64 0, .string ⟨#[]⟩] 29))
          clear KAx12712
          generalize wax12712.heap.size = rx1270_15 at *
          generalize wax12712.alloc (.cells #[.int .i64 0, .int .i64 0, .string ⟨#[]⟩] 29) = wax12715 at *
          refine wpAnyH_ready (rs := [3]) (by kernel_rfl) (by simp) ?_
          refine AllReadyH.cons (o := ⟨_, _, _, _, _, _⟩) rfl (fun K hK => ?_) AllReadyH.nil
          go_simp
          (first | (go_at_call 23; refine (C131.out wax12715 KAx12715.out).mono ?_; rintro e wcx12716 ⟨rfl, h1⟩))
          go_wp2_with fail
          have KCx12716 := hidden (KAx12715.out.trans h1 (fun _ _ h => h))
          refine hK.out _ _ ?_ (fun hH2 => ?_)
          · ((try dsimp only); exact SK129.out _ (KCx12716.out.mono (fun _ _ h => h.elim)))
          clear hK K hH2
          try simp only [Act.put, List.setIfInBounds_toArray, List.set_cons_zero, List.set_cons_succ]
          have XX16_0 := hidden (show IsVar wcx12716 rx1270_15 V.null from XX15.out.keeps h1 (fun h => h))
          have XX16_1 := hidden (show IsVar wcx12716 rx1271_12 V.null from XX15_1.out.keeps h1 (fun h => h))
          clear h1 KAx12715
          have hHeld := SK129.out _ (KCx12716.out.mono (fun _ _ h => h.elim))
          (try dsimp only at hHeld)
          refine wpAnyH_take (i := 4) (oi := ⟨_, _, _, _, _, _⟩) (v := ?_) rfl (by kernel_rfl) (by kernel_rfl) (by kernel_rfl) (fun _ _ _ h => h) (Or.inl ⟨by rfl, ?_⟩) hHeld ?_
          rotate_left
          · (intro w' hSw; (try dsimp only at hSw); go_simp; (try with_reducible rfl))
          try simp only [Act.put, List.setIfInBounds_toArray, List.set_cons_zero, List.set_cons_succ]
          refine wpAnyH_take (i := 5) (oi := ⟨_, _, _, _, _, _⟩) (v := ?_) rfl (by kernel_rfl) (by kernel_rfl) (by kernel_rfl) (fun _ _ _ h => h) (Or.inl ⟨by rfl, ?_⟩) hHeld ?_
          rotate_left
          · (intro w' hSw; (try dsimp only at hSw); go_simp; (try with_reducible rfl))
          try simp only [Act.put, List.setIfInBounds_toArray, List.set_cons_zero, List.set_cons_succ]
          refine wpAnyH_take (i := 6) (oi := ⟨_, _, _, _, _, _⟩) (v := ?_) rfl (by kernel_rfl) (by kernel_rfl) (by kernel_rfl) (fun _ _ _ h => h) (Or.inl ⟨by rfl, ?_⟩) hHeld ?_
          rotate_left
          · (intro w' hSw; (try dsimp only at hSw); go_simp; (try with_reducible rfl))
          try simp only [Act.put, List.setIfInBounds_toArray, List.set_cons_zero, List.set_cons_succ]
          refine wpAnyH_take (i := 7) (oi := ⟨_, _, _, _, _, _⟩) (v := ?_) rfl (by kernel_rfl) (by kernel_rfl) (by kernel_rfl) (fun _ _ _ h => h) (Or.inl ⟨by rfl, ?_⟩) hHeld ?_
          rotate_left
          · (intro w' hSw; (try dsimp only at hSw); go_simp; (try with_reducible rfl))
          try simp only [Act.put, List.setIfInBounds_toArray, List.set_cons_zero, List.set_cons_succ]
          clear hHeld
          have ALL := hidden (show Keeps (fun _ => False) w118 wcx12716 ∧ IsVar wcx12716 rx1270_15 V.null ∧ IsVar wcx12716 rx1271_12 V.null ∧ w118.heap.size ≤ rx1270_15 ∧ w118.heap.size ≤ rx1271_12 ∧ rx1270_15 ≠ rx1271_12 from ⟨KCx12716.out, XX16_0.out, XX16_1.out, GG15.out, GG12.out, NN15_1.out⟩)
          revert ALL
          exact TAIL rx1270_15 rx1271_12 wcx12716
    · go_simp
      refine hK.out _ _ ?_ (fun hH2 => ?_)
      · ((try dsimp only); exact SK129.out _ ((KDx127.out.alloc _).mono (fun _ _ h => h.elim)))
      clear hK K hH2
      try simp only [Act.put, List.setIfInBounds_toArray, List.set_cons_zero, List.set_cons_succ]
      have KAx12717 := hidden (KDx127.out.alloc (.cells #[.int .i64 0, .int .i64 0, .string ⟨#[]⟩] 29))
      have XX17 := hidden (show IsVar (wdx127.alloc (.cells #[.int .i64 0, .int .i64 0, .string ⟨#[]⟩] 29)) wdx127.heap.size V.null from IsVar.new wdx127 V.null)
      have GG17 := hidden (show w118.heap.size ≤ wdx127.heap.size from KDx127.out.size)
      generalize wdx127.heap.size = rx1270_17 at *
      generalize wdx127.alloc (.cells #[.int .i64 0, .int .i64 0, .string ⟨#[]⟩] 29) = wax12717 at *
      refine wpAnyH_ready (rs := [2, 9]) (by kernel_rfl) (by simp) ?_
      refine AllReadyH.cons (o := ⟨_, _, _, _, _, _⟩) rfl (fun K hK => ?_) (AllReadyH.cons (o := ⟨_, _, _, _, _, _⟩) rfl (fun K hK => ?_) AllReadyH.nil)
      · go_simp
        (first | (go_at_call 9; refine (C130.out wax12717 KAx12717.out).mono ?_; rintro e wcx12718 ⟨rfl, h1⟩))
        go_wp2_with fail
        have KCx12718 := hidden (KAx12717.out.trans h1 (fun _ _ h => h))
        refine hK.out _ _ ?_ (fun hH2 => ?_)
        · ((try dsimp only); exact SK129.out _ (KCx12718.out.mono (fun _ _ h => h.elim)))
        clear hK K hH2
        try simp only [Act.put, List.setIfInBounds_toArray, List.set_cons_zero, List.set_cons_succ]
        have XX18_0 := hidden (show IsVar wcx12718 rx1270_17 V.null from XX17.out.keeps h1 (fun h => h))
        clear h1 KAx12717
        refine wpAnyH_ready (rs := [3, 9]) (by kernel_rfl) (by simp) ?_
        refine AllReadyH.cons (o := ⟨_, _, _, _, _, _⟩) rfl (fun K hK => ?_) (AllReadyH.cons (o := ⟨_, _, _, _, _, _⟩) rfl (fun K hK => ?_) AllReadyH.nil)
        · go_simp
          (first | (go_at_call 23; refine (C131.out wcx12718 KCx12718.out).mono ?_; rintro e wcx12719 ⟨rfl, h1⟩))
          go_wp2_with fail
          have KCx12719 := hidden (KCx12718.out.trans h1 (fun _ _ h => h))
          refine hK.out _ _ ?_ (fun hH2 => ?_)
          · ((try dsimp only); exact SK129.out _ (KCx12719.out.mono (fun _ _ h => h.elim)))
          clear hK K hH2
          try simp only [Act.put, List.setIfInBounds_toArray, List.set_cons_zero, List.set_cons_succ]
          have XX19_0 := hidden (show IsVar wcx12719 rx1270_17 V.null from XX18_0.out.keeps h1 (fun h => h))
          clear h1 KCx12718
          have hHeld := SK129.out _ (KCx12719.out.mono (fun _ _ h => h.elim))
          (try dsimp only at hHeld)
          refine wpAnyH_take (i := 4) (oi := ⟨_, _, _, _, _, _⟩) (v := ?_) rfl (by kernel_rfl) (by kernel_rfl) (by kernel_rfl) (fun _ _ _ h => h) (Or.inl ⟨by rfl, ?_⟩) hHeld ?_
          rotate_left
          · (intro w' hSw; (try dsimp only at hSw); go_simp; (try with_reducible rfl))
          try simp only [Act.put, List.setIfInBounds_toArray, List.set_cons_zero, List.set_cons_succ]
          refine wpAnyH_take (i := 5) (oi := ⟨_, _, _, _, _, _⟩) (v := ?_) rfl (by kernel_rfl) (by kernel_rfl) (by kernel_rfl) (fun _ _ _ h => h) (Or.inl ⟨by rfl, ?_⟩) hHeld ?_
          rotate_left
          · (intro w' hSw; (try dsimp only at hSw); go_simp; (try with_reducible rfl))
          try simp only [Act.put, List.setIfInBounds_toArray, List.set_cons_zero, List.set_cons_succ]
          refine wpAnyH_take (i := 6) (oi := ⟨_, _, _, _, _, _⟩) (v := ?_) rfl (by kernel_rfl) (by kernel_rfl) (by kernel_rfl) (fun _ _ _ h => h) (Or.inl ⟨by rfl, ?_⟩) hHeld ?_
          rotate_left
          · (intro w' hSw; (try dsimp only at hSw); go_simp; (try with_reducible rfl))
          try simp only [Act.put, List.setIfInBounds_toArray, List.set_cons_zero, List.set_cons_succ]
          refine wpAnyH_take (i := 7) (oi := ⟨_, _, _, _, _, _⟩) (v := ?_) rfl (by kernel_rfl) (by kernel_rfl) (by kernel_rfl) (fun _ _ _ h => h) (Or.inl ⟨by rfl, ?_⟩) hHeld ?_
          rotate_left
          · (intro w' hSw; (try dsimp only at hSw); go_simp; (try with_reducible rfl))
          try simp only [Act.put, List.setIfInBounds_toArray, List.set_cons_zero, List.set_cons_succ]
          clear hHeld
          refine wpAnyH_ready (rs := [9]) (by kernel_rfl) (by simp) ?_
          refine AllReadyH.cons (o := ⟨_, _, _, _, _, _⟩) rfl (fun K hK => ?_) AllReadyH.nil
          go_simp
          refine hK.out _ _ ?_ (fun hH2 => ?_)
          · ((try dsimp only); exact SK129.out _ ((KCx12719.out.alloc _).mono (fun _ _ h => h.elim)))
          clear hK K hH2
          try simp only [Act.put, List.setIfInBounds_toArray, List.set_cons_zero, List.set_cons_succ]
          have KAx12720 := hidden (KCx12719.out.alloc (.cells #[.int .i64 0, .int .i64 0, .string ⟨#[]⟩] 29))
          have XX20 := hidden (show IsVar (wcx12719.alloc (.cells #[.int .i64 0, .int .i64 0, .string ⟨#[]⟩] 29)) wcx12719.heap.size V.null from IsVar.new wcx12719 V.null)
          have GG20 := hidden (show w118.heap.size ≤ wcx12719.heap.size from KCx12719.out.size)
          have NN20_0 := hidden (show rx1270_17 ≠ wcx12719.heap.size from Nat.ne_of_lt (blk_lt XX19_0.out))
          have XX20_0 := hidden (show IsVar (wcx12719.alloc (.cells #[.int .i64 0, .int .i64 0, .string ⟨#[]⟩] 29)) rx1270_17 V.null from blk_alloc XX19_0.out (.cells #[.int .i64 0, .int .i64 0, .string ⟨#[]⟩] 29))
          clear KCx12719
          generalize wcx12719.heap.size = rx1271_20 at *
          generalize wcx12719.alloc (.cells #[.int .i64 0, .int .i64 0, .string ⟨#[]⟩] 29) = wax12720 at *
          have ALL := hidden (show Keeps (fun _ => False) w118 wax12720 ∧ IsVar wax12720 rx1270_17 V.null ∧ IsVar wax12720 rx1271_20 V.null ∧ w118.heap.size ≤ rx1270_17 ∧ w118.heap.size ≤ rx1271_20 ∧ rx1270_17 ≠ rx1271_20 from ⟨KAx12720.out, XX20_0.out, XX20.out, GG17.out, GG20.out, NN20_0.out⟩)
          revert ALL
          exact TAIL rx1270_17 rx1271_20 wax12720
        · go_simp
          refine hK.out _ _ ?_ (fun hH2 => ?_)
          · ((try dsimp only); exact SK129.out _ ((KCx12718.out.alloc _).mono (fun _ _ h => h.elim)))
          clear hK K hH2
          try simp only [Act.put, List.setIfInBounds_toArray, List.set_cons_zero, List.set_cons_succ]
          have KAx12721 := hidden (KCx12718.out.alloc (.cells #[.int .i64 0, .int .i64 0, .string ⟨#[]⟩] 29))
          have XX21 := hidden (show IsVar (wcx12718.alloc (.cells #[.int .i64 0, .int .i64 0, .string ⟨#[]⟩] 29)) wcx12718.heap.size V.null from IsVar.new wcx12718 V.null)
          have GG21 := hidden (show w118.heap.size ≤ wcx12718.heap.size from KCx12718.out.size)
          have NN21_0 := hidden (show rx1270_17 ≠ wcx12718.heap.size from Nat.ne_of_lt (blk_lt XX18_0.out))
          have XX21_0 := hidden (show IsVar (wcx12718.alloc (.cells #[.int .i64 0, .int .i64 0, .string ⟨#[]⟩] 29)) rx1270_17 V.null from blk_alloc XX18_0.out (.cells #[.int .i64 0, .int .i64 0, .string ⟨#[]⟩] 29))
          clear KCx12718
          generalize wcx12718.heap.size = rx1271_21 at *
          generalize wcx12718.alloc (.cells #[.int .i64 0, .int .i64 0, .string ⟨#[]⟩] 29) = wax12721 at *
          refine wpAnyH_ready (rs := [3]) (by kernel_rfl) (by simp) ?_
          refine AllReadyH.cons (o := ⟨_, _, _, _, _, _⟩) rfl (fun K hK => ?_) AllReadyH.nil
          go_simp
          (first | (go_at_call 23; refine (C131.out wax12721 KAx12721.out).mono ?_; rintro e wcx12722 ⟨rfl, h1⟩))
          go_wp2_with fail
          have KCx12722 := hidden (KAx12721.out.trans h1 (fun _ _ h => h))
          refine hK.out _ _ ?_ (fun hH2 => ?_)
          · ((try dsimp only); exact SK129.out _ (KCx12722.out.mono (fun _ _ h => h.elim)))
          clear hK K hH2
          try simp only [Act.put, List.setIfInBounds_toArray, List.set_cons_zero, List.set_cons_succ]
          have XX22_0 := hidden (show IsVar wcx12722 rx1270_17 V.null from XX21_0.out.keeps h1 (fun h => h))
          have XX22_1 := hidden (show IsVar wcx12722 rx1271_21 V.null from XX21.out.keeps h1 (fun h => h))
          clear h1 KAx12721
          have hHeld := SK129.out _ (KCx12722.out.mono (fun _ _ h => h.elim))
          (try dsimp only at hHeld)
          refine wpAnyH_take (i := 4) (oi := ⟨_, _, _, _, _, _⟩) (v := ?_) rfl (by kernel_rfl) (by kernel_rfl) (by kernel_rfl) (fun _ _ _ h => h) (Or.inl ⟨by rfl, ?_⟩) hHeld ?_
          rotate_left
          · (intro w' hSw; (try dsimp only at hSw); go_simp; (try with_reducible rfl))
          try simp only [Act.put, List.setIfInBounds_toArray, List.set_cons_zero, List.set_cons_succ]
          refine wpAnyH_take (i := 5) (oi := ⟨_, _, _, _, _, _⟩) (v := ?_) rfl (by kernel_rfl) (by kernel_rfl) (by kernel_rfl) (fun _ _ _ h => h) (Or.inl ⟨by rfl, ?_⟩) hHeld ?_
          rotate_left
          · (intro w' hSw; (try dsimp only at hSw); go_simp; (try with_reducible rfl))
          try simp only [Act.put, List.setIfInBounds_toArray, List.set_cons_zero, List.set_cons_succ]
          refine wpAnyH_take (i := 6) (oi := ⟨_, _, _, _, _, _⟩) (v := ?_) rfl (by kernel_rfl) (by kernel_rfl) (by kernel_rfl) (fun _ _ _ h => h) (Or.inl ⟨by rfl, ?_⟩) hHeld ?_
          rotate_left
          · (intro w' hSw; (try dsimp only at hSw); go_simp; (try with_reducible rfl))
          try simp only [Act.put, List.setIfInBounds_toArray, List.set_cons_zero, List.set_cons_succ]
          refine wpAnyH_take (i := 7) (oi := ⟨_, _, _, _, _, _⟩) (v := ?_) rfl (by kernel_rfl) (by kernel_rfl) (by kernel_rfl) (fun _ _ _ h => h) (Or.inl ⟨by rfl, ?_⟩) hHeld ?_
          rotate_left
          · (intro w' hSw; (try dsimp only at hSw); go_simp; (try with_reducible rfl))
          try simp only [Act.put, List.setIfInBounds_toArray, List.set_cons_zero, List.set_cons_succ]
          clear hHeld
          have ALL := hidden (show Keeps (fun _ => False) w118 wcx12722 ∧ IsVar wcx12722 rx1270_17 V.null ∧ IsVar wcx12722 rx1271_21 V.null ∧ w118.heap.size ≤ rx1270_17 ∧ w118.heap.size ≤ rx1271_21 ∧ rx1270_17 ≠ rx1271_21 from ⟨KCx12722.out, XX22_0.out, XX22_1.out, GG17.out, GG21.out, NN21_0.out⟩)
          revert ALL
          exact TAIL rx1270_17 rx1271_21 wcx12722
      · go_simp
        refine hK.out _ _ ?_ (fun hH2 => ?_)
        · ((try dsimp only); exact SK129.out _ ((KAx12717.out.alloc _).mono (fun _ _ h => h.elim)))
        clear hK K hH2
        try simp only [Act.put, List.setIfInBounds_toArray, List.set_cons_zero, List.set_cons_succ]
        have KAx12723 := hidden (KAx12717.out.alloc (.cells #[.int .i64 0, .int .i64 0, .string ⟨#[]⟩] 29))
        have XX23 := hidden (show IsVar (wax12717.alloc (.cells #[.int .i64 0, .int .i64 0, .string ⟨#[]⟩] 29)) wax12717.heap.size V.null from IsVar.new wax12717 V.null)
        have GG23 := hidden (show w118.heap.size ≤ wax12717.heap.size from KAx12717.out.size)
        have NN23_0 := hidden (show rx1270_17 ≠ wax12717.heap.size from Nat.ne_of_lt (blk_lt XX17.out))
        have XX23_0 := hidden (show IsVar (wax12717.alloc (.cells #[.int .i64 0, .int .i64 0, .string ⟨#[]⟩] 29)) rx1270_17 V.null from blk_alloc XX17.out (.cells #[.int .i64 0, .int .i64 0, .string ⟨#[]⟩] 29))
        clear KAx12717
        generalize wax12717.heap.size = rx1271_23 at *
        generalize wax12717.alloc (.cells #[.int .i64 0, .int .i64 0, .string ⟨#[]⟩] 29) = wax12723 at *
        refine wpAnyH_ready (rs := [2]) (by kernel_rfl) (by simp) ?_
        refine AllReadyH.cons (o := ⟨_, _, _, _, _, _⟩) rfl (fun K hK => ?_) AllReadyH.nil
        go_simp
        (first | (go_at_call 9; refine (C130.out wax12723 KAx12723.out).mono ?_; rintro e wcx12724 ⟨rfl, h1⟩))
        go_wp2_with fail
        have KCx12724 := hidden (KAx12723.out.trans h1 (fun _ _ h => h))
        refine hK.out _ _ ?_ (fun hH2 => ?_)
        · ((try dsimp only); exact SK129.out _ (KCx12724.out.mono (fun _ _ h => h.elim)))
        clear hK K hH2
        try simp only [Act.put, List.setIfInBounds_toArray, List.set_cons_zero, List.set_cons_succ]
        have XX24_0 := hidden (show IsVar wcx12724 rx1270_17 V.null from XX23_0.out.keeps h1 (fun h => h))
        have XX24_1 := hidden (show IsVar wcx12724 rx1271_23 V.null from XX23.out.keeps h1 (fun h => h))
        clear h1 KAx12723
        refine wpAnyH_ready (rs := [3]) (by kernel_rfl) (by simp) ?_
        refine AllReadyH.cons (o := ⟨_, _, _, _, _, _⟩) rfl (fun K hK => ?_) AllReadyH.nil
        go_simp
        (first | (go_at_call 23; refine (C131.out wcx12724 KCx12724.out).mono ?_; rintro e wcx12725 ⟨rfl, h1⟩))
        go_wp2_with fail
        have KCx12725 := hidden (KCx12724.out.trans h1 (fun _ _ h => h))
        refine hK.out _ _ ?_ (fun hH2 => ?_)
        · ((try dsimp only); exact SK129.out _ (KCx12725.out.mono (fun _ _ h => h.elim)))
        clear hK K hH2
        try simp only [Act.put, List.setIfInBounds_toArray, List.set_cons_zero, List.set_cons_succ]
        have XX25_0 := hidden (show IsVar wcx12725 rx1270_17 V.null from XX24_0.out.keeps h1 (fun h => h))
        have XX25_1 := hidden (show IsVar wcx12725 rx1271_23 V.null from XX24_1.out.keeps h1 (fun h => h))
        clear h1 KCx12724
        have hHeld := SK129.out _ (KCx12725.out.mono (fun _ _ h => h.elim))
        (try dsimp only at hHeld)
        refine wpAnyH_take (i := 4) (oi := ⟨_, _, _, _, _, _⟩) (v := ?_) rfl (by kernel_rfl) (by kernel_rfl) (by kernel_rfl) (fun _ _ _ h => h) (Or.inl ⟨by rfl, ?_⟩) hHeld ?_
        rotate_left
        · (intro w' hSw; (try dsimp only at hSw); go_simp; (try with_reducible rfl))
        try simp only [Act.put, List.setIfInBounds_toArray, List.set_cons_zero, List.set_cons_succ]
        refine wpAnyH_take (i := 5) (oi := ⟨_, _, _, _, _, _⟩) (v := ?_) rfl (by kernel_rfl) (by kernel_rfl) (by kernel_rfl) (fun _ _ _ h => h) (Or.inl ⟨by rfl, ?_⟩) hHeld ?_
        rotate_left
        · (intro w' hSw; (try dsimp only at hSw); go_simp; (try with_reducible rfl))
        try simp only [Act.put, List.setIfInBounds_toArray, List.set_cons_zero, List.set_cons_succ]
        refine wpAnyH_take (i := 6) (oi := ⟨_, _, _, _, _, _⟩) (v := ?_) rfl (by kernel_rfl) (by kernel_rfl) (by kernel_rfl) (fun _ _ _ h => h) (Or.inl ⟨by rfl, ?_⟩) hHeld ?_
        rotate_left
        · (intro w' hSw; (try dsimp only at hSw); go_simp; (try with_reducible rfl))
        try simp only [Act.put, List.setIfInBounds_toArray, List.set_cons_zero, List.set_cons_succ]
        refine wpAnyH_take (i := 7) (oi := ⟨_, _, _, _, _, _⟩) (v := ?_) rfl (by kernel_rfl) (by kernel_rfl) (by kernel_rfl) (fun _ _ _ h => h) (Or.inl ⟨by rfl, ?_⟩) hHeld ?_
        rotate_left
        · (intro w' hSw; (try dsimp only at hSw); go_simp; (try with_reducible rfl))
        try simp only [Act.put, List.setIfInBounds_toArray, List.set_cons_zero, List.set_cons_succ]
        clear hHeld
        have ALL := hidden (show Keeps (fun _ => False) w118 wcx12725 ∧ IsVar wcx12725 rx1270_17 V.null ∧ IsVar wcx12725 rx1271_23 V.null ∧ w118.heap.size ≤ rx1270_17 ∧ w118.heap.size ≤ rx1271_23 ∧ rx1270_17 ≠ rx1271_23 from ⟨KCx12725.out, XX25_0.out, XX25_1.out, GG17.out, GG23.out, NN23_0.out⟩)
        revert ALL
        exact TAIL rx1270_17 rx1271_23 wcx12725
    · go_simp
      refine hK.out _ _ ?_ (fun hH2 => ?_)
      · ((try dsimp only); exact SK129.out _ ((KDx127.out.alloc _).mono (fun _ _ h => h.elim)))
      clear hK K hH2
      try simp only [Act.put, List.setIfInBounds_toArray, List.set_cons_zero, List.set_cons_succ]
      have KAx12726 := hidden (KDx127.out.alloc (.cells #[.int .i64 0, .int .i64 0, .string ⟨#[]⟩] 29))
      have XX26 := hidden (show IsVar (wdx127.alloc (.cells #[.int .i64 0, .int .i64 0, .string ⟨#[]⟩] 29)) wdx127.heap.size V.null from IsVar.new wdx127 V.null)
      have GG26 := hidden (show w118.heap.size ≤ wdx127.heap.size from KDx127.out.size)
      generalize wdx127.heap.size = rx1271_26 at *
      generalize wdx127.alloc (.cells #[.int .i64 0, .int .i64 0, .string ⟨#[]⟩] 29) = wax12726 at *
      refine wpAnyH_ready (rs := [2, 8]) (by kernel_rfl) (by simp) ?_
      refine AllReadyH.cons (o := ⟨_, _, _, _, _, _⟩) rfl (fun K hK => ?_) (AllReadyH.cons (o := ⟨_, _, _, _, _, _⟩) rfl (fun K hK => ?_) AllReadyH.nil)
      · go_simp
        (first | (go_at_call 9; refine (C130.out wax12726 KAx12726.out).mono ?_; rintro e wcx12727 ⟨rfl, h1⟩))
        go_wp2_with fail
        have KCx12727 := hidden (KAx12726.out.trans h1 (fun _ _ h => h))
        refine hK.out _ _ ?_ (fun hH2 => ?_)
        · ((try dsimp only); exact SK129.out _ (KCx12727.out.mono (fun _ _ h => h.elim)))
        clear hK K hH2
        try simp only [Act.put, List.setIfInBounds_toArray, List.set_cons_zero, List.set_cons_succ]
        have XX27_1 := hidden (show IsVar wcx12727 rx1271_26 V.null from XX26.out.keeps h1 (fun h => h))
        clear h1 KAx12726
        refine wpAnyH_ready (rs := [3, 8]) (by kernel_rfl) (by simp) ?_
        refine AllReadyH.cons (o := ⟨_, _, _, _, _, _⟩) rfl (fun K hK => ?_) (AllReadyH.cons (o := ⟨_, _, _, _, _, _⟩) rfl (fun K hK => ?_) AllReadyH.nil)
        · go_simp
          (first | (go_at_call 23; refine (C131.out wcx12727 KCx12727.out).mono ?_; rintro e wcx12728 ⟨rfl, h1⟩))
          go_wp2_with fail
          have KCx12728 := hidden (KCx12727.out.trans h1 (fun _ _ h => h))
          refine hK.out _ _ ?_ (fun hH2 => ?_)
          · ((try dsimp only); exact SK129.out _ (KCx12728.out.mono (fun _ _ h => h.elim)))
          clear hK K hH2
          try simp only [Act.put, List.setIfInBounds_toArray, List.set_cons_zero, List.set_cons_succ]
          have XX28_1 := hidden (show IsVar wcx12728 rx1271_26 V.null from XX27_1.out.keeps h1 (fun h => h))
          clear h1 KCx12727
          have hHeld := SK129.out _ (KCx12728.out.mono (fun _ _ h => h.elim))
          (try dsimp only at hHeld)
          refine wpAnyH_take (i := 4) (oi := ⟨_, _, _, _, _, _⟩) (v := ?_) rfl (by kernel_rfl) (by kernel_rfl) (by kernel_rfl) (fun _ _ _ h => h) (Or.inl ⟨by rfl, ?_⟩) hHeld ?_
          rotate_left
          · (intro w' hSw; (try dsimp only at hSw); go_simp; (try with_reducible rfl))
          try simp only [Act.put, List.setIfInBounds_toArray, List.set_cons_zero, List.set_cons_succ]
          refine wpAnyH_take (i := 5) (oi := ⟨_, _, _, _, _, _⟩) (v := ?_) rfl (by kernel_rfl) (by kernel_rfl) (by kernel_rfl) (fun _ _ _ h => h) (Or.inl ⟨by rfl, ?_⟩) hHeld ?_
          rotate_left
          · (intro w' hSw; (try dsimp only at hSw); go_simp; (try with_reducible rfl))
          try simp only [Act.put, List.setIfInBounds_toArray, List.set_cons_zero, List.set_cons_succ]
          refine wpAnyH_take (i := 6) (oi := ⟨_, _, _, _, _, _⟩) (v := ?_) rfl (by kernel_rfl) (by kernel_rfl) (by kernel_rfl) (fun _ _ _ h => h) (Or.inl ⟨by rfl, ?_⟩) hHeld ?_
          rotate_left
          · (intro w' hSw; (try dsimp only at hSw); go_simp; (try with_reducible rfl))
          try simp only [Act.put, List.setIfInBounds_toArray, List.set_cons_zero, List.set_cons_succ]
          refine wpAnyH_take (i := 7) (oi := ⟨_, _, _, _, _, _⟩) (v := ?_) rfl (by kernel_rfl) (by kernel_rfl) (by kernel_rfl) (fun _ _ _ h => h) (Or.inl ⟨by rfl, ?_⟩) hHeld ?_
          rotate_left
          · (intro w' hSw; (try dsimp only at hSw); go_simp; (try with_reducible rfl))
          try simp only [Act.put, List.setIfInBounds_toArray, List.set_cons_zero, List.set_cons_succ]
          clear hHeld
          refine wpAnyH_ready (rs := [8]) (by kernel_rfl) (by simp) ?_
          refine AllReadyH.cons (o := ⟨_, _, _, _, _, _⟩) rfl (fun K hK => ?_) AllReadyH.nil
          go_simp
          refine hK.out _ _ ?_ (fun hH2 => ?_)
          · ((try dsimp only); exact SK129.out _ ((KCx12728.out.alloc _).mono (fun _ _ h => h.elim)))
          clear hK K hH2
          try simp only [Act.put, List.setIfInBounds_toArray, List.set_cons_zero, List.set_cons_succ]
          have KAx12729 := hidden (KCx12728.out.alloc (.cells #[.int .i64 0, .int .i64 0, .string ⟨#[]⟩] 29))
          have XX29 := hidden (show IsVar (wcx12728.alloc (.cells #[.int .i64 0, .int .i64 0, .string ⟨#[]⟩] 29)) wcx12728.heap.size V.null from IsVar.new wcx12728 V.null)
          have GG29 := hidden (show w118.heap.size ≤ wcx12728.heap.size from KCx12728.out.size)
          have NN29_1 := hidden (show wcx12728.heap.size ≠ rx1271_26 from Ne.symm (Nat.ne_of_lt (blk_lt XX28_1.out)))
          have XX29_1 := hidden (show IsVar (wcx12728.alloc (.cells #[.int .i64 0, .int .i64 0, .string ⟨#[]⟩] 29)) rx1271_26 V.null from blk_alloc XX28_1.out (.cells #[.int .i64 0, .int .i64 0, .string ⟨#[]⟩] 29))
          clear KCx12728
          generalize wcx12728.heap.size = rx1270_29 at *
          generalize wcx12728.alloc (.cells #[.int .i64 0, .int .i64 0, .string ⟨#[]⟩] 29) = wax12729 at *
          have ALL := hidden (show Keeps (fun _ => False) w118 wax12729 ∧ IsVar wax12729 rx1270_29 V.null ∧ IsVar wax12729 rx1271_26 V.null ∧ w118.heap.size ≤ rx1270_29 ∧ w118.heap.size ≤ rx1271_26 ∧ rx1270_29 ≠ rx1271_26 from ⟨KAx12729.out, XX29.out, XX29_1.out, GG29.out, GG26.out, NN29_1.out⟩)
          revert ALL
          exact TAIL rx1270_29 rx1271_26 wax12729
        · go_simp
          refine hK.out _ _ ?_ (fun hH2 => ?_)
          · ((try dsimp only); exact SK129.out _ ((KCx12727.out.alloc _).mono (fun _ _ h => h.elim)))
          clear hK K hH2
          try simp only [Act.put, List.setIfInBounds_toArray, List.set_cons_zero, List.set_cons_succ]
          have KAx12730 := hidden (KCx12727.out.alloc (.cells #[.int .i64 0, .int .i64 0, .string ⟨#[]⟩] 29))
          have XX30 := hidden (show IsVar (wcx12727.alloc (.cells #[.int .i64 0, .int .i64 0, .string ⟨#[]⟩] 29)) wcx12727.heap.size V.null from IsVar.new wcx12727 V.null)
          have GG30 := hidden (show w118.heap.size ≤ wcx12727.heap.size from KCx12727.out.size)
          have NN30_1 := hidden (show wcx12727.heap.size ≠ rx1271_26 from Ne.symm (Nat.ne_of_lt (blk_lt XX27_1.out)))
          have XX30_1 := hidden (show IsVar (wcx12727.alloc (.cells #[.int .i64 0, .int .i64 0, .string ⟨#[]⟩] 29)) rx1271_26 V.null from blk_alloc XX27_1.out (.cells #[.int .i64 0, .int .i64 0, .string ⟨#[]⟩] 29))
          clear KCx12727
          generalize wcx12727.heap.size = rx1270_30 at *
          generalize wcx12727.alloc (.cells #[.int .i64 0, .int .i64 0, .string ⟨#[]⟩] 29) = wax12730 at *
          refine wpAnyH_ready (rs := [3]) (by kernel_rfl) (by simp) ?_
          refine AllReadyH.cons (o := ⟨_, _, _, _, _, _⟩) rfl (fun K hK => ?_) AllReadyH.nil
          go_simp
          (first | (go_at_call 23; refine (C131.out wax12730 KAx12730.out).mono ?_; rintro e wcx12731 ⟨rfl, h1⟩))
          go_wp2_with fail
          have KCx12731 := hidden (KAx12730.out.trans h1 (fun _ _ h => h))
          refine hK.out _ _ ?_ (fun hH2 => ?_)
          · ((try dsimp only); exact SK129.out _ (KCx12731.out.mono (fun _ _ h => h.elim)))
          clear hK K hH2
          try simp only [Act.put, List.setIfInBounds_toArray, List.set_cons_zero, List.set_cons_succ]
          have XX31_0 := hidden (show IsVar wcx12731 rx1270_30 V.null from XX30.out.keeps h1 (fun h => h))
          have XX31_1 := hidden (show IsVar wcx12731 rx1271_26 V.null from XX30_1.out.keeps h1 (fun h => h))
          clear h1 KAx12730
          have hHeld := SK129.out _ (KCx12731.out.mono (fun _ _ h => h.elim))
          (try dsimp only at hHeld)
          refine wpAnyH_take (i := 4) (oi := ⟨_, _, _, _, _, _⟩) (v := ?_) rfl (by kernel_rfl) (by kernel_rfl) (by kernel_rfl) (fun _ _ _ h => h) (Or.inl ⟨by rfl, ?_⟩) hHeld ?_
          rotate_left
          · (intro w' hSw; (try dsimp only at hSw); go_simp; (try with_reducible rfl))
          try simp only [Act.put, List.setIfInBounds_toArray, List.set_cons_zero, List.set_cons_succ]
          refine wpAnyH_take (i := 5) (oi := ⟨_, _, _, _, _, _⟩) (v := ?_) rfl (by kernel_rfl) (by kernel_rfl) (by kernel_rfl) (fun _ _ _ h => h) (Or.inl ⟨by rfl, ?_⟩) hHeld ?_
          rotate_left
          · (intro w' hSw; (try dsimp only at hSw); go_simp; (try with_reducible rfl))
          try simp only [Act.put, List.setIfInBounds_toArray, List.set_cons_zero, List.set_cons_succ]
          refine wpAnyH_take (i := 6) (oi := ⟨_, _, _, _, _, _⟩) (v := ?_) rfl (by kernel_rfl) (by kernel_rfl) (by kernel_rfl) (fun _ _ _ h => h) (Or.inl ⟨by rfl, ?_⟩) hHeld ?_
          rotate_left
          · (intro w' hSw; (try dsimp only at hSw); go_simp; (try with_reducible rfl))
          try simp only [Act.put, List.setIfInBounds_toArray, List.set_cons_zero, List.set_cons_succ]
          refine wpAnyH_take (i := 7) (oi := ⟨_, _, _, _, _, _⟩) (v := ?_) rfl (by kernel_rfl) (by kernel_rfl) (by kernel_rfl) (fun _ _ _ h => h) (Or.inl ⟨by rfl, ?_⟩) hHeld ?_
          rotate_left
          · (intro w' hSw; (try dsimp only at hSw); go_simp; (try with_reducible rfl))
          try simp only [Act.put, List.setIfInBounds_toArray, List.set_cons_zero, List.set_cons_succ]
          clear hHeld
          have ALL := hidden (show Keeps (fun _ => False) w118 wcx12731 ∧ IsVar wcx12731 rx1270_30 V.null ∧ IsVar wcx12731 rx1271_26 V.null ∧ w118.heap.size ≤ rx1270_30 ∧ w118.heap.size ≤ rx1271_26 ∧ rx1270_30 ≠ rx1271_26 from ⟨KCx12731.out, XX31_0.out, XX31_1.out, GG30.out, GG26.out, NN30_1.out⟩)
          revert ALL
          exact TAIL rx1270_30 rx1271_26 wcx12731
      · go_simp
        refine hK.out _ _ ?_ (fun hH2 => ?_)
        · ((try dsimp only); exact SK129.out _ ((KAx12726.out.alloc _).mono (fun _ _ h => h.elim)))
        clear hK K hH2
        try simp only [Act.put, List.setIfInBounds_toArray, List.set_cons_zero, List.set_cons_succ]
        have KAx12732 := hidden (KAx12726.out.alloc (.cells #[.int .i64 0, .int .i64 0, .string ⟨#[]⟩] 29))
        have XX32 := hidden (show IsVar (wax12726.alloc (.cells #[.int .i64 0, .int .i64 0, .string ⟨#[]⟩] 29)) wax12726.heap.size V.null from IsVar.new wax12726 V.null)
        have GG32 := hidden (show w118.heap.size ≤ wax12726.heap.size from KAx12726.out.size)
        have NN32_1 := hidden (show wax12726.heap.size ≠ rx1271_26 from Ne.symm (Nat.ne_of_lt (blk_lt XX26.out)))
        have XX32_1 := hidden (show IsVar (wax12726.alloc (.cells #[.int .i64 0, .int .i64 0, .string ⟨#[]⟩] 29)) rx1271_26 V.null from blk_alloc XX26.out (.cells #[.int .i64 0, .int .i64 0, .string ⟨#[]⟩] 29))
        clear KAx12726
        generalize wax12726.heap.size = rx1270_32 at *
        generalize wax12726.alloc (.cells #[.int .i64 0, .int .i64 0, .string ⟨#[]⟩] 29) = wax12732 at *
        refine wpAnyH_ready (rs := [2]) (by kernel_rfl) (by simp) ?_
        refine AllReadyH.cons (o := ⟨_, _, _, _, _, _⟩) rfl (fun K hK => ?_) AllReadyH.nil
        go_simp
        (first | (go_at_call 9; refine (C130.out wax12732 KAx12732.out).mono ?_; rintro e wcx12733 ⟨rfl, h1⟩))
        go_wp2_with fail
        have KCx12733 := hidden (KAx12732.out.trans h1 (fun _ _ h => h))
        refine hK.out _ _ ?_ (fun hH2 => ?_)
        · ((try dsimp only); exact SK129.out _ (KCx12733.out.mono (fun _ _ h => h.elim)))
        clear hK K hH2
        try simp only [Act.put, List.setIfInBounds_toArray, List.set_cons_zero, List.set_cons_succ]
        have XX33_0 := hidden (show IsVar wcx12733 rx1270_32 V.null from XX32.out.keeps h1 (fun h => h))
        have XX33_1 := hidden (show IsVar wcx12733 rx1271_26 V.null from XX32_1.out.keeps h1 (fun h => h))
        clear h1 KAx12732
        refine wpAnyH_ready (rs := [3]) (by kernel_rfl) (by simp) ?_
        refine AllReadyH.cons (o := ⟨_, _, _, _, _, _⟩) rfl (fun K hK => ?_) AllReadyH.nil
        go_simp
        (first | (go_at_call 23; refine (C131.out wcx12733 KCx12733.out).mono ?_; rintro e wcx12734 ⟨rfl, h1⟩))
        go_wp2_with fail
        have KCx12734 := hidden (KCx12733.out.trans h1 (fun _ _ h => h))
        refine hK.out _ _ ?_ (fun hH2 => ?_)
        · ((try dsimp only); exact SK129.out _ (KCx12734.out.mono (fun _ _ h => h.elim)))
        clear hK K hH2
        try simp only [Act.put, List.setIfInBounds_toArray, List.set_cons_zero, List.set_cons_succ]
        have XX34_0 := hidden (show IsVar wcx12734 rx1270_32 V.null from XX33_0.out.keeps h1 (fun h => h))
        have XX34_1 := hidden (show IsVar wcx12734 rx1271_26 V.null from XX33_1.out.keeps h1 (fun h => h))
        clear h1 KCx12733
        have hHeld := SK129.out _ (KCx12734.out.mono (fun _ _ h => h.elim))
        (try dsimp only at hHeld)
        refine wpAnyH_take (i := 4) (oi := ⟨_, _, _, _, _, _⟩) (v := ?_) rfl (by kernel_rfl) (by kernel_rfl) (by kernel_rfl) (fun _ _ _ h => h) (Or.inl ⟨by rfl, ?_⟩) hHeld ?_
        rotate_left
        · (intro w' hSw; (try dsimp only at hSw); go_simp; (try with_reducible rfl))
        try simp only [Act.put, List.setIfInBounds_toArray, List.set_cons_zero, List.set_cons_succ]
        refine wpAnyH_take (i := 5) (oi := ⟨_, _, _, _, _, _⟩) (v := ?_) rfl (by kernel_rfl) (by kernel_rfl) (by kernel_rfl) (fun _ _ _ h => h) (Or.inl ⟨by rfl, ?_⟩) hHeld ?_
        rotate_left
        · (intro w' hSw; (try dsimp only at hSw); go_simp; (try with_reducible rfl))
        try simp only [Act.put, List.setIfInBounds_toArray, List.set_cons_zero, List.set_cons_succ]
        refine wpAnyH_take (i := 6) (oi := ⟨_, _, _, _, _, _⟩) (v := ?_) rfl (by kernel_rfl) (by kernel_rfl) (by kernel_rfl) (fun _ _ _ h => h) (Or.inl ⟨by rfl, ?_⟩) hHeld ?_
        rotate_left
        · (intro w' hSw; (try dsimp only at hSw); go_simp; (try with_reducible rfl))
        try simp only [Act.put, List.setIfInBounds_toArray, List.set_cons_zero, List.set_cons_succ]
        refine wpAnyH_take (i := 7) (oi := ⟨_, _, _, _, _, _⟩) (v := ?_) rfl (by kernel_rfl) (by kernel_rfl) (by kernel_rfl) (fun _ _ _ h => h) (Or.inl ⟨by rfl, ?_⟩) hHeld ?_
        rotate_left
        · (intro w' hSw; (try dsimp only at hSw); go_simp; (try with_reducible rfl))
        try simp only [Act.put, List.setIfInBounds_toArray, List.set_cons_zero, List.set_cons_succ]
        clear hHeld
        have ALL := hidden (show Keeps (fun _ => False) w118 wcx12734 ∧ IsVar wcx12734 rx1270_32 V.null ∧ IsVar wcx12734 rx1271_26 V.null ∧ w118.heap.size ≤ rx1270_32 ∧ w118.heap.size ≤ rx1271_26 ∧ rx1270_32 ≠ rx1271_26 from ⟨KCx12734.out, XX34_0.out, XX34_1.out, GG32.out, GG26.out, NN32_1.out⟩)
        revert ALL
        exact TAIL rx1270_32 rx1271_26 wcx12734
  · intro rx1270 rx1271 wzx127 ALL
    obtain ⟨hKZ, hXR0, hXR1, hGR0, hGR1, hNE0_1⟩ := ALL.out
    have KZx127 := hidden hKZ
    have XRx1270 := hidden hXR0
    have GRx1270 := hidden hGR0
    have XRx1271 := hidden hXR1
    have GRx1271 := hidden hGR1
    have NEx1270_1 := hidden hNE0_1
    clear ALL hKZ hXR0 hGR0 hXR1 hGR1 hNE0_1
    have KSx127 := hidden (show Keeps (fun k => w118.heap.size ≤ k) w118 wzx127 from KZx127.out.mono (fun _ _ h => h.elim))
    obtain ⟨a0, a1, a2, a3, a4, a5⟩ := XRx1270.out.cells
    have haz := blk_lt XRx1270.out
    obtain ⟨b0, b1, b2, b3, b4, b5⟩ := XRx1271.out.cells
    have hbz := blk_lt XRx1271.out
    simp only [V.null] at a0 a1 a2 b0 b1 b2
    have hn0_1 := NEx1270_1.out
    have hm0_1 := Ne.symm hn0_1
    have hHeld := SK129.out _ KSx127.out
    (try dsimp only at hHeld)
    refine wpAnyH_ready (rs := [10]) (by kernel_rfl) (by simp) ?_
    refine AllReadyH.cons (o := ⟨_, _, _, _, _, _⟩) rfl (fun K hK => ?_) AllReadyH.nil
    go_simp
    refine hK.out _ _ ?_ (fun hH2 => ?_)
    · ((try dsimp only); refine SK129.out _ ?_; (repeat with_reducible (first | exact KSx127.out | refine Keeps.var ?_ (fun _ => (by first | exact GRx1270.out | exact GRx1271.out)) _ _ _)))
    clear hK K hHeld
    have hHeld := hH2
    clear hH2
    try simp only [Act.put, List.setIfInBounds_toArray, List.set_cons_zero, List.set_cons_succ]
    refine wpAnyH_ready (rs := [11]) (by kernel_rfl) (by simp) ?_
    refine AllReadyH.cons (o := ⟨_, _, _, _, _, _⟩) rfl (fun K hK => ?_) AllReadyH.nil
    go_simp
    refine hK.out _ _ ?_ (fun hH2 => ?_)
    · ((try dsimp only); refine SK129.out _ ?_; (repeat with_reducible (first | exact KSx127.out | refine Keeps.var ?_ (fun _ => (by first | exact GRx1270.out | exact GRx1271.out)) _ _ _)))
    clear hK K hHeld
    have hHeld := hH2
    clear hH2
    try simp only [Act.put, List.setIfInBounds_toArray, List.set_cons_zero, List.set_cons_succ]
    refine wpAnyH_take (i := 12) (oi := ⟨_, _, _, _, _, _⟩) (v := ?_) rfl (by kernel_rfl) (by kernel_rfl) (by kernel_rfl) (fun _ _ _ h => h) (Or.inl ⟨by rfl, ?_⟩) hHeld ?_
    rotate_left
    · (intro w' hSw; (try dsimp only at hSw); go_simp; (try with_reducible rfl))
    try simp only [Act.put, List.setIfInBounds_toArray, List.set_cons_zero, List.set_cons_succ]
    refine wpAnyH_done (by kernel_rfl) ?_ _
    refine NoPanic.normal ?_
    clear hHeld
    have K132 : Keeps (fun k => w118.heap.size ≤ k) w118 ((((((wzx127.setCell ⟨rx1270, 0, none⟩ (.int .i64 0)).setCell ⟨rx1270, 1, none⟩ (.int .i64 0)).setCell ⟨rx1270, 2, none⟩ (.string ⟨#[]⟩)).setCell ⟨rx1271, 0, none⟩ (.int .i64 4)).setCell ⟨rx1271, 1, none⟩ (.int .i64 f)).setCell ⟨rx1271, 2, none⟩ (.string ⟨#[]⟩)) := by repeat with_reducible (first | exact KSx127.out | refine Keeps.var ?_ (fun _ => (by first | exact GRx1270.out | exact GRx1271.out)) _ _ _)
    have V134 := hidden (show Vr F80 ((((((wzx127.setCell ⟨rx1270, 0, none⟩ (.int .i64 0)).setCell ⟨rx1270, 1, none⟩ (.int .i64 0)).setCell ⟨rx1270, 2, none⟩ (.string ⟨#[]⟩)).setCell ⟨rx1271, 0, none⟩ (.int .i64 4)).setCell ⟨rx1271, 1, none⟩ (.int .i64 f)).setCell ⟨rx1271, 2, none⟩ (.string ⟨#[]⟩)) rx1270 ⟨0, 0, ⟨#[]⟩⟩ from ⟨((XRx1270.out.set ⟨0, 0, ⟨#[]⟩⟩).far (NEx1270_1.out) _ _ _), fun h => by have := H120.out.heap.inw _ h; have := GRx1270.out; omega⟩)
    have V135 := hidden (show Vr F80 ((((((wzx127.setCell ⟨rx1270, 0, none⟩ (.int .i64 0)).setCell ⟨rx1270, 1, none⟩ (.int .i64 0)).setCell ⟨rx1270, 2, none⟩ (.string ⟨#[]⟩)).setCell ⟨rx1271, 0, none⟩ (.int .i64 4)).setCell ⟨rx1271, 1, none⟩ (.int .i64 f)).setCell ⟨rx1271, 2, none⟩ (.string ⟨#[]⟩)) rx1271 ⟨4, f, ⟨#[]⟩⟩ from ⟨((XRx1271.out.far (Ne.symm NEx1270_1.out) _ _ _).set ⟨4, f, ⟨#[]⟩⟩), fun h => by have := H120.out.heap.inw _ h; have := GRx1271.out; omega⟩)
    have H136 := hidden (H120.out.beyond K132)
    have V137 := hidden (V121.out.beyond K132)
    have V138 := hidden (V122.out.beyond K132)
    have V139 := hidden (V123.out.beyond K132)
    have V140 := hidden (V119.out.beyond K132)
    clear K132 SK129 H120 V121 V122 V123 V119 KSx127 KZx127 XRx1270 XRx1271 GRx1270 GRx1271 NEx1270_1 a0 a1 a2 a3 a4 a5 b0 b1 b2 b3 b4 b5 haz hbz hn0_1 hm0_1
    generalize ((((((wzx127.setCell ⟨rx1270, 0, none⟩ (.int .i64 0)).setCell ⟨rx1270, 1, none⟩ (.int .i64 0)).setCell ⟨rx1270, 2, none⟩ (.string ⟨#[]⟩)).setCell ⟨rx1271, 0, none⟩ (.int .i64 4)).setCell ⟨rx1271, 1, none⟩ (.int .i64 f)).setCell ⟨rx1271, 2, none⟩ (.string ⟨#[]⟩)) = w133 at *
    have C141 := hidden (value_Int 1 w133)
    unfold V.val at C141
    obtain ⟨l1420, l1421, l1422, l142z⟩ := V137.out.cells
    (try dsimp only [rV, iV, V.null] at l1420 l1421 l1422)
    obtain ⟨l1430, l1431, l1432, l143z⟩ := V138.out.cells
    (try dsimp only [rV, iV, V.null] at l1430 l1431 l1432)
    obtain ⟨l1440, l1441, l1442, l144z⟩ := V139.out.cells
    (try dsimp only [rV, iV, V.null] at l1440 l1441 l1442)
    obtain ⟨l1450, l1451, l1452, l145z⟩ := V140.out.cells
    (try dsimp only [rV, iV, V.null] at l1450 l1451 l1452)
    obtain ⟨l1460, l1461, l1462, l146z⟩ := V134.out.cells
    (try dsimp only [rV, iV, V.null] at l1460 l1461 l1462)
    obtain ⟨l1470, l1471, l1472, l147z⟩ := V135.out.cells
    (try dsimp only [rV, iV, V.null] at l1470 l1471 l1472)
    (try go_wp2_with fail)
    refine C141.out.mono ?_
    rintro e w148 ⟨rfl, hK⟩
    have H149 := hidden (H136.out.calm hK)
    have V150 := hidden (V137.out.calm hK)
    have V151 := hidden (V138.out.calm hK)
    have V152 := hidden (V139.out.calm hK)
    have V153 := hidden (V140.out.calm hK)
    have V154 := hidden (V134.out.calm hK)
    have V155 := hidden (V135.out.calm hK)
    clear l1420 l1421 l1422 l142z l1430 l1431 l1432 l143z l1440 l1441 l1442 l144z l1450 l1451 l1452 l145z l1460 l1461 l1462 l146z l1470 l1471 l1472 l147z C141 hK H136 V137 V138 V139 V140 V134 V135
    have C156 := hidden (value_Int 2 w148)
    unfold V.val at C156
    obtain ⟨l1570, l1571, l1572, l157z⟩ := V150.out.cells
    (try dsimp only [rV, iV, V.null] at l1570 l1571 l1572)
    obtain ⟨l1580, l1581, l1582, l158z⟩ := V151.out.cells
    (try dsimp only [rV, iV, V.null] at l1580 l1581 l1582)
    obtain ⟨l1590, l1591, l1592, l159z⟩ := V152.out.cells
    (try dsimp only [rV, iV, V.null] at l1590 l1591 l1592)
    obtain ⟨l1600, l1601, l1602, l160z⟩ := V153.out.cells
    (try dsimp only [rV, iV, V.null] at l1600 l1601 l1602)
    obtain ⟨l1610, l1611, l1612, l161z⟩ := V154.out.cells
    (try dsimp only [rV, iV, V.null] at l1610 l1611 l1612)
    obtain ⟨l1620, l1621, l1622, l162z⟩ := V155.out.cells
    (try dsimp only [rV, iV, V.null] at l1620 l1621 l1622)
    (try go_wp2_with fail)
    refine C156.out.mono ?_
    rintro e w163 ⟨rfl, hK⟩
    have H164 := hidden (H149.out.calm hK)
    have V165 := hidden (V150.out.calm hK)
    have V166 := hidden (V151.out.calm hK)
    have V167 := hidden (V152.out.calm hK)
    have V168 := hidden (V153.out.calm hK)
    have V169 := hidden (V154.out.calm hK)
    have V170 := hidden (V155.out.calm hK)
    clear l1570 l1571 l1572 l157z l1580 l1581 l1582 l158z l1590 l1591 l1592 l159z l1600 l1601 l1602 l160z l1610 l1611 l1612 l161z l1620 l1621 l1622 l162z C156 hK H149 V150 V151 V152 V153 V154 V155
    have C171 := hidden (meta_Arith_add (w := w163) (hb := hb) 2 1 ⟨#[]⟩ 2 2 ⟨#[]⟩ (by decide) 2 3 ⟨#[]⟩ 0 (fun W2 _ => add12 W2))
    unfold V.val at C171
    obtain ⟨l1720, l1721, l1722, l172z⟩ := V165.out.cells
    (try dsimp only [rV, iV, V.null] at l1720 l1721 l1722)
    obtain ⟨l1730, l1731, l1732, l173z⟩ := V166.out.cells
    (try dsimp only [rV, iV, V.null] at l1730 l1731 l1732)
    obtain ⟨l1740, l1741, l1742, l174z⟩ := V167.out.cells
    (try dsimp only [rV, iV, V.null] at l1740 l1741 l1742)
    obtain ⟨l1750, l1751, l1752, l175z⟩ := V168.out.cells
    (try dsimp only [rV, iV, V.null] at l1750 l1751 l1752)
    obtain ⟨l1760, l1761, l1762, l176z⟩ := V169.out.cells
    (try dsimp only [rV, iV, V.null] at l1760 l1761 l1762)
    obtain ⟨l1770, l1771, l1772, l177z⟩ := V170.out.cells
    (try dsimp only [rV, iV, V.null] at l1770 l1771 l1772)
    (try go_wp2_with fail)
    refine C171.out.mono ?_
    rintro e w178 ⟨rfl, hK⟩
    have H179 := hidden (H164.out.calm hK)
    have V180 := hidden (V165.out.calm hK)
    have V181 := hidden (V166.out.calm hK)
    have V182 := hidden (V167.out.calm hK)
    have V183 := hidden (V168.out.calm hK)
    have V184 := hidden (V169.out.calm hK)
    have V185 := hidden (V170.out.calm hK)
    clear l1720 l1721 l1722 l172z l1730 l1731 l1732 l173z l1740 l1741 l1742 l174z l1750 l1751 l1752 l175z l1760 l1761 l1762 l176z l1770 l1771 l1772 l177z C171 hK H164 V165 V166 V167 V168 V169 V170
    obtain ⟨l1860, l1861, l1862, l186z⟩ := V180.out.cells
    (try dsimp only [rV, iV, V.null] at l1860 l1861 l1862)
    obtain ⟨l1870, l1871, l1872, l187z⟩ := V181.out.cells
    (try dsimp only [rV, iV, V.null] at l1870 l1871 l1872)
    obtain ⟨l1880, l1881, l1882, l188z⟩ := V182.out.cells
    (try dsimp only [rV, iV, V.null] at l1880 l1881 l1882)
    obtain ⟨l1890, l1891, l1892, l189z⟩ := V183.out.cells
    (try dsimp only [rV, iV, V.null] at l1890 l1891 l1892)
    obtain ⟨l1900, l1901, l1902, l190z⟩ := V184.out.cells
    (try dsimp only [rV, iV, V.null] at l1900 l1901 l1902)
    obtain ⟨l1910, l1911, l1912, l191z⟩ := V185.out.cells
    (try dsimp only [rV, iV, V.null] at l1910 l1911 l1912)
    (try go_wp2_with fail)
    clear l1860 l1861 l1862 l186z l1870 l1871 l1872 l187z l1880 l1881 l1882 l188z l1890 l1891 l1892 l189z l1900 l1901 l1902 l190z l1910 l1911 l1912 l191z
    have V194 := hidden (show Vr F80 ((w178.alloc (.cells #[.int .i64 2, .int .i64 3, .string ⟨#[]⟩] 29)).alloc (.cells #[.int .i64 0, .int .i64 0, .string ⟨#[]⟩] 29)) (w178.heap.size) ⟨2, 3, ⟨#[]⟩⟩ from ⟨(IsVar.al (newvar_at w178 ⟨2, 3, ⟨#[]⟩⟩ (by simp)) (.cells #[.int .i64 0, .int .i64 0, .string ⟨#[]⟩] 29)), fun h => by have := H179.out.heap.inw _ h; omega⟩)
    have V195 := hidden (show Vr F80 ((w178.alloc (.cells #[.int .i64 2, .int .i64 3, .string ⟨#[]⟩] 29)).alloc (.cells #[.int .i64 0, .int .i64 0, .string ⟨#[]⟩] 29)) (w178.heap.size + 1) ⟨0, 0, ⟨#[]⟩⟩ from ⟨(newvar_at (w178.alloc (.cells #[.int .i64 2, .int .i64 3, .string ⟨#[]⟩] 29)) ⟨0, 0, ⟨#[]⟩⟩ (by simp)), fun h => by have := H179.out.heap.inw _ h; omega⟩)
    have K193 : Keeps (fun _ => False) w178 ((w178.alloc (.cells #[.int .i64 2, .int .i64 3, .string ⟨#[]⟩] 29)).alloc (.cells #[.int .i64 0, .int .i64 0, .string ⟨#[]⟩] 29)) := by repeat (first | exact Keeps.refl _ _ | refine Keeps.alloc ?_ _)
    have H196 := hidden (H179.out.calm K193)
    have V197 := hidden (V180.out.calm K193)
    have V198 := hidden (V181.out.calm K193)
    have V199 := hidden (V182.out.calm K193)
    have V200 := hidden (V183.out.calm K193)
    have V201 := hidden (V184.out.calm K193)
    have V202 := hidden (V185.out.calm K193)
    clear K193 H179 V180 V181 V182 V183 V184 V185
    generalize w178.heap.size + 1 = v203_1 at *
    generalize w178.heap.size = v203_0 at *
    generalize ((w178.alloc (.cells #[.int .i64 2, .int .i64 3, .string ⟨#[]⟩] 29)).alloc (.cells #[.int .i64 0, .int .i64 0, .string ⟨#[]⟩] 29)) = w192 at *
    have C204 := hidden (value_Int 1 w192)
    unfold V.val at C204
    obtain ⟨l2050, l2051, l2052, l205z⟩ := V197.out.cells
    (try dsimp only [rV, iV, V.null] at l2050 l2051 l2052)
    obtain ⟨l2060, l2061, l2062, l206z⟩ := V198.out.cells
    (try dsimp only [rV, iV, V.null] at l2060 l2061 l2062)
    obtain ⟨l2070, l2071, l2072, l207z⟩ := V199.out.cells
    (try dsimp only [rV, iV, V.null] at l2070 l2071 l2072)
    obtain ⟨l2080, l2081, l2082, l208z⟩ := V200.out.cells
    (try dsimp only [rV, iV, V.null] at l2080 l2081 l2082)
    obtain ⟨l2090, l2091, l2092, l209z⟩ := V201.out.cells
    (try dsimp only [rV, iV, V.null] at l2090 l2091 l2092)
    obtain ⟨l2100, l2101, l2102, l210z⟩ := V202.out.cells
    (try dsimp only [rV, iV, V.null] at l2100 l2101 l2102)
    obtain ⟨l2110, l2111, l2112, l211z⟩ := V194.out.cells
    (try dsimp only [rV, iV, V.null] at l2110 l2111 l2112)
    obtain ⟨l2120, l2121, l2122, l212z⟩ := V195.out.cells
    (try dsimp only [rV, iV, V.null] at l2120 l2121 l2122)
    (try go_wp2_with fail)
    refine C204.out.mono ?_
    rintro e w213 ⟨rfl, hK⟩
    have H214 := hidden (H196.out.calm hK)
    have V215 := hidden (V197.out.calm hK)
    have V216 := hidden (V198.out.calm hK)
    have V217 := hidden (V199.out.calm hK)
    have V218 := hidden (V200.out.calm hK)
    have V219 := hidden (V201.out.calm hK)
    have V220 := hidden (V202.out.calm hK)
    have V221 := hidden (V194.out.calm hK)
    have V222 := hidden (V195.out.calm hK)
    clear l2050 l2051 l2052 l205z l2060 l2061 l2062 l206z l2070 l2071 l2072 l207z l2080 l2081 l2082 l208z l2090 l2091 l2092 l209z l2100 l2101 l2102 l210z l2110 l2111 l2112 l211z l2120 l2121 l2122 l212z C204 hK H196 V197 V198 V199 V200 V201 V202 V194 V195
    have C223 := hidden (value_Int 2 w213)
    unfold V.val at C223
    obtain ⟨l2240, l2241, l2242, l224z⟩ := V215.out.cells
    (try dsimp only [rV, iV, V.null] at l2240 l2241 l2242)
    obtain ⟨l2250, l2251, l2252, l225z⟩ := V216.out.cells
    (try dsimp only [rV, iV, V.null] at l2250 l2251 l2252)
    obtain ⟨l2260, l2261, l2262, l226z⟩ := V217.out.cells
    (try dsimp only [rV, iV, V.null] at l2260 l2261 l2262)
    obtain ⟨l2270, l2271, l2272, l227z⟩ := V218.out.cells
    (try dsimp only [rV, iV, V.null] at l2270 l2271 l2272)
    obtain ⟨l2280, l2281, l2282, l228z⟩ := V219.out.cells
    (try dsimp only [rV, iV, V.null] at l2280 l2281 l2282)
    obtain ⟨l2290, l2291, l2292, l229z⟩ := V220.out.cells
    (try dsimp only [rV, iV, V.null] at l2290 l2291 l2292)
    obtain ⟨l2300, l2301, l2302, l230z⟩ := V221.out.cells
    (try dsimp only [rV, iV, V.null] at l2300 l2301 l2302)
    obtain ⟨l2310, l2311, l2312, l231z⟩ := V222.out.cells
    (try dsimp only [rV, iV, V.null] at l2310 l2311 l2312)
    (try go_wp2_with fail)
    refine C223.out.mono ?_
    rintro e w232 ⟨rfl, hK⟩
    have H233 := hidden (H214.out.calm hK)
    have V234 := hidden (V215.out.calm hK)
    have V235 := hidden (V216.out.calm hK)
    have V236 := hidden (V217.out.calm hK)
    have V237 := hidden (V218.out.calm hK)
    have V238 := hidden (V219.out.calm hK)
    have V239 := hidden (V220.out.calm hK)
    have V240 := hidden (V221.out.calm hK)
    have V241 := hidden (V222.out.calm hK)
    clear l2240 l2241 l2242 l224z l2250 l2251 l2252 l225z l2260 l2261 l2262 l226z l2270 l2271 l2272 l227z l2280 l2281 l2282 l228z l2290 l2291 l2292 l229z l2300 l2301 l2302 l230z l2310 l2311 l2312 l231z C223 hK H214 V215 V216 V217 V218 V219 V220 V221 V222
    have C242 := hidden (meta_Order_plain (w := w232) (hb := hb) 2 1 ⟨#[]⟩ 2 2 ⟨#[]⟩ (.inl (by decide)) (-1) 0 (fun W2 _ => cmp12 W2))
    unfold V.val at C242
    obtain ⟨l2430, l2431, l2432, l243z⟩ := V234.out.cells
    (try dsimp only [rV, iV, V.null] at l2430 l2431 l2432)
    obtain ⟨l2440, l2441, l2442, l244z⟩ := V235.out.cells
    (try dsimp only [rV, iV, V.null] at l2440 l2441 l2442)
    obtain ⟨l2450, l2451, l2452, l245z⟩ := V236.out.cells
    (try dsimp only [rV, iV, V.null] at l2450 l2451 l2452)
    obtain ⟨l2460, l2461, l2462, l246z⟩ := V237.out.cells
    (try dsimp only [rV, iV, V.null] at l2460 l2461 l2462)
    obtain ⟨l2470, l2471, l2472, l247z⟩ := V238.out.cells
    (try dsimp only [rV, iV, V.null] at l2470 l2471 l2472)
    obtain ⟨l2480, l2481, l2482, l248z⟩ := V239.out.cells
    (try dsimp only [rV, iV, V.null] at l2480 l2481 l2482)
    obtain ⟨l2490, l2491, l2492, l249z⟩ := V240.out.cells
    (try dsimp only [rV, iV, V.null] at l2490 l2491 l2492)
    obtain ⟨l2500, l2501, l2502, l250z⟩ := V241.out.cells
    (try dsimp only [rV, iV, V.null] at l2500 l2501 l2502)
    (try go_wp2_with fail)
    refine C242.out.mono ?_
    rintro e w251 ⟨rfl, hK⟩
    have H252 := hidden (H233.out.calm hK)
    have V253 := hidden (V234.out.calm hK)
    have V254 := hidden (V235.out.calm hK)
    have V255 := hidden (V236.out.calm hK)
    have V256 := hidden (V237.out.calm hK)
    have V257 := hidden (V238.out.calm hK)
    have V258 := hidden (V239.out.calm hK)
    have V259 := hidden (V240.out.calm hK)
    have V260 := hidden (V241.out.calm hK)
    clear l2430 l2431 l2432 l243z l2440 l2441 l2442 l244z l2450 l2451 l2452 l245z l2460 l2461 l2462 l246z l2470 l2471 l2472 l247z l2480 l2481 l2482 l248z l2490 l2491 l2492 l249z l2500 l2501 l2502 l250z C242 hK H233 V234 V235 V236 V237 V238 V239 V240 V241
    obtain ⟨l2610, l2611, l2612, l261z⟩ := V253.out.cells
    (try dsimp only [rV, iV, V.null] at l2610 l2611 l2612)
    obtain ⟨l2620, l2621, l2622, l262z⟩ := V254.out.cells
    (try dsimp only [rV, iV, V.null] at l2620 l2621 l2622)
    obtain ⟨l2630, l2631, l2632, l263z⟩ := V255.out.cells
    (try dsimp only [rV, iV, V.null] at l2630 l2631 l2632)
    obtain ⟨l2640, l2641, l2642, l264z⟩ := V256.out.cells
    (try dsimp only [rV, iV, V.null] at l2640 l2641 l2642)
    obtain ⟨l2650, l2651, l2652, l265z⟩ := V257.out.cells
    (try dsimp only [rV, iV, V.null] at l2650 l2651 l2652)
    obtain ⟨l2660, l2661, l2662, l266z⟩ := V258.out.cells
    (try dsimp only [rV, iV, V.null] at l2660 l2661 l2662)
    obtain ⟨l2670, l2671, l2672, l267z⟩ := V259.out.cells
    (try dsimp only [rV, iV, V.null] at l2670 l2671 l2672)
    obtain ⟨l2680, l2681, l2682, l268z⟩ := V260.out.cells
    (try dsimp only [rV, iV, V.null] at l2680 l2681 l2682)
    (try go_wp2_with fail)
    clear l2610 l2611 l2612 l261z l2620 l2621 l2622 l262z l2630 l2631 l2632 l263z l2640 l2641 l2642 l264z l2650 l2651 l2652 l265z l2660 l2661 l2662 l266z l2670 l2671 l2672 l267z l2680 l2681 l2682 l268z
    have V272 := hidden (show Vr F80 (w251.alloc (.cells #[.int .i64 0, .int .i64 0, .string ⟨#[]⟩] 29)) w251.heap.size ⟨0, 0, ⟨#[]⟩⟩ from Vr.new ⟨0, 0, ⟨#[]⟩⟩ H252.out.heap.inw)
    have K269 := (Keeps.refl (fun _ => False) w251).alloc (.cells #[.int .i64 0, .int .i64 0, .string ⟨#[]⟩] 29)
    have H273 := hidden (H252.out.calm K269)
    have V274 := hidden (V253.out.calm K269)
    have V275 := hidden (V254.out.calm K269)
    have V276 := hidden (V255.out.calm K269)
    have V277 := hidden (V256.out.calm K269)
    have V278 := hidden (V257.out.calm K269)
    have V279 := hidden (V258.out.calm K269)
    have V280 := hidden (V259.out.calm K269)
    have V281 := hidden (V260.out.calm K269)
    clear K269 H252 V253 V254 V255 V256 V257 V258 V259 V260
    generalize w251.heap.size = v270 at *
    generalize w251.alloc (.cells #[.int .i64 0, .int .i64 0, .string ⟨#[]⟩] 29) = w271 at *
    obtain ⟨l2820, l2821, l2822, l282z⟩ := V274.out.cells
    (try dsimp only [rV, iV, V.null] at l2820 l2821 l2822)
    obtain ⟨l2830, l2831, l2832, l283z⟩ := V275.out.cells
    (try dsimp only [rV, iV, V.null] at l2830 l2831 l2832)
    obtain ⟨l2840, l2841, l2842, l284z⟩ := V276.out.cells
    (try dsimp only [rV, iV, V.null] at l2840 l2841 l2842)
    obtain ⟨l2850, l2851, l2852, l285z⟩ := V277.out.cells
    (try dsimp only [rV, iV, V.null] at l2850 l2851 l2852)
    obtain ⟨l2860, l2861, l2862, l286z⟩ := V278.out.cells
    (try dsimp only [rV, iV, V.null] at l2860 l2861 l2862)
    obtain ⟨l2870, l2871, l2872, l287z⟩ := V279.out.cells
    (try dsimp only [rV, iV, V.null] at l2870 l2871 l2872)
    obtain ⟨l2880, l2881, l2882, l288z⟩ := V280.out.cells
    (try dsimp only [rV, iV, V.null] at l2880 l2881 l2882)
    obtain ⟨l2890, l2891, l2892, l289z⟩ := V281.out.cells
    (try dsimp only [rV, iV, V.null] at l2890 l2891 l2892)
    obtain ⟨l2900, l2901, l2902, l290z⟩ := V272.out.cells
    (try dsimp only [rV, iV, V.null] at l2900 l2901 l2902)
    (try go_wp2_with fail)
    clear l2820 l2821 l2822 l282z l2830 l2831 l2832 l283z l2840 l2841 l2842 l284z l2850 l2851 l2852 l285z l2860 l2861 l2862 l286z l2870 l2871 l2872 l287z l2880 l2881 l2882 l288z l2890 l2891 l2892 l289z l2900 l2901 l2902 l290z
    have SK291 := hidden (fun (W : World) (hk : Keeps (fun _ => False) w271 W) => show W.cell? ⟨v98, 0, none⟩ = some (.int .i64 4) ∧ W.cell? ⟨v98, 1, none⟩ = some (.int .i64 f) ∧ W.cell? ⟨v98, 2, none⟩ = some (.string ⟨#[]⟩) ∧ W.cell? ⟨rx1271, 0, none⟩ = some (.int .i64 4) ∧ W.cell? ⟨rx1271, 1, none⟩ = some (.int .i64 f) ∧ W.cell? ⟨rx1271, 2, none⟩ = some (.string ⟨#[]⟩) ∧ W.cell? ⟨v203_0, 0, none⟩ = some (.int .i64 2) ∧ W.cell? ⟨v203_0, 1, none⟩ = some (.int .i64 3) ∧ W.cell? ⟨v203_0, 2, none⟩ = some (.string ⟨#[]⟩) from (by have c0 := (V276.out.calm hk).cells; have c1 := (V279.out.calm hk).cells; have c2 := (V280.out.calm hk).cells; exact ⟨c0.1, c0.2.1, c0.2.2.1, c1.1, c1.2.1, c1.2.2.1, c2.1, c2.2.1, c2.2.2.1⟩))
    refine wp_region_noPanic ?_
    refine wp_region_held_drew (S := (fun W => W.cell? ⟨v98, 0, none⟩ = some (.int .i64 4) ∧ W.cell? ⟨v98, 1, none⟩ = some (.int .i64 f) ∧ W.cell? ⟨v98, 2, none⟩ = some (.string ⟨#[]⟩) ∧ W.cell? ⟨rx1271, 0, none⟩ = some (.int .i64 4) ∧ W.cell? ⟨rx1271, 1, none⟩ = some (.int .i64 f) ∧ W.cell? ⟨rx1271, 2, none⟩ = some (.string ⟨#[]⟩) ∧ W.cell? ⟨v203_0, 0, none⟩ = some (.int .i64 2) ∧ W.cell? ⟨v203_0, 1, none⟩ = some (.int .i64 3) ∧ W.cell? ⟨v203_0, 2, none⟩ = some (.string ⟨#[]⟩))) (by kernel_rfl) ?_ (fun hHeld => ?_)
    · ((try dsimp only); (first | done | exact SK291.out _ ((Keeps.refl _ w271).drew)))
    have KD292 := (Keeps.refl (fun _ => False) w271).drew
    have H294 := hidden (H273.out.calm KD292)
    have V295 := hidden (V274.out.calm KD292)
    have V296 := hidden (V275.out.calm KD292)
    have V297 := hidden (V276.out.calm KD292)
    have V298 := hidden (V277.out.calm KD292)
    have V299 := hidden (V278.out.calm KD292)
    have V300 := hidden (V279.out.calm KD292)
    have V301 := hidden (V280.out.calm KD292)
    have V302 := hidden (V281.out.calm KD292)
    have V303 := hidden (V272.out.calm KD292)
    clear KD292 H273 V274 V275 V276 V277 V278 V279 V280 V281 V272
    generalize w271.drew = w293 at *
    clear SK291
    refine wpAnyH_take (i := 0) (oi := ⟨_, _, _, _, _, _⟩) (v := ?_) rfl (by kernel_rfl) (by kernel_rfl) (by kernel_rfl) (fun _ _ _ h => h) (Or.inl ⟨by rfl, ?_⟩) hHeld ?_
    rotate_left
    · (intro w' hSw; (try dsimp only at hSw); go_simp; (try with_reducible rfl))
    try simp only [Act.put, List.setIfInBounds_toArray, List.set_cons_zero, List.set_cons_succ]
    refine wpAnyH_take (i := 1) (oi := ⟨_, _, _, _, _, _⟩) (v := ?_) rfl (by kernel_rfl) (by kernel_rfl) (by kernel_rfl) (fun _ _ _ h => h) (Or.inl ⟨by rfl, ?_⟩) hHeld ?_
    rotate_left
    · (intro w' hSw; (try dsimp only at hSw); go_simp; (try with_reducible rfl))
    try simp only [Act.put, List.setIfInBounds_toArray, List.set_cons_zero, List.set_cons_succ]
    refine wpAnyH_take (i := 2) (oi := ⟨_, _, _, _, _, _⟩) (v := ?_) rfl (by kernel_rfl) (by kernel_rfl) (by kernel_rfl) (fun _ _ _ h => h) (Or.inl ⟨by rfl, ?_⟩) hHeld ?_
    rotate_left
    · (intro w' hSw; (try dsimp only at hSw); go_simp; (try with_reducible rfl))
    try simp only [Act.put, List.setIfInBounds_toArray, List.set_cons_zero, List.set_cons_succ]
    refine wpAnyH_take (i := 3) (oi := ⟨_, _, _, _, _, _⟩) (v := ?_) rfl (by kernel_rfl) (by kernel_rfl) (by kernel_rfl) (fun _ _ _ h => h) (Or.inl ⟨by rfl, ?_⟩) hHeld ?_
    rotate_left
    · (intro w' hSw; (try dsimp only at hSw); go_simp; (try with_reducible rfl))
    try simp only [Act.put, List.setIfInBounds_toArray, List.set_cons_zero, List.set_cons_succ]
    refine wpAnyH_take (i := 4) (oi := ⟨_, _, _, _, _, _⟩) (v := ?_) rfl (by kernel_rfl) (by kernel_rfl) (by kernel_rfl) (fun _ _ _ h => h) (Or.inl ⟨by rfl, ?_⟩) hHeld ?_
    rotate_left
    · (intro w' hSw; (try dsimp only at hSw); go_simp; (try with_reducible rfl))
    try simp only [Act.put, List.setIfInBounds_toArray, List.set_cons_zero, List.set_cons_succ]
    refine wpAnyH_take (i := 5) (oi := ⟨_, _, _, _, _, _⟩) (v := ?_) rfl (by kernel_rfl) (by kernel_rfl) (by kernel_rfl) (fun _ _ _ h => h) (Or.inl ⟨by rfl, ?_⟩) hHeld ?_
    rotate_left
    · (intro w' hSw; (try dsimp only at hSw); go_simp; (try with_reducible rfl))
    try simp only [Act.put, List.setIfInBounds_toArray, List.set_cons_zero, List.set_cons_succ]
    refine wpAnyH_take (i := 6) (oi := ⟨_, _, _, _, _, _⟩) (v := ?_) rfl (by kernel_rfl) (by kernel_rfl) (by kernel_rfl) (fun _ _ _ h => h) (Or.inl ⟨by rfl, ?_⟩) hHeld ?_
    rotate_left
    · (intro w' hSw; (try dsimp only at hSw); go_simp; (try with_reducible rfl))
    try simp only [Act.put, List.setIfInBounds_toArray, List.set_cons_zero, List.set_cons_succ]
    refine wpAnyH_take (i := 7) (oi := ⟨_, _, _, _, _, _⟩) (v := ?_) rfl (by kernel_rfl) (by kernel_rfl) (by kernel_rfl) (fun _ _ _ h => h) (Or.inl ⟨by rfl, ?_⟩) hHeld ?_
    rotate_left
    · (intro w' hSw; (try dsimp only at hSw); go_simp; (try with_reducible rfl))
    try simp only [Act.put, List.setIfInBounds_toArray, List.set_cons_zero, List.set_cons_succ]
    refine wpAnyH_ready (rs := [8]) (by kernel_rfl) (by simp) ?_
    refine AllReadyH.cons (o := ⟨_, _, _, _, _, _⟩) rfl (fun K hK => ?_) AllReadyH.nil
    go_simp
    have C304 := hidden (heap_Ref f w293)
    unfold V.val at C304
    (first | (go_at_call 12; refine C304.out.mono ?_))
    rintro e w305 ⟨rfl, hK1⟩
    have H306 := hidden (H294.out.calm hK1)
    have V307 := hidden (V295.out.calm hK1)
    have V308 := hidden (V296.out.calm hK1)
    have V309 := hidden (V297.out.calm hK1)
    have V310 := hidden (V298.out.calm hK1)
    have V311 := hidden (V299.out.calm hK1)
    have V312 := hidden (V300.out.calm hK1)
    have V313 := hidden (V301.out.calm hK1)
    have V314 := hidden (V302.out.calm hK1)
    have V315 := hidden (V303.out.calm hK1)
    clear C304 hK1 H294 V295 V296 V297 V298 V299 V300 V301 V302 V303
    (try go_wp2_with fail)
    refine hK.out _ _ ?_ (fun hH2 => ?_)
    · ((try dsimp only); (first | done | exact (by have c0 := (V309.out).cells; have c1 := (V312.out).cells; have c2 := (V313.out).cells; exact ⟨c0.1, c0.2.1, c0.2.2.1, c1.1, c1.2.1, c1.2.2.1, c2.1, c2.2.1, c2.2.2.1⟩)))
    clear hK K hHeld
    have hHeld := hH2
    clear hH2
    try simp only [Act.put, List.setIfInBounds_toArray, List.set_cons_zero, List.set_cons_succ]
    refine wpAnyH_take (i := 9) (oi := ⟨_, _, _, _, _, _⟩) (v := ?_) rfl (by kernel_rfl) (by kernel_rfl) (by kernel_rfl) (fun _ _ _ h => h) (Or.inl ⟨by rfl, ?_⟩) hHeld ?_
    rotate_left
    · (intro w' hSw; (try dsimp only at hSw); go_simp; (try with_reducible rfl))
    try simp only [Act.put, List.setIfInBounds_toArray, List.set_cons_zero, List.set_cons_succ]
    refine wpAnyH_take (i := 10) (oi := ⟨_, _, _, _, _, _⟩) (v := ?_) rfl (by kernel_rfl) (by kernel_rfl) (by kernel_rfl) (fun _ _ _ h => h) (Or.inl ⟨by rfl, ?_⟩) hHeld ?_
    rotate_left
    · (intro w' hSw; (try dsimp only at hSw); go_simp; (try with_reducible rfl))
    try simp only [Act.put, List.setIfInBounds_toArray, List.set_cons_zero, List.set_cons_succ]
    refine wpAnyH_take (i := 11) (oi := ⟨_, _, _, _, _, _⟩) (v := ?_) rfl (by kernel_rfl) (by kernel_rfl) (by kernel_rfl) (fun _ _ _ h => h) (Or.inl ⟨by rfl, ?_⟩) hHeld ?_
    rotate_left
    · (intro w' hSw; (try dsimp only at hSw); go_simp; (try with_reducible rfl))
    try simp only [Act.put, List.setIfInBounds_toArray, List.set_cons_zero, List.set_cons_succ]
    refine wpAnyH_take (i := 12) (oi := ⟨_, _, _, _, _, _⟩) (v := ?_) rfl (by kernel_rfl) (by kernel_rfl) (by kernel_rfl) (fun _ _ _ h => h) (Or.inl ⟨by rfl, ?_⟩) hHeld ?_
    rotate_left
    · (intro w' hSw; (try dsimp only at hSw); go_simp; (try with_reducible rfl))
    try simp only [Act.put, List.setIfInBounds_toArray, List.set_cons_zero, List.set_cons_succ]
    refine wpAnyH_take (i := 13) (oi := ⟨_, _, _, _, _, _⟩) (v := ?_) rfl (by kernel_rfl) (by kernel_rfl) (by kernel_rfl) (fun _ _ _ h => h) (Or.inl ⟨by rfl, ?_⟩) hHeld ?_
    rotate_left
    · (intro w' hSw; (try dsimp only at hSw); go_simp; (try with_reducible rfl))
    try simp only [Act.put, List.setIfInBounds_toArray, List.set_cons_zero, List.set_cons_succ]
    refine wpAnyH_take (i := 14) (oi := ⟨_, _, _, _, _, _⟩) (v := ?_) rfl (by kernel_rfl) (by kernel_rfl) (by kernel_rfl) (fun _ _ _ h => h) (Or.inl ⟨by rfl, ?_⟩) hHeld ?_
    rotate_left
    · (intro w' hSw; (try dsimp only at hSw); go_simp; (try with_reducible rfl))
    try simp only [Act.put, List.setIfInBounds_toArray, List.set_cons_zero, List.set_cons_succ]
    refine wpAnyH_take (i := 15) (oi := ⟨_, _, _, _, _, _⟩) (v := ?_) rfl (by kernel_rfl) (by kernel_rfl) (by kernel_rfl) (fun _ _ _ h => h) (Or.inl ⟨by rfl, ?_⟩) hHeld ?_
    rotate_left
    · (intro w' hSw; (try dsimp only at hSw); go_simp; (try with_reducible rfl))
    try simp only [Act.put, List.setIfInBounds_toArray, List.set_cons_zero, List.set_cons_succ]
    refine wpAnyH_take (i := 16) (oi := ⟨_, _, _, _, _, _⟩) (v := ?_) rfl (by kernel_rfl) (by kernel_rfl) (by kernel_rfl) (fun _ _ _ h => h) (Or.inl ⟨by rfl, ?_⟩) hHeld ?_
    rotate_left
    · (intro w' hSw; (try dsimp only at hSw); go_simp; (try with_reducible rfl))
    try simp only [Act.put, List.setIfInBounds_toArray, List.set_cons_zero, List.set_cons_succ]
    refine wpAnyH_take (i := 17) (oi := ⟨_, _, _, _, _, _⟩) (v := ?_) rfl (by kernel_rfl) (by kernel_rfl) (by kernel_rfl) (fun _ _ _ h => h) (Or.inl ⟨by rfl, ?_⟩) hHeld ?_
    rotate_left
    · (intro w' hSw; (try dsimp only at hSw); go_simp; (try with_reducible rfl))
    try simp only [Act.put, List.setIfInBounds_toArray, List.set_cons_zero, List.set_cons_succ]
    refine wpAnyH_take (i := 18) (oi := ⟨_, _, _, _, _, _⟩) (v := ?_) rfl (by kernel_rfl) (by kernel_rfl) (by kernel_rfl) (fun _ _ _ h => h) (Or.inl ⟨by rfl, ?_⟩) hHeld ?_
    rotate_left
    · (intro w' hSw; (try dsimp only at hSw); go_simp; (try with_reducible rfl))
    try simp only [Act.put, List.setIfInBounds_toArray, List.set_cons_zero, List.set_cons_succ]
    refine wpAnyH_take (i := 19) (oi := ⟨_, _, _, _, _, _⟩) (v := ?_) rfl (by kernel_rfl) (by kernel_rfl) (by kernel_rfl) (fun _ _ _ h => h) (Or.inl ⟨by rfl, ?_⟩) hHeld ?_
    rotate_left
    · (intro w' hSw; (try dsimp only at hSw); go_simp; (try with_reducible rfl))
    try simp only [Act.put, List.setIfInBounds_toArray, List.set_cons_zero, List.set_cons_succ]
    refine wpAnyH_take (i := 20) (oi := ⟨_, _, _, _, _, _⟩) (v := ?_) rfl (by kernel_rfl) (by kernel_rfl) (by kernel_rfl) (fun _ _ _ h => h) (Or.inl ⟨by rfl, ?_⟩) hHeld ?_
    rotate_left
    · (intro w' hSw; (try dsimp only at hSw); go_simp; (try with_reducible rfl))
    try simp only [Act.put, List.setIfInBounds_toArray, List.set_cons_zero, List.set_cons_succ]
    refine wpAnyH_take (i := 21) (oi := ⟨_, _, _, _, _, _⟩) (v := ?_) rfl (by kernel_rfl) (by kernel_rfl) (by kernel_rfl) (fun _ _ _ h => h) (Or.inl ⟨by rfl, ?_⟩) hHeld ?_
    rotate_left
    · (intro w' hSw; (try dsimp only at hSw); go_simp; (try with_reducible rfl))
    try simp only [Act.put, List.setIfInBounds_toArray, List.set_cons_zero, List.set_cons_succ]
    refine wpAnyH_take (i := 22) (oi := ⟨_, _, _, _, _, _⟩) (v := ?_) rfl (by kernel_rfl) (by kernel_rfl) (by kernel_rfl) (fun _ _ _ h => h) (Or.inl ⟨by rfl, ?_⟩) hHeld ?_
    rotate_left
    · (intro w' hSw; (try dsimp only at hSw); go_simp; (try with_reducible rfl))
    try simp only [Act.put, List.setIfInBounds_toArray, List.set_cons_zero, List.set_cons_succ]
    refine wpAnyH_take (i := 23) (oi := ⟨_, _, _, _, _, _⟩) (v := ?_) rfl (by kernel_rfl) (by kernel_rfl) (by kernel_rfl) (fun _ _ _ h => h) (Or.inl ⟨by rfl, ?_⟩) hHeld ?_
    rotate_left
    · (intro w' hSw; (try dsimp only at hSw); go_simp; (try with_reducible rfl))
    try simp only [Act.put, List.setIfInBounds_toArray, List.set_cons_zero, List.set_cons_succ]
    refine wpAnyH_take (i := 24) (oi := ⟨_, _, _, _, _, _⟩) (v := ?_) rfl (by kernel_rfl) (by kernel_rfl) (by kernel_rfl) (fun _ _ _ h => h) (Or.inl ⟨by rfl, ?_⟩) hHeld ?_
    rotate_left
    · (intro w' hSw; (try dsimp only at hSw); go_simp; (try with_reducible rfl))
    try simp only [Act.put, List.setIfInBounds_toArray, List.set_cons_zero, List.set_cons_succ]
    refine wpAnyH_take (i := 25) (oi := ⟨_, _, _, _, _, _⟩) (v := ?_) rfl (by kernel_rfl) (by kernel_rfl) (by kernel_rfl) (fun _ _ _ h => h) (Or.inl ⟨by rfl, ?_⟩) hHeld ?_
    rotate_left
    · (intro w' hSw; (try dsimp only at hSw); go_simp; (try with_reducible rfl))
    try simp only [Act.put, List.setIfInBounds_toArray, List.set_cons_zero, List.set_cons_succ]
    refine wpAnyH_take (i := 26) (oi := ⟨_, _, _, _, _, _⟩) (v := ?_) rfl (by kernel_rfl) (by kernel_rfl) (by kernel_rfl) (fun _ _ _ h => h) (Or.inl ⟨by rfl, ?_⟩) hHeld ?_
    rotate_left
    · (intro w' hSw; (try dsimp only at hSw); go_simp; (try with_reducible rfl))
    try simp only [Act.put, List.setIfInBounds_toArray, List.set_cons_zero, List.set_cons_succ]
    refine wpAnyH_take (i := 27) (oi := ⟨_, _, _, _, _, _⟩) (v := ?_) rfl (by kernel_rfl) (by kernel_rfl) (by kernel_rfl) (fun _ _ _ h => h) (Or.inl ⟨by rfl, ?_⟩) hHeld ?_
    rotate_left
    · (intro w' hSw; (try dsimp only at hSw); go_simp; (try with_reducible rfl))
    try simp only [Act.put, List.setIfInBounds_toArray, List.set_cons_zero, List.set_cons_succ]
    refine wpAnyH_take (i := 28) (oi := ⟨_, _, _, _, _, _⟩) (v := ?_) rfl (by kernel_rfl) (by kernel_rfl) (by kernel_rfl) (fun _ _ _ h => h) (Or.inl ⟨by rfl, ?_⟩) hHeld ?_
    rotate_left
    · (intro w' hSw; (try dsimp only at hSw); go_simp; (try with_reducible rfl))
    try simp only [Act.put, List.setIfInBounds_toArray, List.set_cons_zero, List.set_cons_succ]
    refine wpAnyH_take (i := 29) (oi := ⟨_, _, _, _, _, _⟩) (v := ?_) rfl (by kernel_rfl) (by kernel_rfl) (by kernel_rfl) (fun _ _ _ h => h) (Or.inl ⟨by rfl, ?_⟩) hHeld ?_
    rotate_left
    · (intro w' hSw; (try dsimp only at hSw); go_simp; (try with_reducible rfl))
    try simp only [Act.put, List.setIfInBounds_toArray, List.set_cons_zero, List.set_cons_succ]
    refine wpAnyH_take (i := 30) (oi := ⟨_, _, _, _, _, _⟩) (v := ?_) rfl (by kernel_rfl) (by kernel_rfl) (by kernel_rfl) (fun _ _ _ h => h) (Or.inl ⟨by rfl, ?_⟩) hHeld ?_
    rotate_left
    · (intro w' hSw; (try dsimp only at hSw); go_simp; (try with_reducible rfl))
    try simp only [Act.put, List.setIfInBounds_toArray, List.set_cons_zero, List.set_cons_succ]
    refine wpAnyH_take (i := 31) (oi := ⟨_, _, _, _, _, _⟩) (v := ?_) rfl (by kernel_rfl) (by kernel_rfl) (by kernel_rfl) (fun _ _ _ h => h) (Or.inl ⟨by rfl, ?_⟩) hHeld ?_
    rotate_left
    · (intro w' hSw; (try dsimp only at hSw); go_simp; (try with_reducible rfl))
    try simp only [Act.put, List.setIfInBounds_toArray, List.set_cons_zero, List.set_cons_succ]
    refine wpAnyH_take (i := 32) (oi := ⟨_, _, _, _, _, _⟩) (v := ?_) rfl (by kernel_rfl) (by kernel_rfl) (by kernel_rfl) (fun _ _ _ h => h) (Or.inl ⟨by rfl, ?_⟩) hHeld ?_
    rotate_left
    · (intro w' hSw; (try dsimp only at hSw); go_simp; (try with_reducible rfl))
    try simp only [Act.put, List.setIfInBounds_toArray, List.set_cons_zero, List.set_cons_succ]
    refine wpAnyH_take (i := 33) (oi := ⟨_, _, _, _, _, _⟩) (v := ?_) rfl (by kernel_rfl) (by kernel_rfl) (by kernel_rfl) (fun _ _ _ h => h) (Or.inl ⟨by rfl, ?_⟩) hHeld ?_
    rotate_left
    · (intro w' hSw; (try dsimp only at hSw); go_simp; (try with_reducible rfl))
    try simp only [Act.put, List.setIfInBounds_toArray, List.set_cons_zero, List.set_cons_succ]
    refine wpAnyH_take (i := 34) (oi := ⟨_, _, _, _, _, _⟩) (v := ?_) rfl (by kernel_rfl) (by kernel_rfl) (by kernel_rfl) (fun _ _ _ h => h) (Or.inl ⟨by rfl, ?_⟩) hHeld ?_
    rotate_left
    · (intro w' hSw; (try dsimp only at hSw); go_simp; (try with_reducible rfl))
    try simp only [Act.put, List.setIfInBounds_toArray, List.set_cons_zero, List.set_cons_succ]
    refine wpAnyH_take (i := 35) (oi := ⟨_, _, _, _, _, _⟩) (v := ?_) rfl (by kernel_rfl) (by kernel_rfl) (by kernel_rfl) (fun _ _ _ h => h) (Or.inl ⟨by rfl, ?_⟩) hHeld ?_
    rotate_left
    · (intro w' hSw; (try dsimp only at hSw); go_simp; (try with_reducible rfl))
    try simp only [Act.put, List.setIfInBounds_toArray, List.set_cons_zero, List.set_cons_succ]
    refine wpAnyH_take (i := 36) (oi := ⟨_, _, _, _, _, _⟩) (v := ?_) rfl (by kernel_rfl) (by kernel_rfl) (by kernel_rfl) (fun _ _ _ h => h) (Or.inl ⟨by rfl, ?_⟩) hHeld ?_
    rotate_left
    · (intro w' hSw; (try dsimp only at hSw); go_simp; (try with_reducible rfl))
    try simp only [Act.put, List.setIfInBounds_toArray, List.set_cons_zero, List.set_cons_succ]
    refine wpAnyH_take (i := 37) (oi := ⟨_, _, _, _, _, _⟩) (v := ?_) rfl (by kernel_rfl) (by kernel_rfl) (by kernel_rfl) (fun _ _ _ h => h) (Or.inl ⟨by rfl, ?_⟩) hHeld ?_
    rotate_left
    · (intro w' hSw; (try dsimp only at hSw); go_simp; (try with_reducible rfl))
    try simp only [Act.put, List.setIfInBounds_toArray, List.set_cons_zero, List.set_cons_succ]
    refine wpAnyH_ready (rs := [38]) (by kernel_rfl) (by simp) ?_
    refine AllReadyH.cons (o := ⟨_, _, _, _, _, _⟩) rfl (fun K hK => ?_) AllReadyH.nil
    go_simp
    have C316 := hidden (show Calls Try.prog 7 #[.int .i64 10] w305 fun r w' => r = .returned (.string ⟨#[100, 105, 118, 105, 115, 105, 111, 110, 32, 98, 121, 32, 122, 101, 114, 111]⟩) ∧ w305 = w' from meta_Text w305 10)
    (first | (go_at_call 7; refine C316.out.mono ?_))
    rintro e _ ⟨rfl, rfl⟩
    clear C316
    (try go_wp2_with fail)
    refine hK.out _ _ ?_ (fun hH2 => ?_)
    · ((try dsimp only); (first | done | exact (by have c0 := (V309.out).cells; have c1 := (V312.out).cells; have c2 := (V313.out).cells; exact ⟨c0.1, c0.2.1, c0.2.2.1, c1.1, c1.2.1, c1.2.2.1, c2.1, c2.2.1, c2.2.2.1⟩)))
    clear hK K hHeld
    have hHeld := hH2
    clear hH2
    try simp only [Act.put, List.setIfInBounds_toArray, List.set_cons_zero, List.set_cons_succ]
    refine wpAnyH_take (i := 39) (oi := ⟨_, _, _, _, _, _⟩) (v := ?_) rfl (by kernel_rfl) (by kernel_rfl) (by kernel_rfl) (fun _ _ _ h => h) (Or.inl ⟨by rfl, ?_⟩) hHeld ?_
    rotate_left
    · (intro w' hSw; (try dsimp only at hSw); go_simp; (try with_reducible rfl))
    try simp only [Act.put, List.setIfInBounds_toArray, List.set_cons_zero, List.set_cons_succ]
    refine wpAnyH_take (i := 40) (oi := ⟨_, _, _, _, _, _⟩) (v := ?_) rfl (by kernel_rfl) (by kernel_rfl) (by kernel_rfl) (fun _ _ _ h => h) (Or.inl ⟨by rfl, ?_⟩) hHeld ?_
    rotate_left
    · (intro w' hSw; (try dsimp only at hSw); go_simp; (try with_reducible rfl))
    try simp only [Act.put, List.setIfInBounds_toArray, List.set_cons_zero, List.set_cons_succ]
    refine wpAnyH_take (i := 41) (oi := ⟨_, _, _, _, _, _⟩) (v := ?_) rfl (by kernel_rfl) (by kernel_rfl) (by kernel_rfl) (fun _ _ _ h => h) (Or.inl ⟨by rfl, ?_⟩) hHeld ?_
    rotate_left
    · (intro w' hSw; (try dsimp only at hSw); go_simp; (try with_reducible rfl))
    try simp only [Act.put, List.setIfInBounds_toArray, List.set_cons_zero, List.set_cons_succ]
    refine wpAnyH_ready (rs := [42]) (by kernel_rfl) (by simp) ?_
    refine AllReadyH.cons (o := ⟨_, _, _, _, _, _⟩) rfl (fun K hK => ?_) AllReadyH.nil
    go_simp
    have C317 := hidden (show Calls Try.prog 22 #[.int .i64 2] w305 fun r w' => r = .returned (.string ⟨#[95, 100, 105, 118]⟩) ∧ w305 = w' from meta_Operator w305 2)
    (first | (go_at_call 22; refine C317.out.mono ?_))
    rintro e _ ⟨rfl, rfl⟩
    clear C317
    (try go_wp2_with fail)
    refine hK.out _ _ ?_ (fun hH2 => ?_)
    · ((try dsimp only); (first | done | exact (by have c0 := (V309.out).cells; have c1 := (V312.out).cells; have c2 := (V313.out).cells; exact ⟨c0.1, c0.2.1, c0.2.2.1, c1.1, c1.2.1, c1.2.2.1, c2.1, c2.2.1, c2.2.2.1⟩)))
    clear hK K hHeld
    have hHeld := hH2
    clear hH2
    try simp only [Act.put, List.setIfInBounds_toArray, List.set_cons_zero, List.set_cons_succ]
    refine wpAnyH_take (i := 43) (oi := ⟨_, _, _, _, _, _⟩) (v := ?_) rfl (by kernel_rfl) (by kernel_rfl) (by kernel_rfl) (fun _ _ _ h => h) (Or.inl ⟨by rfl, ?_⟩) hHeld ?_
    rotate_left
    · (intro w' hSw; (try dsimp only at hSw); go_simp; (try with_reducible rfl))
    try simp only [Act.put, List.setIfInBounds_toArray, List.set_cons_zero, List.set_cons_succ]
    refine wpAnyH_take (i := 44) (oi := ⟨_, _, _, _, _, _⟩) (v := ?_) rfl (by kernel_rfl) (by kernel_rfl) (by kernel_rfl) (fun _ _ _ h => h) (Or.inl ⟨by rfl, ?_⟩) hHeld ?_
    rotate_left
    · (intro w' hSw; (try dsimp only at hSw); go_simp; (try with_reducible rfl))
    try simp only [Act.put, List.setIfInBounds_toArray, List.set_cons_zero, List.set_cons_succ]
    refine wpAnyH_take (i := 45) (oi := ⟨_, _, _, _, _, _⟩) (v := ?_) rfl (by kernel_rfl) (by kernel_rfl) (by kernel_rfl) (fun _ _ _ h => h) (Or.inl ⟨by rfl, ?_⟩) hHeld ?_
    rotate_left
    · (intro w' hSw; (try dsimp only at hSw); go_simp; (try with_reducible rfl))
    try simp only [Act.put, List.setIfInBounds_toArray, List.set_cons_zero, List.set_cons_succ]
    refine wpAnyH_done (by kernel_rfl) ?_ _
    refine NoPanic.normal ?_
    clear hHeld
    (try go_wp2_with fail)
    exact hR.out _ _ ⟨rfl, H306.out.K.below (Nat.le_refl _) (fun _ h => h)⟩
end Go.Proofs.Ytmefdniocgcckaa
