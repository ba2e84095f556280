/- Texts that belong together: Head17 Maps Maps2 LayD LayE Q16 SlotQ. -/
import Derived.Test.YtfdfjogoiagnkaaZp2
import Derived.Maps.OwnSet
import Derived.Maps.RangeRun
set_option linter.unusedSimpArgs false
set_option linter.unusedVariables false
namespace Go.Proofs.Ytfdfjogoiagnkaa
open Go.RowKit
set_option maxRecDepth 100000
set_option linter.unusedSimpArgs false

set_option maxHeartbeats 32000000 in
theorem stands_true (w : World) : Calls Try.prog 40 #[] w fun e w' => e = .returned (.bool true) ∧ Below w.heap.size w w' := by
  have hwz : IntKind.i64.wrap 0 = 0 := by decide
  refine post_gen fun R hR => ?_
  go_enter Try.func40, Try.ntmps40
  (try go_wp2_with fail)
  refine (heap_New w 50).mono ?_
  rintro e w1 ⟨hb, F0, rfl, hH, hK, hF⟩
  have H2 := hidden (show Hd w hb F0 [] ⟨[], 0, 50, 0, 0⟩ w1 from ⟨hH, HOk.new 50, fun k h => (hF k h).elim (fun h => h.elim) id, hK.mono (fun _ _ h => h.elim)⟩)
  have S3 := hidden (show (⟨[], 0, 50, 0, 0⟩ : HSt).live = 0 ∧ (⟨[], 0, 50, 0, 0⟩ : HSt).limit = 50 from ⟨rfl, rfl⟩)
  clear hH hK hF
  have C4 := hidden (heap_NewTable_nil _ _ _ _ _ H2.out.heap H2.out.ok (by decide))
  (try unfold V.val at C4)
  (try unfold V.null at C4)
  (try dsimp only [rV, iV] at C4)
  (try go_wp2_with fail)
  refine C4.out.mono ?_
  rintro e w5 ⟨a, pa, ta, F6, HH7, st8, rfl, hM⟩
  have N9 := hidden (show HH7[a]? = some (some (pa, tableCl ta [] 0)) from hM.new.at_)
  have S10 := hidden (show st8.live = 1 ∧ st8.limit = 50 from ⟨by rw [hM.live]; decide, by rw [hM.limit]⟩)
  have H11 := hidden (H2.out.made hM (fun k h => h.elim))
  clear C4 hM S3 H2
  (try go_wp2_with fail)
  have V15 := hidden (show Vr F6 (w5.alloc (.cells #[.int .i64 4, .int .i64 a, .string ⟨#[]⟩] 26)) w5.heap.size ⟨4, a, ⟨#[]⟩⟩ from Vr.new ⟨4, a, ⟨#[]⟩⟩ H11.out.heap.inw)
  have SZ16 := hidden (show (w5.alloc (.cells #[.int .i64 4, .int .i64 a, .string ⟨#[]⟩] 26)).heap.size = w5.heap.size + 1 from by simp)
  have GE17 := hidden (show w.heap.size ≤ w5.heap.size from H11.out.K.size)
  have K12 := (Keeps.refl (fun _ => False) w5).alloc (.cells #[.int .i64 4, .int .i64 a, .string ⟨#[]⟩] 26)
  have H18 := hidden (H11.out.calm K12)
  clear K12 H11
  generalize w5.heap.size = v13 at *
  generalize w5.alloc (.cells #[.int .i64 4, .int .i64 a, .string ⟨#[]⟩] 26) = w14 at *
  have C19 := hidden (heap_NewTable_nil _ _ _ _ _ H18.out.heap H18.out.ok (by rw [S10.out.1, S10.out.2]; decide))
  (try unfold V.val at C19)
  (try unfold V.null at C19)
  (try dsimp only [rV, iV] at C19)
  obtain ⟨l200, l201, l202, l20z⟩ := V15.out.cells
  (try dsimp only [rV, iV, V.null] at l200 l201 l202)
  (try go_wp2_with fail)
  refine C19.out.mono ?_
  rintro e w21 ⟨b, pb, tb, F22, HH23, st24, rfl, hM⟩
  have N25 := hidden (hM.new.old N9.out)
  have E26 := hidden (hM.new.ne N9.out)
  have N27 := hidden (show HH23[b]? = some (some (pb, tableCl tb [] 0)) from hM.new.at_)
  have S28 := hidden (show st24.live = 2 ∧ st24.limit = 50 from ⟨by rw [hM.live, S10.out.1]; decide, by rw [hM.limit, S10.out.2]⟩)
  have H29 := hidden (H18.out.made hM (fun k h => h.elim))
  have V30 := hidden (V15.out.step hM.keeps hM.fr)
  clear l200 l201 l202 l20z C19 hM N9 S10 H18 V15
  obtain ⟨l310, l311, l312, l31z⟩ := V30.out.cells
  (try dsimp only [rV, iV, V.null] at l310 l311 l312)
  (try go_wp2_with fail)
  clear l310 l311 l312 l31z
  have V35 := hidden (show Vr F22 (w21.alloc (.cells #[.int .i64 4, .int .i64 b, .string ⟨#[]⟩] 26)) w21.heap.size ⟨4, b, ⟨#[]⟩⟩ from Vr.new ⟨4, b, ⟨#[]⟩⟩ H29.out.heap.inw)
  have SZ36 := hidden (show (w21.alloc (.cells #[.int .i64 4, .int .i64 b, .string ⟨#[]⟩] 26)).heap.size = w21.heap.size + 1 from by simp)
  have GE37 := hidden (show w.heap.size ≤ w21.heap.size from H29.out.K.size)
  have K32 := (Keeps.refl (fun _ => False) w21).alloc (.cells #[.int .i64 4, .int .i64 b, .string ⟨#[]⟩] 26)
  have H38 := hidden (H29.out.calm K32)
  have V39 := hidden (V30.out.calm K32)
  clear K32 H29 V30
  generalize w21.heap.size = v33 at *
  generalize w21.alloc (.cells #[.int .i64 4, .int .i64 b, .string ⟨#[]⟩] 26) = w34 at *
  have SK40 := hidden (fun (W : World) (hk : Keeps (fun _ => False) w34 W) => show W.cell? ⟨v13, 0, none⟩ = some (.int .i64 4) ∧ W.cell? ⟨v13, 1, none⟩ = some (.int .i64 a) ∧ W.cell? ⟨v13, 2, none⟩ = some (.string ⟨#[]⟩) ∧ W.cell? ⟨v33, 0, none⟩ = some (.int .i64 4) ∧ W.cell? ⟨v33, 1, none⟩ = some (.int .i64 b) ∧ W.cell? ⟨v33, 2, none⟩ = some (.string ⟨#[]⟩) from (by have c0 := (V39.out.calm hk).cells; have c1 := (V35.out.calm hk).cells; exact ⟨c0.1, c0.2.1, c0.2.2.1, c1.1, c1.2.1, c1.2.2.1⟩))
  refine wp_region_noPanic ?_
  refine wp_region_held_drew (S := (fun W => W.cell? ⟨v13, 0, none⟩ = some (.int .i64 4) ∧ W.cell? ⟨v13, 1, none⟩ = some (.int .i64 a) ∧ W.cell? ⟨v13, 2, none⟩ = some (.string ⟨#[]⟩) ∧ W.cell? ⟨v33, 0, none⟩ = some (.int .i64 4) ∧ W.cell? ⟨v33, 1, none⟩ = some (.int .i64 b) ∧ W.cell? ⟨v33, 2, none⟩ = some (.string ⟨#[]⟩))) (by kernel_rfl) ?_ (fun hHeld => ?_)
  · ((try dsimp only); (first | done | exact SK40.out _ ((Keeps.refl _ w34).drew)))
  have KD41 := (Keeps.refl (fun _ => False) w34).drew
  have H43 := hidden (H38.out.calm KD41)
  have V44 := hidden (V39.out.calm KD41)
  have V45 := hidden (V35.out.calm KD41)
  clear KD41 H38 V39 V35
  generalize w34.drew = w42 at *
  clear SK40
  refine wpAnyH_tk (oi := ⟨_, _, _, _, _, _⟩) (v := ?_) 0 rfl (by kernel_rfl) (fun _ _ _ h => h) hHeld (by rfl) ?_ ?_
  rotate_left
  · (intro w' hSw; (try dsimp only at hSw); go_simp; (try with_reducible rfl))
  try simp only [Act.put, List.setIfInBounds_toArray, List.set_cons_zero, List.set_cons_succ]
  refine wpAnyH_tk (oi := ⟨_, _, _, _, _, _⟩) (v := ?_) 1 rfl (by kernel_rfl) (fun _ _ _ h => h) hHeld (by rfl) ?_ ?_
  rotate_left
  · (intro w' hSw; (try dsimp only at hSw); go_simp; (try with_reducible rfl))
  try simp only [Act.put, List.setIfInBounds_toArray, List.set_cons_zero, List.set_cons_succ]
  refine wpAnyH_tk (oi := ⟨_, _, _, _, _, _⟩) (v := ?_) 2 rfl (by kernel_rfl) (fun _ _ _ h => h) hHeld (by rfl) ?_ ?_
  rotate_left
  · (intro w' hSw; (try dsimp only at hSw); go_simp; (try with_reducible rfl))
  try simp only [Act.put, List.setIfInBounds_toArray, List.set_cons_zero, List.set_cons_succ]
  refine wpAnyH_tk (oi := ⟨_, _, _, _, _, _⟩) (v := ?_) 3 rfl (by kernel_rfl) (fun _ _ _ h => h) hHeld (by rfl) ?_ ?_
  rotate_left
  · (intro w' hSw; (try dsimp only at hSw); go_simp; (try with_reducible rfl))
  try simp only [Act.put, List.setIfInBounds_toArray, List.set_cons_zero, List.set_cons_succ]
  refine wpAnyH_tk (oi := ⟨_, _, _, _, _, _⟩) (v := ?_) 4 rfl (by kernel_rfl) (fun _ _ _ h => h) hHeld (by rfl) ?_ ?_
  rotate_left
  · (intro w' hSw; (try dsimp only at hSw); go_simp; (try with_reducible rfl))
  try simp only [Act.put, List.setIfInBounds_toArray, List.set_cons_zero, List.set_cons_succ]
  refine wpAnyH_tk (oi := ⟨_, _, _, _, _, _⟩) (v := ?_) 5 rfl (by kernel_rfl) (fun _ _ _ h => h) hHeld (by rfl) ?_ ?_
  rotate_left
  · (intro w' hSw; (try dsimp only at hSw); go_simp; (try with_reducible rfl))
  try simp only [Act.put, List.setIfInBounds_toArray, List.set_cons_zero, List.set_cons_succ]
  refine wpAnyH_tk (oi := ⟨_, _, _, _, _, _⟩) (v := ?_) 6 rfl (by kernel_rfl) (fun _ _ _ h => h) hHeld (by rfl) ?_ ?_
  rotate_left
  · (intro w' hSw; (try dsimp only at hSw); go_simp; (try with_reducible rfl))
  try simp only [Act.put, List.setIfInBounds_toArray, List.set_cons_zero, List.set_cons_succ]
  refine wpAnyH_ready (rs := [7]) (by kernel_rfl) (by simp) ?_
  refine AllReadyH.cons (o := ⟨_, _, _, _, _, _⟩) rfl (fun K hK => ?_) AllReadyH.nil
  go_simp
  have C46 := hidden (value_Str ⟨#[120]⟩ w42)
  (try unfold V.val at C46)
  (try unfold V.null at C46)
  (try dsimp only [rV, iV] at C46)
  (first | (go_at_call 34; refine C46.out.mono ?_))
  rintro e w47 ⟨rfl, hK1⟩
  have H48 := hidden (H43.out.calm hK1)
  have V49 := hidden (V44.out.calm hK1)
  have V50 := hidden (V45.out.calm hK1)
  clear C46 hK1 H43 V44 V45
  (try go_wp2_with fail)
  refine hK.out _ _ ?_ (fun hH2 => ?_)
  · ((try dsimp only); (first | done | exact (by have c0 := (V49.out).cells; have c1 := (V50.out).cells; exact ⟨c0.1, c0.2.1, c0.2.2.1, c1.1, c1.2.1, c1.2.2.1⟩)))
  clear hK K hHeld
  have hHeld := hH2
  clear hH2
  try simp only [Act.put, List.setIfInBounds_toArray, List.set_cons_zero, List.set_cons_succ]
  refine wpAnyH_ready (rs := [8]) (by kernel_rfl) (by simp) ?_
  refine AllReadyH.cons (o := ⟨_, _, _, _, _, _⟩) rfl (fun K hK => ?_) AllReadyH.nil
  go_simp
  have C51 := hidden (value_Int 1 w47)
  (try unfold V.val at C51)
  (try unfold V.null at C51)
  (try dsimp only [rV, iV] at C51)
  (first | (go_at_call 17; refine C51.out.mono ?_))
  rintro e w52 ⟨rfl, hK1⟩
  have H53 := hidden (H48.out.calm hK1)
  have V54 := hidden (V49.out.calm hK1)
  have V55 := hidden (V50.out.calm hK1)
  clear C51 hK1 H48 V49 V50
  (try go_wp2_with fail)
  refine hK.out _ _ ?_ (fun hH2 => ?_)
  · ((try dsimp only); (first | done | exact (by have c0 := (V54.out).cells; have c1 := (V55.out).cells; exact ⟨c0.1, c0.2.1, c0.2.2.1, c1.1, c1.2.1, c1.2.2.1⟩)))
  clear hK K hHeld
  have hHeld := hH2
  clear hH2
  try simp only [Act.put, List.setIfInBounds_toArray, List.set_cons_zero, List.set_cons_succ]
  refine wpAnyH_ready (rs := [9]) (by kernel_rfl) (by simp) ?_
  refine AllReadyH.cons (o := ⟨_, _, _, _, _, _⟩) rfl (fun K hK => ?_) AllReadyH.nil
  go_simp
  have C56 := hidden (slot_New H53.out.heap N27.out (.inl rfl) rfl (by decide) ⟨#[]⟩ ⟨3, 0, ⟨#[120]⟩⟩ ⟨2, 1, ⟨#[]⟩⟩ (by decide) (by decide) (by decide))
  (try unfold V.val at C56)
  (try unfold V.null at C56)
  (try dsimp only [rV, iV] at C56)
  (first | (go_at_call 39; refine C56.out.mono ?_))
  rintro e w57 ⟨F58, rfl, g1, g2, g3⟩
  have N60 := hidden (show (tabH HH23 b pb (tableCl tb [] 0) tb (putE [] 0 ⟨3, 0, ⟨#[120]⟩⟩ ⟨2, 1, ⟨#[]⟩⟩))[a]? = some (some (pa, tableCl ta [] 0)) from set_old N25.out E26.out)
  have N61 := hidden (show (tabH HH23 b pb (tableCl tb [] 0) tb (putE [] 0 ⟨3, 0, ⟨#[120]⟩⟩ ⟨2, 1, ⟨#[]⟩⟩))[b]? = some (some (pb, tableCl tb [⟨⟨3, 0, ⟨#[120]⟩⟩, ⟨2, 1, ⟨#[]⟩⟩, 1, false⟩] 1)) from tabH_at N27.out)
  have H62 := hidden (show Hd w hb F58 (tabH HH23 b pb (tableCl tb [] 0) tb (putE [] 0 ⟨3, 0, ⟨#[120]⟩⟩ ⟨2, 1, ⟨#[]⟩⟩)) st24 w57 from H53.out.turn2 N27.out g1 g2 g3)
  have V63 := hidden (V54.out.step g2 g3)
  have V64 := hidden (V55.out.step g2 g3)
  clear C56 g1 g2 g3 N25 N27 H53 V54 V55
  generalize tabH HH23 b pb (tableCl tb [] 0) tb (putE [] 0 ⟨3, 0, ⟨#[120]⟩⟩ ⟨2, 1, ⟨#[]⟩⟩) = HH59 at *
  (try go_wp2_with fail)
  refine hK.out _ _ ?_ (fun hH2 => ?_)
  · ((try dsimp only); (first | done | exact (by have c0 := (V63.out).cells; have c1 := (V64.out).cells; exact ⟨c0.1, c0.2.1, c0.2.2.1, c1.1, c1.2.1, c1.2.2.1⟩)))
  clear hK K hHeld
  have hHeld := hH2
  clear hH2
  try simp only [Act.put, List.setIfInBounds_toArray, List.set_cons_zero, List.set_cons_succ]
  refine wpAnyH_tk (oi := ⟨_, _, _, _, _, _⟩) (v := ?_) 10 rfl (by kernel_rfl) (fun _ _ _ h => h) hHeld (by rfl) ?_ ?_
  rotate_left
  · (intro w' hSw; (try dsimp only at hSw); go_simp; (try with_reducible rfl))
  try simp only [Act.put, List.setIfInBounds_toArray, List.set_cons_zero, List.set_cons_succ]
  refine wpAnyH_tk (oi := ⟨_, _, _, _, _, _⟩) (v := ?_) 11 rfl (by kernel_rfl) (fun _ _ _ h => h) hHeld (by rfl) ?_ ?_
  rotate_left
  · (intro w' hSw; (try dsimp only at hSw); go_simp; (try with_reducible rfl))
  try simp only [Act.put, List.setIfInBounds_toArray, List.set_cons_zero, List.set_cons_succ]
  refine wpAnyH_tk (oi := ⟨_, _, _, _, _, _⟩) (v := ?_) 12 rfl (by kernel_rfl) (fun _ _ _ h => h) hHeld (by rfl) ?_ ?_
  rotate_left
  · (intro w' hSw; (try dsimp only at hSw); go_simp; (try with_reducible rfl))
  try simp only [Act.put, List.setIfInBounds_toArray, List.set_cons_zero, List.set_cons_succ]
  refine wpAnyH_tk (oi := ⟨_, _, _, _, _, _⟩) (v := ?_) 13 rfl (by kernel_rfl) (fun _ _ _ h => h) hHeld (by rfl) ?_ ?_
  rotate_left
  · (intro w' hSw; (try dsimp only at hSw); go_simp; (try with_reducible rfl))
  try simp only [Act.put, List.setIfInBounds_toArray, List.set_cons_zero, List.set_cons_succ]
  refine wpAnyH_tk (oi := ⟨_, _, _, _, _, _⟩) (v := ?_) 14 rfl (by kernel_rfl) (fun _ _ _ h => h) hHeld (by rfl) ?_ ?_
  rotate_left
  · (intro w' hSw; (try dsimp only at hSw); go_simp; (try with_reducible rfl))
  try simp only [Act.put, List.setIfInBounds_toArray, List.set_cons_zero, List.set_cons_succ]
  refine wpAnyH_tk (oi := ⟨_, _, _, _, _, _⟩) (v := ?_) 15 rfl (by kernel_rfl) (fun _ _ _ h => h) hHeld (by rfl) ?_ ?_
  rotate_left
  · (intro w' hSw; (try dsimp only at hSw); go_simp; (try with_reducible rfl))
  try simp only [Act.put, List.setIfInBounds_toArray, List.set_cons_zero, List.set_cons_succ]
  refine wpAnyH_ready (rs := [16]) (by kernel_rfl) (by simp) ?_
  refine AllReadyH.cons (o := ⟨_, _, _, _, _, _⟩) rfl (fun K hK => ?_) AllReadyH.nil
  go_simp
  have C65 := hidden (slot_SetDelegate_ok H62.out.heap N60.out rfl (b := V.null) (bs := []) rfl (dt := ⟨4, b, ⟨#[]⟩⟩) (l := [rV b]) (.cons N61.out rfl rfl (.nil rfl)) (by simp) (by have := E26.out; simp [rV]; omega))
  (try unfold V.val at C65)
  (try unfold V.null at C65)
  (try dsimp only [rV, iV] at C65)
  (first | (go_at_call 37; refine C65.out.mono ?_))
  rintro e w66 ⟨F67, rfl, g1, g2, g3⟩
  have N69 := hidden (show (HH59.set a (some (pa, { tableCl ta [] 0 with vals := [⟨4, b, ⟨#[]⟩⟩] })))[a]? = some (some (pa, { tableCl ta [] 0 with vals := [⟨4, b, ⟨#[]⟩⟩] })) from set_self N60.out)
  have N70 := hidden (show (HH59.set a (some (pa, { tableCl ta [] 0 with vals := [⟨4, b, ⟨#[]⟩⟩] })))[b]? = some (some (pb, tableCl tb [⟨⟨3, 0, ⟨#[120]⟩⟩, ⟨2, 1, ⟨#[]⟩⟩, 1, false⟩] 1)) from set_old N61.out (Ne.symm E26.out))
  have H71 := hidden (show Hd w hb F67 (HH59.set a (some (pa, { tableCl ta [] 0 with vals := [⟨4, b, ⟨#[]⟩⟩] }))) st24 w66 from H62.out.turn2 N60.out g1 g2 g3)
  have V72 := hidden (V63.out.step g2 g3)
  have V73 := hidden (V64.out.step g2 g3)
  clear C65 g1 g2 g3 N60 N61 H62 V63 V64
  generalize HH59.set a (some (pa, { tableCl ta [] 0 with vals := [⟨4, b, ⟨#[]⟩⟩] })) = HH68 at *
  (try go_wp2_with fail)
  refine hK.out _ _ ?_ (fun hH2 => ?_)
  · ((try dsimp only); (first | done | exact (by have c0 := (V72.out).cells; have c1 := (V73.out).cells; exact ⟨c0.1, c0.2.1, c0.2.2.1, c1.1, c1.2.1, c1.2.2.1⟩)))
  clear hK K hHeld
  have hHeld := hH2
  clear hH2
  try simp only [Act.put, List.setIfInBounds_toArray, List.set_cons_zero, List.set_cons_succ]
  refine wpAnyH_tk (oi := ⟨_, _, _, _, _, _⟩) (v := ?_) 17 rfl (by kernel_rfl) (fun _ _ _ h => h) hHeld (by rfl) ?_ ?_
  rotate_left
  · (intro w' hSw; (try dsimp only at hSw); go_simp; (try with_reducible rfl))
  try simp only [Act.put, List.setIfInBounds_toArray, List.set_cons_zero, List.set_cons_succ]
  refine wpAnyH_tk (oi := ⟨_, _, _, _, _, _⟩) (v := ?_) 18 rfl (by kernel_rfl) (fun _ _ _ h => h) hHeld (by rfl) ?_ ?_
  rotate_left
  · (intro w' hSw; (try dsimp only at hSw); go_simp; (try with_reducible rfl))
  try simp only [Act.put, List.setIfInBounds_toArray, List.set_cons_zero, List.set_cons_succ]
  refine wpAnyH_tk (oi := ⟨_, _, _, _, _, _⟩) (v := ?_) 19 rfl (by kernel_rfl) (fun _ _ _ h => h) hHeld (by rfl) ?_ ?_
  rotate_left
  · (intro w' hSw; (try dsimp only at hSw); go_simp; (try with_reducible rfl))
  try simp only [Act.put, List.setIfInBounds_toArray, List.set_cons_zero, List.set_cons_succ]
  refine wpAnyH_tk (oi := ⟨_, _, _, _, _, _⟩) (v := ?_) 20 rfl (by kernel_rfl) (fun _ _ _ h => h) hHeld (by rfl) ?_ ?_
  rotate_left
  · (intro w' hSw; (try dsimp only at hSw); go_simp; (try with_reducible rfl))
  try simp only [Act.put, List.setIfInBounds_toArray, List.set_cons_zero, List.set_cons_succ]
  refine wpAnyH_tk (oi := ⟨_, _, _, _, _, _⟩) (v := ?_) 21 rfl (by kernel_rfl) (fun _ _ _ h => h) hHeld (by rfl) ?_ ?_
  rotate_left
  · (intro w' hSw; (try dsimp only at hSw); go_simp; (try with_reducible rfl))
  try simp only [Act.put, List.setIfInBounds_toArray, List.set_cons_zero, List.set_cons_succ]
  refine wpAnyH_tk (oi := ⟨_, _, _, _, _, _⟩) (v := ?_) 22 rfl (by kernel_rfl) (fun _ _ _ h => h) hHeld (by rfl) ?_ ?_
  rotate_left
  · (intro w' hSw; (try dsimp only at hSw); go_simp; (try with_reducible rfl))
  try simp only [Act.put, List.setIfInBounds_toArray, List.set_cons_zero, List.set_cons_succ]
  refine wpAnyH_ready (rs := [23]) (by kernel_rfl) (by simp) ?_
  refine AllReadyH.cons (o := ⟨_, _, _, _, _, _⟩) rfl (fun K hK => ?_) AllReadyH.nil
  go_simp
  have C74 := hidden (slot_SetDelegate_twice H71.out.heap N70.out rfl (b := V.null) (bs := []) rfl (dt := ⟨4, a, ⟨#[]⟩⟩) (l := [rV a, rV b]) (.cons N69.out rfl rfl (.cons N70.out rfl rfl (.nil rfl))) (by simp) (by simp))
  (try unfold V.val at C74)
  (try unfold V.null at C74)
  (try dsimp only [rV, iV] at C74)
  (first | (go_at_call 37; refine C74.out.mono ?_))
  rintro e w75 ⟨rfl, hK1⟩
  have H76 := hidden (H71.out.calm hK1)
  have V77 := hidden (V72.out.calm hK1)
  have V78 := hidden (V73.out.calm hK1)
  clear C74 hK1 H71 V72 V73
  (try go_wp2_with fail)
  refine hK.out _ _ ?_ (fun hH2 => ?_)
  · ((try dsimp only); (first | done | exact (by have c0 := (V77.out).cells; have c1 := (V78.out).cells; exact ⟨c0.1, c0.2.1, c0.2.2.1, c1.1, c1.2.1, c1.2.2.1⟩)))
  clear hK K hHeld
  have hHeld := hH2
  clear hH2
  try simp only [Act.put, List.setIfInBounds_toArray, List.set_cons_zero, List.set_cons_succ]
  refine wpAnyH_tk (oi := ⟨_, _, _, _, _, _⟩) (v := ?_) 24 rfl (by kernel_rfl) (fun _ _ _ h => h) hHeld (by rfl) ?_ ?_
  rotate_left
  · (intro w' hSw; (try dsimp only at hSw); go_simp; (try with_reducible rfl))
  try simp only [Act.put, List.setIfInBounds_toArray, List.set_cons_zero, List.set_cons_succ]
  refine wpAnyH_tk (oi := ⟨_, _, _, _, _, _⟩) (v := ?_) 25 rfl (by kernel_rfl) (fun _ _ _ h => h) hHeld (by rfl) ?_ ?_
  rotate_left
  · (intro w' hSw; (try dsimp only at hSw); go_simp; (try with_reducible rfl))
  try simp only [Act.put, List.setIfInBounds_toArray, List.set_cons_zero, List.set_cons_succ]
  refine wpAnyH_done (by kernel_rfl) ?_ _
  refine NoPanic.normal ?_
  clear hHeld
  obtain ⟨l790, l791, l792, l79z⟩ := V77.out.cells
  (try dsimp only [rV, iV, V.null] at l790 l791 l792)
  obtain ⟨l800, l801, l802, l80z⟩ := V78.out.cells
  (try dsimp only [rV, iV, V.null] at l800 l801 l802)
  (try go_wp2_with fail)
  clear l790 l791 l792 l79z l800 l801 l802 l80z
  have SK82 := hidden (fun (W : World) (hk : Keeps (fun k => w75.heap.size ≤ k) w75 W) => show W.cell? ⟨v13, 0, none⟩ = some (.int .i64 4) ∧ W.cell? ⟨v13, 1, none⟩ = some (.int .i64 a) ∧ W.cell? ⟨v13, 2, none⟩ = some (.string ⟨#[]⟩) from (by have c0 := (V77.out.beyond hk).cells; exact ⟨c0.1, c0.2.1, c0.2.2.1⟩))
  have C83 := hidden (fun (W : World) (hk : Keeps (fun _ => False) w75 W) => value_Str ⟨#[120]⟩ W)
  (try unfold V.val at C83)
  (try unfold V.null at C83)
  (try dsimp only [rV, iV] at C83)
  have C84 := hidden (fun (W : World) (hk : Keeps (fun _ => False) w75 W) => slot_Get_tableR (H76.out.calm hk).heap N69.out rfl (.cons N69.out rfl rfl (by decide) rfl (.cons N70.out rfl rfl (by decide) rfl (.nil rfl))) (by simp) ⟨3, 0, ⟨#[120]⟩⟩ (by decide) (x := ⟨2, 1, ⟨#[]⟩⟩) (e0 := 0) (by simp [tabR, getR]))
  (try unfold V.val at C84)
  (try unfold V.null at C84)
  (try dsimp only [rV, iV] at C84)
  refine wp_region_noPanic ?_
  refine wp_region_held_drew (S := (fun W => W.cell? ⟨v13, 0, none⟩ = some (.int .i64 4) ∧ W.cell? ⟨v13, 1, none⟩ = some (.int .i64 a) ∧ W.cell? ⟨v13, 2, none⟩ = some (.string ⟨#[]⟩))) (by kernel_rfl) ?_ (fun hHeld => ?_)
  · ((try dsimp only); exact SK82.out _ ((Keeps.refl _ w75).drew))
  refine wpAnyH_tk (oi := ⟨_, _, _, _, _, _⟩) (v := ?_) 0 rfl (by kernel_rfl) (fun _ _ _ h => h) hHeld (by rfl) ?_ ?_
  rotate_left
  · (intro w' hSw; (try dsimp only at hSw); go_simp; (try with_reducible rfl))
  try simp only [Act.put, List.setIfInBounds_toArray, List.set_cons_zero, List.set_cons_succ]
  refine wpAnyH_tk (oi := ⟨_, _, _, _, _, _⟩) (v := ?_) 1 rfl (by kernel_rfl) (fun _ _ _ h => h) hHeld (by rfl) ?_ ?_
  rotate_left
  · (intro w' hSw; (try dsimp only at hSw); go_simp; (try with_reducible rfl))
  try simp only [Act.put, List.setIfInBounds_toArray, List.set_cons_zero, List.set_cons_succ]
  have AV := hidden (Av.start ((Keeps.refl (fun _ => False) w75).drew))
  generalize w75.drew = wdx80 at *
  clear hHeld
  refine mg1 ?_ (fun NDx80_0_2 => ?_) ?_
  rotate_left
  refine mg1 ?_ (fun NDx80_0_1 => ?_) ?_
  rotate_left
  · refine wpAnyH_ready (rs := [2, 7]) (by kernel_rfl) (by simp) ?_
    refine AllReadyH.cons (o := ⟨_, _, _, _, _, _⟩) rfl (fun K hK => ?_) (AllReadyH.cons (o := ⟨_, _, _, _, _, _⟩) rfl (fun K hK => ?_) AllReadyH.nil)
    · go_simp
      (first | (go_at_call 34; refine (C83.out wdx80 (hidden AV.out.K).out).mono ?_; rintro e wax80_1 ⟨rfl, h1⟩))
      go_wp2_with fail
      have AV := hidden (AV.out.calm h1)
      refine hK.out _ _ ((fun h => by (try dsimp only); exact h) (SK82.out _ AV.out.S)) (fun hHeld => ?_)
      clear hK K h1
      try simp only [Act.put, List.setIfInBounds_toArray, List.set_cons_zero, List.set_cons_succ]
      clear hHeld
      refine wpAnyH_ready (rs := [3, 7]) (by kernel_rfl) (by simp) ?_
      refine AllReadyH.cons (o := ⟨_, _, _, _, _, _⟩) rfl (fun K hK => ?_) (AllReadyH.cons (o := ⟨_, _, _, _, _, _⟩) rfl (fun K hK => ?_) AllReadyH.nil)
      · go_simp
        (first | (go_at_call 43; refine (C84.out wax80_1 (hidden AV.out.K).out).mono ?_; rintro e wax80_2 ⟨rfl, h1⟩))
        go_wp2_with fail
        have AV := hidden (AV.out.calm h1)
        refine hK.out _ _ ((fun h => by (try dsimp only); exact h) (SK82.out _ AV.out.S)) (fun hHeld => ?_)
        clear hK K h1
        try simp only [Act.put, List.setIfInBounds_toArray, List.set_cons_zero, List.set_cons_succ]
        (try dsimp only at hHeld)
        refine wpAnyH_tk (oi := ⟨_, _, _, _, _, _⟩) (v := ?_) 4 rfl (by kernel_rfl) (fun _ _ _ h => h) hHeld (by rfl) ?_ ?_
        rotate_left
        · (intro w' hSw; (try dsimp only at hSw); go_simp; (try with_reducible rfl))
        try simp only [Act.put, List.setIfInBounds_toArray, List.set_cons_zero, List.set_cons_succ]
        refine wpAnyH_tk (oi := ⟨_, _, _, _, _, _⟩) (v := ?_) 5 rfl (by kernel_rfl) (fun _ _ _ h => h) hHeld (by rfl) ?_ ?_
        rotate_left
        · (intro w' hSw; (try dsimp only at hSw); go_simp; (try with_reducible rfl))
        try simp only [Act.put, List.setIfInBounds_toArray, List.set_cons_zero, List.set_cons_succ]
        refine wpAnyH_tk (oi := ⟨_, _, _, _, _, _⟩) (v := ?_) 6 rfl (by kernel_rfl) (fun _ _ _ h => h) hHeld (by rfl) ?_ ?_
        rotate_left
        · (intro w' hSw; (try dsimp only at hSw); go_simp; (try with_reducible rfl))
        try simp only [Act.put, List.setIfInBounds_toArray, List.set_cons_zero, List.set_cons_succ]
        clear hHeld
        refine wpAnyH_ready (rs := [7]) (by kernel_rfl) (by simp) ?_
        refine AllReadyH.cons (o := ⟨_, _, _, _, _, _⟩) rfl (fun K hK => ?_) AllReadyH.nil
        go_simp
        refine hK.out _ _ ((fun h => by (try dsimp only); exact h) (SK82.out _ AV.out.more.S)) (fun _ => ?_)
        clear hK K
        try simp only [Act.put, List.setIfInBounds_toArray, List.set_cons_zero, List.set_cons_succ]
        have AV := hidden (show Av w75 (wax80_2.alloc (.cells #[.int .i64 0, .int .i64 0, .string ⟨#[]⟩] 26)) [wax80_2.heap.size] from AV.out.more)
        generalize wax80_2.heap.size = rx800_3 at AV ⊢
        generalize wax80_2.alloc (.cells #[.int .i64 0, .int .i64 0, .string ⟨#[]⟩] 26) = wax80_3 at AV ⊢
        revert AV
        exact NDx80_0_2.out rx800_3 wax80_3
      · go_simp
        refine hK.out _ _ ((fun h => by (try dsimp only); exact h) (SK82.out _ AV.out.more.S)) (fun _ => ?_)
        clear hK K
        try simp only [Act.put, List.setIfInBounds_toArray, List.set_cons_zero, List.set_cons_succ]
        have AV := hidden (show Av w75 (wax80_1.alloc (.cells #[.int .i64 0, .int .i64 0, .string ⟨#[]⟩] 26)) [wax80_1.heap.size] from AV.out.more)
        generalize wax80_1.heap.size = rx800_4 at AV ⊢
        generalize wax80_1.alloc (.cells #[.int .i64 0, .int .i64 0, .string ⟨#[]⟩] 26) = wax80_4 at AV ⊢
        revert AV
        exact NDx80_0_1.out rx800_4 wax80_4
    · go_simp
      refine hK.out _ _ ((fun h => by (try dsimp only); exact h) (SK82.out _ AV.out.more.S)) (fun _ => ?_)
      clear hK K
      try simp only [Act.put, List.setIfInBounds_toArray, List.set_cons_zero, List.set_cons_succ]
      have AV := hidden (show Av w75 (wdx80.alloc (.cells #[.int .i64 0, .int .i64 0, .string ⟨#[]⟩] 26)) [wdx80.heap.size] from AV.out.more)
      generalize wdx80.heap.size = rx800_5 at AV ⊢
      generalize wdx80.alloc (.cells #[.int .i64 0, .int .i64 0, .string ⟨#[]⟩] 26) = wax80_5 at AV ⊢
      refine wpAnyH_ready (rs := [2]) (by kernel_rfl) (by simp) ?_
      refine AllReadyH.cons (o := ⟨_, _, _, _, _, _⟩) rfl (fun K hK => ?_) AllReadyH.nil
      go_simp
      (first | (go_at_call 34; refine (C83.out wax80_5 (hidden AV.out.K).out).mono ?_; rintro e wax80_6 ⟨rfl, h1⟩))
      go_wp2_with fail
      have AV := hidden (AV.out.calm h1)
      refine hK.out _ _ ((fun h => by (try dsimp only); exact h) (SK82.out _ AV.out.S)) (fun hHeld => ?_)
      clear hK K h1
      try simp only [Act.put, List.setIfInBounds_toArray, List.set_cons_zero, List.set_cons_succ]
      clear hHeld
      revert AV
      exact NDx80_0_1.out rx800_5 wax80_6
  · intro qx800 wqx80 AV
    refine wpAnyH_ready (rs := [3]) (by kernel_rfl) (by simp) ?_
    refine AllReadyH.cons (o := ⟨_, _, _, _, _, _⟩) rfl (fun K hK => ?_) AllReadyH.nil
    go_simp
    (first | (go_at_call 43; refine (C84.out wqx80 (hidden AV.out.K).out).mono ?_; rintro e wax80_7 ⟨rfl, h1⟩))
    go_wp2_with fail
    have AV := hidden (AV.out.calm h1)
    refine hK.out _ _ ((fun h => by (try dsimp only); exact h) (SK82.out _ AV.out.S)) (fun hHeld => ?_)
    clear hK K h1
    try simp only [Act.put, List.setIfInBounds_toArray, List.set_cons_zero, List.set_cons_succ]
    (try dsimp only at hHeld)
    refine wpAnyH_tk (oi := ⟨_, _, _, _, _, _⟩) (v := ?_) 4 rfl (by kernel_rfl) (fun _ _ _ h => h) hHeld (by rfl) ?_ ?_
    rotate_left
    · (intro w' hSw; (try dsimp only at hSw); go_simp; (try with_reducible rfl))
    try simp only [Act.put, List.setIfInBounds_toArray, List.set_cons_zero, List.set_cons_succ]
    refine wpAnyH_tk (oi := ⟨_, _, _, _, _, _⟩) (v := ?_) 5 rfl (by kernel_rfl) (fun _ _ _ h => h) hHeld (by rfl) ?_ ?_
    rotate_left
    · (intro w' hSw; (try dsimp only at hSw); go_simp; (try with_reducible rfl))
    try simp only [Act.put, List.setIfInBounds_toArray, List.set_cons_zero, List.set_cons_succ]
    refine wpAnyH_tk (oi := ⟨_, _, _, _, _, _⟩) (v := ?_) 6 rfl (by kernel_rfl) (fun _ _ _ h => h) hHeld (by rfl) ?_ ?_
    rotate_left
    · (intro w' hSw; (try dsimp only at hSw); go_simp; (try with_reducible rfl))
    try simp only [Act.put, List.setIfInBounds_toArray, List.set_cons_zero, List.set_cons_succ]
    clear hHeld
    revert AV
    exact NDx80_0_2.out qx800 wax80_7
  · intro rx800 wzx80 AV
    have KSx80 := hidden AV.out.S
    have KZx80 := hidden AV.out.K
    have XRx800 := hidden (AV.out.at_ 0 rfl).1
    have GRx800 := hidden (AV.out.at_ 0 rfl).2
    clear AV
    obtain ⟨a0, a1, a2, a3, a4, a5⟩ := XRx800.out.cells
    have haz := blk_lt XRx800.out
    simp only [V.null] at a0 a1 a2
    have hHeld := SK82.out _ KSx80.out
    (try dsimp only at hHeld)
    refine wpAnyH_ready (rs := [8]) (by kernel_rfl) (by simp) ?_
    refine AllReadyH.cons (o := ⟨_, _, _, _, _, _⟩) rfl (fun K hK => ?_) AllReadyH.nil
    go_simp
    refine hK.out _ _ ?_ (fun hH2 => ?_)
    · ((try dsimp only); refine SK82.out _ ?_; (repeat with_reducible (first | exact KSx80.out | refine Keeps.var ?_ (fun _ => (by first | exact GRx800.out)) _ _ _)))
    clear hK K hHeld
    have hHeld := hH2
    clear hH2
    try simp only [Act.put, List.setIfInBounds_toArray, List.set_cons_zero, List.set_cons_succ]
    refine wpAnyH_tk (oi := ⟨_, _, _, _, _, _⟩) (v := ?_) 9 rfl (by kernel_rfl) (fun _ _ _ h => h) hHeld (by rfl) ?_ ?_
    rotate_left
    · (intro w' hSw; (try dsimp only at hSw); go_simp; (try with_reducible rfl))
    try simp only [Act.put, List.setIfInBounds_toArray, List.set_cons_zero, List.set_cons_succ]
    refine wpAnyH_done (by kernel_rfl) ?_ _
    refine NoPanic.normal ?_
    clear hHeld
    have K85 : Keeps (fun k => w75.heap.size ≤ k) w75 (((wzx80.setCell ⟨rx800, 0, none⟩ (.int .i64 2)).setCell ⟨rx800, 1, none⟩ (.int .i64 1)).setCell ⟨rx800, 2, none⟩ (.string ⟨#[]⟩)) := by repeat with_reducible (first | exact KSx80.out | refine Keeps.var ?_ (fun _ => (by first | exact GRx800.out)) _ _ _)
    have V87 := hidden (show Vr F67 (((wzx80.setCell ⟨rx800, 0, none⟩ (.int .i64 2)).setCell ⟨rx800, 1, none⟩ (.int .i64 1)).setCell ⟨rx800, 2, none⟩ (.string ⟨#[]⟩)) rx800 ⟨2, 1, ⟨#[]⟩⟩ from ⟨(XRx800.out.set ⟨2, 1, ⟨#[]⟩⟩), fun h => by have := H76.out.heap.inw _ h; have := GRx800.out; omega⟩)
    have H88 := hidden (H76.out.beyond K85)
    have V89 := hidden (V77.out.beyond K85)
    have V90 := hidden (V78.out.beyond K85)
    clear K85 SK82 H76 V77 V78 KSx80 KZx80 XRx800 GRx800 a0 a1 a2 a3 a4 a5 haz
    generalize (((wzx80.setCell ⟨rx800, 0, none⟩ (.int .i64 2)).setCell ⟨rx800, 1, none⟩ (.int .i64 1)).setCell ⟨rx800, 2, none⟩ (.string ⟨#[]⟩)) = w86 at *
    have C91 := hidden (slot_Delegate_ok H88.out.heap N69.out rfl (b := ⟨4, b, ⟨#[]⟩⟩) (bs := []) rfl ⟨#[]⟩)
    (try unfold V.val at C91)
    (try unfold V.null at C91)
    (try dsimp only [rV, iV] at C91)
    obtain ⟨l920, l921, l922, l92z⟩ := V89.out.cells
    (try dsimp only [rV, iV, V.null] at l920 l921 l922)
    obtain ⟨l930, l931, l932, l93z⟩ := V90.out.cells
    (try dsimp only [rV, iV, V.null] at l930 l931 l932)
    obtain ⟨l940, l941, l942, l94z⟩ := V87.out.cells
    (try dsimp only [rV, iV, V.null] at l940 l941 l942)
    (try go_wp2_with fail)
    refine C91.out.mono ?_
    rintro e w95 ⟨rfl, hK⟩
    have H96 := hidden (H88.out.calm hK)
    have V97 := hidden (V89.out.calm hK)
    have V98 := hidden (V90.out.calm hK)
    have V99 := hidden (V87.out.calm hK)
    clear l920 l921 l922 l92z l930 l931 l932 l93z l940 l941 l942 l94z C91 hK H88 V89 V90 V87
    obtain ⟨l1000, l1001, l1002, l100z⟩ := V97.out.cells
    (try dsimp only [rV, iV, V.null] at l1000 l1001 l1002)
    obtain ⟨l1010, l1011, l1012, l101z⟩ := V98.out.cells
    (try dsimp only [rV, iV, V.null] at l1010 l1011 l1012)
    obtain ⟨l1020, l1021, l1022, l102z⟩ := V99.out.cells
    (try dsimp only [rV, iV, V.null] at l1020 l1021 l1022)
    (try go_wp2_with fail)
    clear l1000 l1001 l1002 l100z l1010 l1011 l1012 l101z l1020 l1021 l1022 l102z
    have V106 := hidden (show Vr F67 (w95.alloc (.cells #[.int .i64 4, .int .i64 b, .string ⟨#[]⟩] 26)) w95.heap.size ⟨4, b, ⟨#[]⟩⟩ from Vr.new ⟨4, b, ⟨#[]⟩⟩ H96.out.heap.inw)
    have SZ107 := hidden (show (w95.alloc (.cells #[.int .i64 4, .int .i64 b, .string ⟨#[]⟩] 26)).heap.size = w95.heap.size + 1 from by simp)
    have GE108 := hidden (show w.heap.size ≤ w95.heap.size from H96.out.K.size)
    have K103 := (Keeps.refl (fun _ => False) w95).alloc (.cells #[.int .i64 4, .int .i64 b, .string ⟨#[]⟩] 26)
    have H109 := hidden (H96.out.calm K103)
    have V110 := hidden (V97.out.calm K103)
    have V111 := hidden (V98.out.calm K103)
    have V112 := hidden (V99.out.calm K103)
    clear K103 H96 V97 V98 V99
    generalize w95.heap.size = v104 at *
    generalize w95.alloc (.cells #[.int .i64 4, .int .i64 b, .string ⟨#[]⟩] 26) = w105 at *
    obtain ⟨l1130, l1131, l1132, l113z⟩ := V110.out.cells
    (try dsimp only [rV, iV, V.null] at l1130 l1131 l1132)
    obtain ⟨l1140, l1141, l1142, l114z⟩ := V111.out.cells
    (try dsimp only [rV, iV, V.null] at l1140 l1141 l1142)
    obtain ⟨l1150, l1151, l1152, l115z⟩ := V112.out.cells
    (try dsimp only [rV, iV, V.null] at l1150 l1151 l1152)
    obtain ⟨l1160, l1161, l1162, l116z⟩ := V106.out.cells
    (try dsimp only [rV, iV, V.null] at l1160 l1161 l1162)
    (try go_wp2_with fail)
    clear l1130 l1131 l1132 l113z l1140 l1141 l1142 l114z l1150 l1151 l1152 l115z l1160 l1161 l1162 l116z
    have SK118 := hidden (fun (W : World) (hk : Keeps (fun k => w105.heap.size ≤ k) w105 W) => show W.cell? ⟨v13, 0, none⟩ = some (.int .i64 4) ∧ W.cell? ⟨v13, 1, none⟩ = some (.int .i64 a) ∧ W.cell? ⟨v13, 2, none⟩ = some (.string ⟨#[]⟩) from (by have c0 := (V110.out.beyond hk).cells; exact ⟨c0.1, c0.2.1, c0.2.2.1⟩))
    have C119 := hidden (fun (W : World) (hk : Keeps (fun _ => False) w105 W) => value_Str ⟨#[120]⟩ W)
    (try unfold V.val at C119)
    (try unfold V.null at C119)
    (try dsimp only [rV, iV] at C119)
    have C120 := hidden (fun (W : World) (hk : Keeps (fun _ => False) w105 W) => slot_Delete_none (H109.out.calm hk).heap N69.out rfl rfl (by decide) 3 0 ⟨#[120]⟩ (by decide) (by simp))
    (try unfold V.val at C120)
    (try unfold V.null at C120)
    (try dsimp only [rV, iV] at C120)
    refine wp_region_noPanic ?_
    refine wp_region_held_drew (S := (fun W => W.cell? ⟨v13, 0, none⟩ = some (.int .i64 4) ∧ W.cell? ⟨v13, 1, none⟩ = some (.int .i64 a) ∧ W.cell? ⟨v13, 2, none⟩ = some (.string ⟨#[]⟩))) (by kernel_rfl) ?_ (fun hHeld => ?_)
    · ((try dsimp only); exact SK118.out _ ((Keeps.refl _ w105).drew))
    refine wpAnyH_tk (oi := ⟨_, _, _, _, _, _⟩) (v := ?_) 0 rfl (by kernel_rfl) (fun _ _ _ h => h) hHeld (by rfl) ?_ ?_
    rotate_left
    · (intro w' hSw; (try dsimp only at hSw); go_simp; (try with_reducible rfl))
    try simp only [Act.put, List.setIfInBounds_toArray, List.set_cons_zero, List.set_cons_succ]
    refine wpAnyH_tk (oi := ⟨_, _, _, _, _, _⟩) (v := ?_) 1 rfl (by kernel_rfl) (fun _ _ _ h => h) hHeld (by rfl) ?_ ?_
    rotate_left
    · (intro w' hSw; (try dsimp only at hSw); go_simp; (try with_reducible rfl))
    try simp only [Act.put, List.setIfInBounds_toArray, List.set_cons_zero, List.set_cons_succ]
    have AV := hidden (Av.start ((Keeps.refl (fun _ => False) w105).drew))
    generalize w105.drew = wdx116 at *
    clear hHeld
    refine mg1 ?_ (fun NDx116_0_2 => ?_) ?_
    rotate_left
    refine mg1 ?_ (fun NDx116_0_1 => ?_) ?_
    rotate_left
    · refine wpAnyH_ready (rs := [2, 7]) (by kernel_rfl) (by simp) ?_
      refine AllReadyH.cons (o := ⟨_, _, _, _, _, _⟩) rfl (fun K hK => ?_) (AllReadyH.cons (o := ⟨_, _, _, _, _, _⟩) rfl (fun K hK => ?_) AllReadyH.nil)
      · go_simp
        (first | (go_at_call 34; refine (C119.out wdx116 (hidden AV.out.K).out).mono ?_; rintro e wax116_1 ⟨rfl, h1⟩))
        go_wp2_with fail
        have AV := hidden (AV.out.calm h1)
        refine hK.out _ _ ((fun h => by (try dsimp only); exact h) (SK118.out _ AV.out.S)) (fun hHeld => ?_)
        clear hK K h1
        try simp only [Act.put, List.setIfInBounds_toArray, List.set_cons_zero, List.set_cons_succ]
        clear hHeld
        refine wpAnyH_ready (rs := [3, 7]) (by kernel_rfl) (by simp) ?_
        refine AllReadyH.cons (o := ⟨_, _, _, _, _, _⟩) rfl (fun K hK => ?_) (AllReadyH.cons (o := ⟨_, _, _, _, _, _⟩) rfl (fun K hK => ?_) AllReadyH.nil)
        · go_simp
          (first | (go_at_call 42; refine (C120.out wax116_1 (hidden AV.out.K).out).mono ?_; rintro e wax116_2 ⟨rfl, h1⟩))
          go_wp2_with fail
          have AV := hidden (AV.out.calm h1)
          refine hK.out _ _ ((fun h => by (try dsimp only); exact h) (SK118.out _ AV.out.S)) (fun hHeld => ?_)
          clear hK K h1
          try simp only [Act.put, List.setIfInBounds_toArray, List.set_cons_zero, List.set_cons_succ]
          (try dsimp only at hHeld)
          refine wpAnyH_tk (oi := ⟨_, _, _, _, _, _⟩) (v := ?_) 4 rfl (by kernel_rfl) (fun _ _ _ h => h) hHeld (by rfl) ?_ ?_
          rotate_left
          · (intro w' hSw; (try dsimp only at hSw); go_simp; (try with_reducible rfl))
          try simp only [Act.put, List.setIfInBounds_toArray, List.set_cons_zero, List.set_cons_succ]
          refine wpAnyH_tk (oi := ⟨_, _, _, _, _, _⟩) (v := ?_) 5 rfl (by kernel_rfl) (fun _ _ _ h => h) hHeld (by rfl) ?_ ?_
          rotate_left
          · (intro w' hSw; (try dsimp only at hSw); go_simp; (try with_reducible rfl))
          try simp only [Act.put, List.setIfInBounds_toArray, List.set_cons_zero, List.set_cons_succ]
          refine wpAnyH_tk (oi := ⟨_, _, _, _, _, _⟩) (v := ?_) 6 rfl (by kernel_rfl) (fun _ _ _ h => h) hHeld (by rfl) ?_ ?_
          rotate_left
          · (intro w' hSw; (try dsimp only at hSw); go_simp; (try with_reducible rfl))
          try simp only [Act.put, List.setIfInBounds_toArray, List.set_cons_zero, List.set_cons_succ]
          clear hHeld
          refine wpAnyH_ready (rs := [7]) (by kernel_rfl) (by simp) ?_
          refine AllReadyH.cons (o := ⟨_, _, _, _, _, _⟩) rfl (fun K hK => ?_) AllReadyH.nil
          go_simp
          refine hK.out _ _ ((fun h => by (try dsimp only); exact h) (SK118.out _ AV.out.more.S)) (fun _ => ?_)
          clear hK K
          try simp only [Act.put, List.setIfInBounds_toArray, List.set_cons_zero, List.set_cons_succ]
          have AV := hidden (show Av w105 (wax116_2.alloc (.cells #[.int .i64 0, .int .i64 0, .string ⟨#[]⟩] 26)) [wax116_2.heap.size] from AV.out.more)
          generalize wax116_2.heap.size = rx1160_3 at AV ⊢
          generalize wax116_2.alloc (.cells #[.int .i64 0, .int .i64 0, .string ⟨#[]⟩] 26) = wax116_3 at AV ⊢
          revert AV
          exact NDx116_0_2.out rx1160_3 wax116_3
        · go_simp
          refine hK.out _ _ ((fun h => by (try dsimp only); exact h) (SK118.out _ AV.out.more.S)) (fun _ => ?_)
          clear hK K
          try simp only [Act.put, List.setIfInBounds_toArray, List.set_cons_zero, List.set_cons_succ]
          have AV := hidden (show Av w105 (wax116_1.alloc (.cells #[.int .i64 0, .int .i64 0, .string ⟨#[]⟩] 26)) [wax116_1.heap.size] from AV.out.more)
          generalize wax116_1.heap.size = rx1160_4 at AV ⊢
          generalize wax116_1.alloc (.cells #[.int .i64 0, .int .i64 0, .string ⟨#[]⟩] 26) = wax116_4 at AV ⊢
          revert AV
          exact NDx116_0_1.out rx1160_4 wax116_4
      · go_simp
        refine hK.out _ _ ((fun h => by (try dsimp only); exact h) (SK118.out _ AV.out.more.S)) (fun _ => ?_)
        clear hK K
        try simp only [Act.put, List.setIfInBounds_toArray, List.set_cons_zero, List.set_cons_succ]
        have AV := hidden (show Av w105 (wdx116.alloc (.cells #[.int .i64 0, .int .i64 0, .string ⟨#[]⟩] 26)) [wdx116.heap.size] from AV.out.more)
        generalize wdx116.heap.size = rx1160_5 at AV ⊢
        generalize wdx116.alloc (.cells #[.int .i64 0, .int .i64 0, .string ⟨#[]⟩] 26) = wax116_5 at AV ⊢
        refine wpAnyH_ready (rs := [2]) (by kernel_rfl) (by simp) ?_
        refine AllReadyH.cons (o := ⟨_, _, _, _, _, _⟩) rfl (fun K hK => ?_) AllReadyH.nil
        go_simp
        (first | (go_at_call 34; refine (C119.out wax116_5 (hidden AV.out.K).out).mono ?_; rintro e wax116_6 ⟨rfl, h1⟩))
        go_wp2_with fail
        have AV := hidden (AV.out.calm h1)
        refine hK.out _ _ ((fun h => by (try dsimp only); exact h) (SK118.out _ AV.out.S)) (fun hHeld => ?_)
        clear hK K h1
        try simp only [Act.put, List.setIfInBounds_toArray, List.set_cons_zero, List.set_cons_succ]
        clear hHeld
        revert AV
        exact NDx116_0_1.out rx1160_5 wax116_6
    · intro qx1160 wqx116 AV
      refine wpAnyH_ready (rs := [3]) (by kernel_rfl) (by simp) ?_
      refine AllReadyH.cons (o := ⟨_, _, _, _, _, _⟩) rfl (fun K hK => ?_) AllReadyH.nil
      go_simp
      (first | (go_at_call 42; refine (C120.out wqx116 (hidden AV.out.K).out).mono ?_; rintro e wax116_7 ⟨rfl, h1⟩))
      go_wp2_with fail
      have AV := hidden (AV.out.calm h1)
      refine hK.out _ _ ((fun h => by (try dsimp only); exact h) (SK118.out _ AV.out.S)) (fun hHeld => ?_)
      clear hK K h1
      try simp only [Act.put, List.setIfInBounds_toArray, List.set_cons_zero, List.set_cons_succ]
      (try dsimp only at hHeld)
      refine wpAnyH_tk (oi := ⟨_, _, _, _, _, _⟩) (v := ?_) 4 rfl (by kernel_rfl) (fun _ _ _ h => h) hHeld (by rfl) ?_ ?_
      rotate_left
      · (intro w' hSw; (try dsimp only at hSw); go_simp; (try with_reducible rfl))
      try simp only [Act.put, List.setIfInBounds_toArray, List.set_cons_zero, List.set_cons_succ]
      refine wpAnyH_tk (oi := ⟨_, _, _, _, _, _⟩) (v := ?_) 5 rfl (by kernel_rfl) (fun _ _ _ h => h) hHeld (by rfl) ?_ ?_
      rotate_left
      · (intro w' hSw; (try dsimp only at hSw); go_simp; (try with_reducible rfl))
      try simp only [Act.put, List.setIfInBounds_toArray, List.set_cons_zero, List.set_cons_succ]
      refine wpAnyH_tk (oi := ⟨_, _, _, _, _, _⟩) (v := ?_) 6 rfl (by kernel_rfl) (fun _ _ _ h => h) hHeld (by rfl) ?_ ?_
      rotate_left
      · (intro w' hSw; (try dsimp only at hSw); go_simp; (try with_reducible rfl))
      try simp only [Act.put, List.setIfInBounds_toArray, List.set_cons_zero, List.set_cons_succ]
      clear hHeld
      revert AV
      exact NDx116_0_2.out qx1160 wax116_7
    · intro rx1160 wzx116 AV
      have KSx116 := hidden AV.out.S
      have KZx116 := hidden AV.out.K
      have XRx1160 := hidden (AV.out.at_ 0 rfl).1
      have GRx1160 := hidden (AV.out.at_ 0 rfl).2
      clear AV
      obtain ⟨a0, a1, a2, a3, a4, a5⟩ := XRx1160.out.cells
      have haz := blk_lt XRx1160.out
      simp only [V.null] at a0 a1 a2
      have hHeld := SK118.out _ KSx116.out
      (try dsimp only at hHeld)
      refine wpAnyH_ready (rs := [8]) (by kernel_rfl) (by simp) ?_
      refine AllReadyH.cons (o := ⟨_, _, _, _, _, _⟩) rfl (fun K hK => ?_) AllReadyH.nil
      go_simp
      refine hK.out _ _ ?_ (fun hH2 => ?_)
      · ((try dsimp only); refine SK118.out _ ?_; (repeat with_reducible (first | exact KSx116.out | refine Keeps.var ?_ (fun _ => (by first | exact GRx1160.out)) _ _ _)))
      clear hK K hHeld
      have hHeld := hH2
      clear hH2
      try simp only [Act.put, List.setIfInBounds_toArray, List.set_cons_zero, List.set_cons_succ]
      refine wpAnyH_tk (oi := ⟨_, _, _, _, _, _⟩) (v := ?_) 9 rfl (by kernel_rfl) (fun _ _ _ h => h) hHeld (by rfl) ?_ ?_
      rotate_left
      · (intro w' hSw; (try dsimp only at hSw); go_simp; (try with_reducible rfl))
      try simp only [Act.put, List.setIfInBounds_toArray, List.set_cons_zero, List.set_cons_succ]
      refine wpAnyH_done (by kernel_rfl) ?_ _
      refine NoPanic.normal ?_
      clear hHeld
      have K121 : Keeps (fun k => w105.heap.size ≤ k) w105 (((wzx116.setCell ⟨rx1160, 0, none⟩ (.int .i64 0)).setCell ⟨rx1160, 1, none⟩ (.int .i64 0)).setCell ⟨rx1160, 2, none⟩ (.string ⟨#[]⟩)) := by repeat with_reducible (first | exact KSx116.out | refine Keeps.var ?_ (fun _ => (by first | exact GRx1160.out)) _ _ _)
      have V123 := hidden (show Vr F67 (((wzx116.setCell ⟨rx1160, 0, none⟩ (.int .i64 0)).setCell ⟨rx1160, 1, none⟩ (.int .i64 0)).setCell ⟨rx1160, 2, none⟩ (.string ⟨#[]⟩)) rx1160 ⟨0, 0, ⟨#[]⟩⟩ from ⟨(XRx1160.out.set ⟨0, 0, ⟨#[]⟩⟩), fun h => by have := H109.out.heap.inw _ h; have := GRx1160.out; omega⟩)
      have H124 := hidden (H109.out.beyond K121)
      have V125 := hidden (V110.out.beyond K121)
      have V126 := hidden (V111.out.beyond K121)
      have V127 := hidden (V112.out.beyond K121)
      have V128 := hidden (V106.out.beyond K121)
      clear K121 SK118 H109 V110 V111 V112 V106 KSx116 KZx116 XRx1160 GRx1160 a0 a1 a2 a3 a4 a5 haz
      generalize (((wzx116.setCell ⟨rx1160, 0, none⟩ (.int .i64 0)).setCell ⟨rx1160, 1, none⟩ (.int .i64 0)).setCell ⟨rx1160, 2, none⟩ (.string ⟨#[]⟩)) = w122 at *
      have C129 := hidden (value_Str ⟨#[97, 98]⟩ w122)
      (try unfold V.val at C129)
      (try unfold V.null at C129)
      (try dsimp only [rV, iV] at C129)
      obtain ⟨l1300, l1301, l1302, l130z⟩ := V125.out.cells
      (try dsimp only [rV, iV, V.null] at l1300 l1301 l1302)
      obtain ⟨l1310, l1311, l1312, l131z⟩ := V126.out.cells
      (try dsimp only [rV, iV, V.null] at l1310 l1311 l1312)
      obtain ⟨l1320, l1321, l1322, l132z⟩ := V127.out.cells
      (try dsimp only [rV, iV, V.null] at l1320 l1321 l1322)
      obtain ⟨l1330, l1331, l1332, l133z⟩ := V128.out.cells
      (try dsimp only [rV, iV, V.null] at l1330 l1331 l1332)
      obtain ⟨l1340, l1341, l1342, l134z⟩ := V123.out.cells
      (try dsimp only [rV, iV, V.null] at l1340 l1341 l1342)
      (try go_wp2_with fail)
      refine C129.out.mono ?_
      rintro e w135 ⟨rfl, hK⟩
      have H136 := hidden (H124.out.calm hK)
      have V137 := hidden (V125.out.calm hK)
      have V138 := hidden (V126.out.calm hK)
      have V139 := hidden (V127.out.calm hK)
      have V140 := hidden (V128.out.calm hK)
      have V141 := hidden (V123.out.calm hK)
      clear l1300 l1301 l1302 l130z l1310 l1311 l1312 l131z l1320 l1321 l1322 l132z l1330 l1331 l1332 l133z l1340 l1341 l1342 l134z C129 hK H124 V125 V126 V127 V128 V123
      have C142 := hidden (value_Int 1 w135)
      (try unfold V.val at C142)
      (try unfold V.null at C142)
      (try dsimp only [rV, iV] at C142)
      obtain ⟨l1430, l1431, l1432, l143z⟩ := V137.out.cells
      (try dsimp only [rV, iV, V.null] at l1430 l1431 l1432)
      obtain ⟨l1440, l1441, l1442, l144z⟩ := V138.out.cells
      (try dsimp only [rV, iV, V.null] at l1440 l1441 l1442)
      obtain ⟨l1450, l1451, l1452, l145z⟩ := V139.out.cells
      (try dsimp only [rV, iV, V.null] at l1450 l1451 l1452)
      obtain ⟨l1460, l1461, l1462, l146z⟩ := V140.out.cells
      (try dsimp only [rV, iV, V.null] at l1460 l1461 l1462)
      obtain ⟨l1470, l1471, l1472, l147z⟩ := V141.out.cells
      (try dsimp only [rV, iV, V.null] at l1470 l1471 l1472)
      (try go_wp2_with fail)
      refine C142.out.mono ?_
      rintro e w148 ⟨rfl, hK⟩
      have H149 := hidden (H136.out.calm hK)
      have V150 := hidden (V137.out.calm hK)
      have V151 := hidden (V138.out.calm hK)
      have V152 := hidden (V139.out.calm hK)
      have V153 := hidden (V140.out.calm hK)
      have V154 := hidden (V141.out.calm hK)
      clear l1430 l1431 l1432 l143z l1440 l1441 l1442 l144z l1450 l1451 l1452 l145z l1460 l1461 l1462 l146z l1470 l1471 l1472 l147z C142 hK H136 V137 V138 V139 V140 V141
      have C155 := hidden (slot_Get_str (w := w148) (hb := hb) 0 ⟨#[97, 98]⟩ 2 1 ⟨#[]⟩ 2 98 ⟨#[]⟩ 0 (fun W2 => slot_octet_ok W2 ⟨#[97, 98]⟩ 1 ⟨#[]⟩ (by decide)))
      (try unfold V.val at C155)
      (try unfold V.null at C155)
      (try dsimp only [rV, iV] at C155)
      obtain ⟨l1560, l1561, l1562, l156z⟩ := V150.out.cells
      (try dsimp only [rV, iV, V.null] at l1560 l1561 l1562)
      obtain ⟨l1570, l1571, l1572, l157z⟩ := V151.out.cells
      (try dsimp only [rV, iV, V.null] at l1570 l1571 l1572)
      obtain ⟨l1580, l1581, l1582, l158z⟩ := V152.out.cells
      (try dsimp only [rV, iV, V.null] at l1580 l1581 l1582)
      obtain ⟨l1590, l1591, l1592, l159z⟩ := V153.out.cells
      (try dsimp only [rV, iV, V.null] at l1590 l1591 l1592)
      obtain ⟨l1600, l1601, l1602, l160z⟩ := V154.out.cells
      (try dsimp only [rV, iV, V.null] at l1600 l1601 l1602)
      (try go_wp2_with fail)
      refine C155.out.mono ?_
      rintro e w161 ⟨rfl, hK⟩
      have H162 := hidden (H149.out.calm hK)
      have V163 := hidden (V150.out.calm hK)
      have V164 := hidden (V151.out.calm hK)
      have V165 := hidden (V152.out.calm hK)
      have V166 := hidden (V153.out.calm hK)
      have V167 := hidden (V154.out.calm hK)
      clear l1560 l1561 l1562 l156z l1570 l1571 l1572 l157z l1580 l1581 l1582 l158z l1590 l1591 l1592 l159z l1600 l1601 l1602 l160z C155 hK H149 V150 V151 V152 V153 V154
      obtain ⟨l1680, l1681, l1682, l168z⟩ := V163.out.cells
      (try dsimp only [rV, iV, V.null] at l1680 l1681 l1682)
      obtain ⟨l1690, l1691, l1692, l169z⟩ := V164.out.cells
      (try dsimp only [rV, iV, V.null] at l1690 l1691 l1692)
      obtain ⟨l1700, l1701, l1702, l170z⟩ := V165.out.cells
      (try dsimp only [rV, iV, V.null] at l1700 l1701 l1702)
      obtain ⟨l1710, l1711, l1712, l171z⟩ := V166.out.cells
      (try dsimp only [rV, iV, V.null] at l1710 l1711 l1712)
      obtain ⟨l1720, l1721, l1722, l172z⟩ := V167.out.cells
      (try dsimp only [rV, iV, V.null] at l1720 l1721 l1722)
      (try go_wp2_with fail)
      clear l1680 l1681 l1682 l168z l1690 l1691 l1692 l169z l1700 l1701 l1702 l170z l1710 l1711 l1712 l171z l1720 l1721 l1722 l172z
      have V176 := hidden (show Vr F67 (w161.alloc (.cells #[.int .i64 2, .int .i64 98, .string ⟨#[]⟩] 26)) w161.heap.size ⟨2, 98, ⟨#[]⟩⟩ from Vr.new ⟨2, 98, ⟨#[]⟩⟩ H162.out.heap.inw)
      have SZ177 := hidden (show (w161.alloc (.cells #[.int .i64 2, .int .i64 98, .string ⟨#[]⟩] 26)).heap.size = w161.heap.size + 1 from by simp)
      have GE178 := hidden (show w.heap.size ≤ w161.heap.size from H162.out.K.size)
      have K173 := (Keeps.refl (fun _ => False) w161).alloc (.cells #[.int .i64 2, .int .i64 98, .string ⟨#[]⟩] 26)
      have H179 := hidden (H162.out.calm K173)
      have V180 := hidden (V163.out.calm K173)
      have V181 := hidden (V164.out.calm K173)
      have V182 := hidden (V165.out.calm K173)
      have V183 := hidden (V166.out.calm K173)
      have V184 := hidden (V167.out.calm K173)
      clear K173 H162 V163 V164 V165 V166 V167
      generalize w161.heap.size = v174 at *
      generalize w161.alloc (.cells #[.int .i64 2, .int .i64 98, .string ⟨#[]⟩] 26) = w175 at *
      obtain ⟨l1850, l1851, l1852, l185z⟩ := V180.out.cells
      (try dsimp only [rV, iV, V.null] at l1850 l1851 l1852)
      obtain ⟨l1860, l1861, l1862, l186z⟩ := V181.out.cells
      (try dsimp only [rV, iV, V.null] at l1860 l1861 l1862)
      obtain ⟨l1870, l1871, l1872, l187z⟩ := V182.out.cells
      (try dsimp only [rV, iV, V.null] at l1870 l1871 l1872)
      obtain ⟨l1880, l1881, l1882, l188z⟩ := V183.out.cells
      (try dsimp only [rV, iV, V.null] at l1880 l1881 l1882)
      obtain ⟨l1890, l1891, l1892, l189z⟩ := V184.out.cells
      (try dsimp only [rV, iV, V.null] at l1890 l1891 l1892)
      obtain ⟨l1900, l1901, l1902, l190z⟩ := V176.out.cells
      (try dsimp only [rV, iV, V.null] at l1900 l1901 l1902)
      (try go_wp2_with fail)
      clear l1850 l1851 l1852 l185z l1860 l1861 l1862 l186z l1870 l1871 l1872 l187z l1880 l1881 l1882 l188z l1890 l1891 l1892 l189z l1900 l1901 l1902 l190z
      have SK192 := hidden (fun (W : World) (hk : Keeps (fun k => w175.heap.size ≤ k) w175 W) => show W.cell? ⟨v33, 0, none⟩ = some (.int .i64 4) ∧ W.cell? ⟨v33, 1, none⟩ = some (.int .i64 b) ∧ W.cell? ⟨v33, 2, none⟩ = some (.string ⟨#[]⟩) from (by have c0 := (V181.out.beyond hk).cells; exact ⟨c0.1, c0.2.1, c0.2.2.1⟩))
      have C193 := hidden (fun (W : World) (hk : Keeps (fun _ => False) w175 W) => value_Null W)
      (try unfold V.val at C193)
      (try unfold V.null at C193)
      (try dsimp only [rV, iV] at C193)
      have C194 := hidden (fun (W : World) (hk : Keeps (fun _ => False) w175 W) => slot_Next_table (H179.out.calm hk).heap N70.out rfl rfl (by decide) 0 0 ⟨#[]⟩ ⟨⟨3, 0, ⟨#[120]⟩⟩, ⟨2, 1, ⟨#[]⟩⟩, 1, false⟩ 3 0 ⟨#[120]⟩ 2 1 ⟨#[]⟩ rfl rfl (by simp [nextT, wn]))
      (try unfold V.val at C194)
      (try unfold V.null at C194)
      (try dsimp only [rV, iV] at C194)
      refine wp_region_noPanic ?_
      refine wp_region_held_drew (S := (fun W => W.cell? ⟨v33, 0, none⟩ = some (.int .i64 4) ∧ W.cell? ⟨v33, 1, none⟩ = some (.int .i64 b) ∧ W.cell? ⟨v33, 2, none⟩ = some (.string ⟨#[]⟩))) (by kernel_rfl) ?_ (fun hHeld => ?_)
      · ((try dsimp only); exact SK192.out _ ((Keeps.refl _ w175).drew))
      refine wpAnyH_tk (oi := ⟨_, _, _, _, _, _⟩) (v := ?_) 0 rfl (by kernel_rfl) (fun _ _ _ h => h) hHeld (by rfl) ?_ ?_
      rotate_left
      · (intro w' hSw; (try dsimp only at hSw); go_simp; (try with_reducible rfl))
      try simp only [Act.put, List.setIfInBounds_toArray, List.set_cons_zero, List.set_cons_succ]
      refine wpAnyH_tk (oi := ⟨_, _, _, _, _, _⟩) (v := ?_) 1 rfl (by kernel_rfl) (fun _ _ _ h => h) hHeld (by rfl) ?_ ?_
      rotate_left
      · (intro w' hSw; (try dsimp only at hSw); go_simp; (try with_reducible rfl))
      try simp only [Act.put, List.setIfInBounds_toArray, List.set_cons_zero, List.set_cons_succ]
      have AV := hidden (Av.start ((Keeps.refl (fun _ => False) w175).drew))
      generalize w175.drew = wdx190 at *
      clear hHeld
      refine mg3 ?_ (fun NDx190_012_2 => ?_) ?_
      rotate_left
      refine mg3 ?_ (fun NDx190_012_1 => ?_) ?_
      rotate_left
      refine mg2 ?_ (fun NDx190_12_2 => ?_) ?_
      rotate_left
      refine mg2 ?_ (fun NDx190_02_2 => ?_) ?_
      rotate_left
      refine mg2 ?_ (fun NDx190_01_2 => ?_) ?_
      rotate_left
      refine mg3 ?_ (fun NDx190_012_0 => ?_) ?_
      rotate_left
      refine mg2 ?_ (fun NDx190_12_1 => ?_) ?_
      rotate_left
      refine mg2 ?_ (fun NDx190_02_1 => ?_) ?_
      rotate_left
      refine mg2 ?_ (fun NDx190_01_1 => ?_) ?_
      rotate_left
      refine mg1 ?_ (fun NDx190_2_2 => ?_) ?_
      rotate_left
      refine mg1 ?_ (fun NDx190_1_2 => ?_) ?_
      rotate_left
      refine mg1 ?_ (fun NDx190_0_2 => ?_) ?_
      rotate_left
      refine mg2 ?_ (fun NDx190_12_0 => ?_) ?_
      rotate_left
      refine mg2 ?_ (fun NDx190_02_0 => ?_) ?_
      rotate_left
      refine mg2 ?_ (fun NDx190_01_0 => ?_) ?_
      rotate_left
      refine mg1 ?_ (fun NDx190_2_1 => ?_) ?_
      rotate_left
      refine mg1 ?_ (fun NDx190_1_1 => ?_) ?_
      rotate_left
      refine mg1 ?_ (fun NDx190_0_1 => ?_) ?_
      rotate_left
      · refine wpAnyH_ready (rs := [2, 10, 11, 12]) (by kernel_rfl) (by simp) ?_
        refine AllReadyH.cons (o := ⟨_, _, _, _, _, _⟩) rfl (fun K hK => ?_) (AllReadyH.cons (o := ⟨_, _, _, _, _, _⟩) rfl (fun K hK => ?_) (AllReadyH.cons (o := ⟨_, _, _, _, _, _⟩) rfl (fun K hK => ?_) (AllReadyH.cons (o := ⟨_, _, _, _, _, _⟩) rfl (fun K hK => ?_) AllReadyH.nil)))
        · go_simp
          (first | (go_at_call 12; refine (C193.out wdx190 (hidden AV.out.K).out).mono ?_; rintro e wax190_1 ⟨rfl, h1⟩))
          go_wp2_with fail
          have AV := hidden (AV.out.calm h1)
          refine hK.out _ _ ((fun h => by (try dsimp only); exact h) (SK192.out _ AV.out.S)) (fun hHeld => ?_)
          clear hK K h1
          try simp only [Act.put, List.setIfInBounds_toArray, List.set_cons_zero, List.set_cons_succ]
          clear hHeld
          refine wpAnyH_ready (rs := [3, 10, 11, 12]) (by kernel_rfl) (by simp) ?_
          refine AllReadyH.cons (o := ⟨_, _, _, _, _, _⟩) rfl (fun K hK => ?_) (AllReadyH.cons (o := ⟨_, _, _, _, _, _⟩) rfl (fun K hK => ?_) (AllReadyH.cons (o := ⟨_, _, _, _, _, _⟩) rfl (fun K hK => ?_) (AllReadyH.cons (o := ⟨_, _, _, _, _, _⟩) rfl (fun K hK => ?_) AllReadyH.nil)))
          · go_simp
            (first | (go_at_call 48; refine (C194.out wax190_1 (hidden AV.out.K).out).mono ?_; rintro e wax190_2 ⟨rfl, h1⟩))
            go_wp2_with fail
            have AV := hidden (AV.out.calm h1)
            refine hK.out _ _ ((fun h => by (try dsimp only); exact h) (SK192.out _ AV.out.S)) (fun hHeld => ?_)
            clear hK K h1
            try simp only [Act.put, List.setIfInBounds_toArray, List.set_cons_zero, List.set_cons_succ]
            (try dsimp only at hHeld)
            refine wpAnyH_tk (oi := ⟨_, _, _, _, _, _⟩) (v := ?_) 4 rfl (by kernel_rfl) (fun _ _ _ h => h) hHeld (by rfl) ?_ ?_
            rotate_left
            · (intro w' hSw; (try dsimp only at hSw); go_simp; (try with_reducible rfl))
            try simp only [Act.put, List.setIfInBounds_toArray, List.set_cons_zero, List.set_cons_succ]
            refine wpAnyH_tk (oi := ⟨_, _, _, _, _, _⟩) (v := ?_) 5 rfl (by kernel_rfl) (fun _ _ _ h => h) hHeld (by rfl) ?_ ?_
            rotate_left
            · (intro w' hSw; (try dsimp only at hSw); go_simp; (try with_reducible rfl))
            try simp only [Act.put, List.setIfInBounds_toArray, List.set_cons_zero, List.set_cons_succ]
            refine wpAnyH_tk (oi := ⟨_, _, _, _, _, _⟩) (v := ?_) 6 rfl (by kernel_rfl) (fun _ _ _ h => h) hHeld (by rfl) ?_ ?_
            rotate_left
            · (intro w' hSw; (try dsimp only at hSw); go_simp; (try with_reducible rfl))
            try simp only [Act.put, List.setIfInBounds_toArray, List.set_cons_zero, List.set_cons_succ]
            refine wpAnyH_tk (oi := ⟨_, _, _, _, _, _⟩) (v := ?_) 7 rfl (by kernel_rfl) (fun _ _ _ h => h) hHeld (by rfl) ?_ ?_
            rotate_left
            · (intro w' hSw; (try dsimp only at hSw); go_simp; (try with_reducible rfl))
            try simp only [Act.put, List.setIfInBounds_toArray, List.set_cons_zero, List.set_cons_succ]
            refine wpAnyH_tk (oi := ⟨_, _, _, _, _, _⟩) (v := ?_) 8 rfl (by kernel_rfl) (fun _ _ _ h => h) hHeld (by rfl) ?_ ?_
            rotate_left
            · (intro w' hSw; (try dsimp only at hSw); go_simp; (try with_reducible rfl))
            try simp only [Act.put, List.setIfInBounds_toArray, List.set_cons_zero, List.set_cons_succ]
            refine wpAnyH_tk (oi := ⟨_, _, _, _, _, _⟩) (v := ?_) 9 rfl (by kernel_rfl) (fun _ _ _ h => h) hHeld (by rfl) ?_ ?_
            rotate_left
            · (intro w' hSw; (try dsimp only at hSw); go_simp; (try with_reducible rfl))
            try simp only [Act.put, List.setIfInBounds_toArray, List.set_cons_zero, List.set_cons_succ]
            clear hHeld
            refine wpAnyH_ready (rs := [10, 11, 12]) (by kernel_rfl) (by simp) ?_
            refine AllReadyH.cons (o := ⟨_, _, _, _, _, _⟩) rfl (fun K hK => ?_) (AllReadyH.cons (o := ⟨_, _, _, _, _, _⟩) rfl (fun K hK => ?_) (AllReadyH.cons (o := ⟨_, _, _, _, _, _⟩) rfl (fun K hK => ?_) AllReadyH.nil))
            · go_simp
              refine hK.out _ _ ((fun h => by (try dsimp only); exact h) (SK192.out _ AV.out.more.S)) (fun _ => ?_)
              clear hK K
              try simp only [Act.put, List.setIfInBounds_toArray, List.set_cons_zero, List.set_cons_succ]
              have AV := hidden (show Av w175 (wax190_2.alloc (.cells #[.int .i64 0, .int .i64 0, .string ⟨#[]⟩] 26)) [wax190_2.heap.size] from AV.out.more)
              generalize wax190_2.heap.size = rx1900_3 at AV ⊢
              generalize wax190_2.alloc (.cells #[.int .i64 0, .int .i64 0, .string ⟨#[]⟩] 26) = wax190_3 at AV ⊢
              revert AV
              exact NDx190_0_2.out rx1900_3 wax190_3
            · go_simp
              refine hK.out _ _ ((fun h => by (try dsimp only); exact h) (SK192.out _ AV.out.more.S)) (fun _ => ?_)
              clear hK K
              try simp only [Act.put, List.setIfInBounds_toArray, List.set_cons_zero, List.set_cons_succ]
              have AV := hidden (show Av w175 (wax190_2.alloc (.cells #[.int .i64 0, .int .i64 0, .string ⟨#[]⟩] 26)) [wax190_2.heap.size] from AV.out.more)
              generalize wax190_2.heap.size = rx1901_4 at AV ⊢
              generalize wax190_2.alloc (.cells #[.int .i64 0, .int .i64 0, .string ⟨#[]⟩] 26) = wax190_4 at AV ⊢
              revert AV
              exact NDx190_1_2.out rx1901_4 wax190_4
            · go_simp
              refine hK.out _ _ ((fun h => by (try dsimp only); exact h) (SK192.out _ AV.out.more.S)) (fun _ => ?_)
              clear hK K
              try simp only [Act.put, List.setIfInBounds_toArray, List.set_cons_zero, List.set_cons_succ]
              have AV := hidden (show Av w175 (wax190_2.alloc (.cells #[.int .i64 0, .int .i64 0, .string ⟨#[]⟩] 26)) [wax190_2.heap.size] from AV.out.more)
              generalize wax190_2.heap.size = rx1902_5 at AV ⊢
              generalize wax190_2.alloc (.cells #[.int .i64 0, .int .i64 0, .string ⟨#[]⟩] 26) = wax190_5 at AV ⊢
              revert AV
              exact NDx190_2_2.out rx1902_5 wax190_5
          · go_simp
            refine hK.out _ _ ((fun h => by (try dsimp only); exact h) (SK192.out _ AV.out.more.S)) (fun _ => ?_)
            clear hK K
            try simp only [Act.put, List.setIfInBounds_toArray, List.set_cons_zero, List.set_cons_succ]
            have AV := hidden (show Av w175 (wax190_1.alloc (.cells #[.int .i64 0, .int .i64 0, .string ⟨#[]⟩] 26)) [wax190_1.heap.size] from AV.out.more)
            generalize wax190_1.heap.size = rx1900_6 at AV ⊢
            generalize wax190_1.alloc (.cells #[.int .i64 0, .int .i64 0, .string ⟨#[]⟩] 26) = wax190_6 at AV ⊢
            revert AV
            exact NDx190_0_1.out rx1900_6 wax190_6
          · go_simp
            refine hK.out _ _ ((fun h => by (try dsimp only); exact h) (SK192.out _ AV.out.more.S)) (fun _ => ?_)
            clear hK K
            try simp only [Act.put, List.setIfInBounds_toArray, List.set_cons_zero, List.set_cons_succ]
            have AV := hidden (show Av w175 (wax190_1.alloc (.cells #[.int .i64 0, .int .i64 0, .string ⟨#[]⟩] 26)) [wax190_1.heap.size] from AV.out.more)
            generalize wax190_1.heap.size = rx1901_7 at AV ⊢
            generalize wax190_1.alloc (.cells #[.int .i64 0, .int .i64 0, .string ⟨#[]⟩] 26) = wax190_7 at AV ⊢
            revert AV
            exact NDx190_1_1.out rx1901_7 wax190_7
          · go_simp
            refine hK.out _ _ ((fun h => by (try dsimp only); exact h) (SK192.out _ AV.out.more.S)) (fun _ => ?_)
            clear hK K
            try simp only [Act.put, List.setIfInBounds_toArray, List.set_cons_zero, List.set_cons_succ]
            have AV := hidden (show Av w175 (wax190_1.alloc (.cells #[.int .i64 0, .int .i64 0, .string ⟨#[]⟩] 26)) [wax190_1.heap.size] from AV.out.more)
            generalize wax190_1.heap.size = rx1902_8 at AV ⊢
            generalize wax190_1.alloc (.cells #[.int .i64 0, .int .i64 0, .string ⟨#[]⟩] 26) = wax190_8 at AV ⊢
            revert AV
            exact NDx190_2_1.out rx1902_8 wax190_8
        · go_simp
          refine hK.out _ _ ((fun h => by (try dsimp only); exact h) (SK192.out _ AV.out.more.S)) (fun _ => ?_)
          clear hK K
          try simp only [Act.put, List.setIfInBounds_toArray, List.set_cons_zero, List.set_cons_succ]
          have AV := hidden (show Av w175 (wdx190.alloc (.cells #[.int .i64 0, .int .i64 0, .string ⟨#[]⟩] 26)) [wdx190.heap.size] from AV.out.more)
          generalize wdx190.heap.size = rx1900_9 at AV ⊢
          generalize wdx190.alloc (.cells #[.int .i64 0, .int .i64 0, .string ⟨#[]⟩] 26) = wax190_9 at AV ⊢
          refine wpAnyH_ready (rs := [2, 11, 12]) (by kernel_rfl) (by simp) ?_
          refine AllReadyH.cons (o := ⟨_, _, _, _, _, _⟩) rfl (fun K hK => ?_) (AllReadyH.cons (o := ⟨_, _, _, _, _, _⟩) rfl (fun K hK => ?_) (AllReadyH.cons (o := ⟨_, _, _, _, _, _⟩) rfl (fun K hK => ?_) AllReadyH.nil))
          · go_simp
            (first | (go_at_call 12; refine (C193.out wax190_9 (hidden AV.out.K).out).mono ?_; rintro e wax190_10 ⟨rfl, h1⟩))
            go_wp2_with fail
            have AV := hidden (AV.out.calm h1)
            refine hK.out _ _ ((fun h => by (try dsimp only); exact h) (SK192.out _ AV.out.S)) (fun hHeld => ?_)
            clear hK K h1
            try simp only [Act.put, List.setIfInBounds_toArray, List.set_cons_zero, List.set_cons_succ]
            clear hHeld
            revert AV
            exact NDx190_0_1.out rx1900_9 wax190_10
          · go_simp
            refine hK.out _ _ ((fun h => by (try dsimp only); exact h) (SK192.out _ AV.out.more.S)) (fun _ => ?_)
            clear hK K
            try simp only [Act.put, List.setIfInBounds_toArray, List.set_cons_zero, List.set_cons_succ]
            have AV := hidden (show Av w175 (wax190_9.alloc (.cells #[.int .i64 0, .int .i64 0, .string ⟨#[]⟩] 26)) [rx1900_9, wax190_9.heap.size] from (AV.out.more.perm (List.perm_middle (l₁ := [rx1900_9]) (l₂ := [])).symm))
            generalize wax190_9.heap.size = rx1901_11 at AV ⊢
            generalize wax190_9.alloc (.cells #[.int .i64 0, .int .i64 0, .string ⟨#[]⟩] 26) = wax190_11 at AV ⊢
            revert AV
            exact NDx190_01_0.out rx1900_9 rx1901_11 wax190_11
          · go_simp
            refine hK.out _ _ ((fun h => by (try dsimp only); exact h) (SK192.out _ AV.out.more.S)) (fun _ => ?_)
            clear hK K
            try simp only [Act.put, List.setIfInBounds_toArray, List.set_cons_zero, List.set_cons_succ]
            have AV := hidden (show Av w175 (wax190_9.alloc (.cells #[.int .i64 0, .int .i64 0, .string ⟨#[]⟩] 26)) [rx1900_9, wax190_9.heap.size] from (AV.out.more.perm (List.perm_middle (l₁ := [rx1900_9]) (l₂ := [])).symm))
            generalize wax190_9.heap.size = rx1902_12 at AV ⊢
            generalize wax190_9.alloc (.cells #[.int .i64 0, .int .i64 0, .string ⟨#[]⟩] 26) = wax190_12 at AV ⊢
            revert AV
            exact NDx190_02_0.out rx1900_9 rx1902_12 wax190_12
        · go_simp
          refine hK.out _ _ ((fun h => by (try dsimp only); exact h) (SK192.out _ AV.out.more.S)) (fun _ => ?_)
          clear hK K
          try simp only [Act.put, List.setIfInBounds_toArray, List.set_cons_zero, List.set_cons_succ]
          have AV := hidden (show Av w175 (wdx190.alloc (.cells #[.int .i64 0, .int .i64 0, .string ⟨#[]⟩] 26)) [wdx190.heap.size] from AV.out.more)
          generalize wdx190.heap.size = rx1901_13 at AV ⊢
          generalize wdx190.alloc (.cells #[.int .i64 0, .int .i64 0, .string ⟨#[]⟩] 26) = wax190_13 at AV ⊢
          refine wpAnyH_ready (rs := [2, 10, 12]) (by kernel_rfl) (by simp) ?_
          refine AllReadyH.cons (o := ⟨_, _, _, _, _, _⟩) rfl (fun K hK => ?_) (AllReadyH.cons (o := ⟨_, _, _, _, _, _⟩) rfl (fun K hK => ?_) (AllReadyH.cons (o := ⟨_, _, _, _, _, _⟩) rfl (fun K hK => ?_) AllReadyH.nil))
          · go_simp
            (first | (go_at_call 12; refine (C193.out wax190_13 (hidden AV.out.K).out).mono ?_; rintro e wax190_14 ⟨rfl, h1⟩))
            go_wp2_with fail
            have AV := hidden (AV.out.calm h1)
            refine hK.out _ _ ((fun h => by (try dsimp only); exact h) (SK192.out _ AV.out.S)) (fun hHeld => ?_)
            clear hK K h1
            try simp only [Act.put, List.setIfInBounds_toArray, List.set_cons_zero, List.set_cons_succ]
            clear hHeld
            revert AV
            exact NDx190_1_1.out rx1901_13 wax190_14
          · go_simp
            refine hK.out _ _ ((fun h => by (try dsimp only); exact h) (SK192.out _ AV.out.more.S)) (fun _ => ?_)
            clear hK K
            try simp only [Act.put, List.setIfInBounds_toArray, List.set_cons_zero, List.set_cons_succ]
            have AV := hidden (show Av w175 (wax190_13.alloc (.cells #[.int .i64 0, .int .i64 0, .string ⟨#[]⟩] 26)) [wax190_13.heap.size, rx1901_13] from AV.out.more)
            generalize wax190_13.heap.size = rx1900_15 at AV ⊢
            generalize wax190_13.alloc (.cells #[.int .i64 0, .int .i64 0, .string ⟨#[]⟩] 26) = wax190_15 at AV ⊢
            revert AV
            exact NDx190_01_0.out rx1900_15 rx1901_13 wax190_15
          · go_simp
            refine hK.out _ _ ((fun h => by (try dsimp only); exact h) (SK192.out _ AV.out.more.S)) (fun _ => ?_)
            clear hK K
            try simp only [Act.put, List.setIfInBounds_toArray, List.set_cons_zero, List.set_cons_succ]
            have AV := hidden (show Av w175 (wax190_13.alloc (.cells #[.int .i64 0, .int .i64 0, .string ⟨#[]⟩] 26)) [rx1901_13, wax190_13.heap.size] from (AV.out.more.perm (List.perm_middle (l₁ := [rx1901_13]) (l₂ := [])).symm))
            generalize wax190_13.heap.size = rx1902_16 at AV ⊢
            generalize wax190_13.alloc (.cells #[.int .i64 0, .int .i64 0, .string ⟨#[]⟩] 26) = wax190_16 at AV ⊢
            revert AV
            exact NDx190_12_0.out rx1901_13 rx1902_16 wax190_16
        · go_simp
          refine hK.out _ _ ((fun h => by (try dsimp only); exact h) (SK192.out _ AV.out.more.S)) (fun _ => ?_)
          clear hK K
          try simp only [Act.put, List.setIfInBounds_toArray, List.set_cons_zero, List.set_cons_succ]
          have AV := hidden (show Av w175 (wdx190.alloc (.cells #[.int .i64 0, .int .i64 0, .string ⟨#[]⟩] 26)) [wdx190.heap.size] from AV.out.more)
          generalize wdx190.heap.size = rx1902_17 at AV ⊢
          generalize wdx190.alloc (.cells #[.int .i64 0, .int .i64 0, .string ⟨#[]⟩] 26) = wax190_17 at AV ⊢
          refine wpAnyH_ready (rs := [2, 10, 11]) (by kernel_rfl) (by simp) ?_
          refine AllReadyH.cons (o := ⟨_, _, _, _, _, _⟩) rfl (fun K hK => ?_) (AllReadyH.cons (o := ⟨_, _, _, _, _, _⟩) rfl (fun K hK => ?_) (AllReadyH.cons (o := ⟨_, _, _, _, _, _⟩) rfl (fun K hK => ?_) AllReadyH.nil))
          · go_simp
            (first | (go_at_call 12; refine (C193.out wax190_17 (hidden AV.out.K).out).mono ?_; rintro e wax190_18 ⟨rfl, h1⟩))
            go_wp2_with fail
            have AV := hidden (AV.out.calm h1)
            refine hK.out _ _ ((fun h => by (try dsimp only); exact h) (SK192.out _ AV.out.S)) (fun hHeld => ?_)
            clear hK K h1
            try simp only [Act.put, List.setIfInBounds_toArray, List.set_cons_zero, List.set_cons_succ]
            clear hHeld
            revert AV
            exact NDx190_2_1.out rx1902_17 wax190_18
          · go_simp
            refine hK.out _ _ ((fun h => by (try dsimp only); exact h) (SK192.out _ AV.out.more.S)) (fun _ => ?_)
            clear hK K
            try simp only [Act.put, List.setIfInBounds_toArray, List.set_cons_zero, List.set_cons_succ]
            have AV := hidden (show Av w175 (wax190_17.alloc (.cells #[.int .i64 0, .int .i64 0, .string ⟨#[]⟩] 26)) [wax190_17.heap.size, rx1902_17] from AV.out.more)
            generalize wax190_17.heap.size = rx1900_19 at AV ⊢
            generalize wax190_17.alloc (.cells #[.int .i64 0, .int .i64 0, .string ⟨#[]⟩] 26) = wax190_19 at AV ⊢
            revert AV
            exact NDx190_02_0.out rx1900_19 rx1902_17 wax190_19
          · go_simp
            refine hK.out _ _ ((fun h => by (try dsimp only); exact h) (SK192.out _ AV.out.more.S)) (fun _ => ?_)
            clear hK K
            try simp only [Act.put, List.setIfInBounds_toArray, List.set_cons_zero, List.set_cons_succ]
            have AV := hidden (show Av w175 (wax190_17.alloc (.cells #[.int .i64 0, .int .i64 0, .string ⟨#[]⟩] 26)) [wax190_17.heap.size, rx1902_17] from AV.out.more)
            generalize wax190_17.heap.size = rx1901_20 at AV ⊢
            generalize wax190_17.alloc (.cells #[.int .i64 0, .int .i64 0, .string ⟨#[]⟩] 26) = wax190_20 at AV ⊢
            revert AV
            exact NDx190_12_0.out rx1901_20 rx1902_17 wax190_20
      · intro qx1900 wqx190 AV
        refine wpAnyH_ready (rs := [3, 11, 12]) (by kernel_rfl) (by simp) ?_
        refine AllReadyH.cons (o := ⟨_, _, _, _, _, _⟩) rfl (fun K hK => ?_) (AllReadyH.cons (o := ⟨_, _, _, _, _, _⟩) rfl (fun K hK => ?_) (AllReadyH.cons (o := ⟨_, _, _, _, _, _⟩) rfl (fun K hK => ?_) AllReadyH.nil))
        · go_simp
          (first | (go_at_call 48; refine (C194.out wqx190 (hidden AV.out.K).out).mono ?_; rintro e wax190_21 ⟨rfl, h1⟩))
          go_wp2_with fail
          have AV := hidden (AV.out.calm h1)
          refine hK.out _ _ ((fun h => by (try dsimp only); exact h) (SK192.out _ AV.out.S)) (fun hHeld => ?_)
          clear hK K h1
          try simp only [Act.put, List.setIfInBounds_toArray, List.set_cons_zero, List.set_cons_succ]
          (try dsimp only at hHeld)
          refine wpAnyH_tk (oi := ⟨_, _, _, _, _, _⟩) (v := ?_) 4 rfl (by kernel_rfl) (fun _ _ _ h => h) hHeld (by rfl) ?_ ?_
          rotate_left
          · (intro w' hSw; (try dsimp only at hSw); go_simp; (try with_reducible rfl))
          try simp only [Act.put, List.setIfInBounds_toArray, List.set_cons_zero, List.set_cons_succ]
          refine wpAnyH_tk (oi := ⟨_, _, _, _, _, _⟩) (v := ?_) 5 rfl (by kernel_rfl) (fun _ _ _ h => h) hHeld (by rfl) ?_ ?_
          rotate_left
          · (intro w' hSw; (try dsimp only at hSw); go_simp; (try with_reducible rfl))
          try simp only [Act.put, List.setIfInBounds_toArray, List.set_cons_zero, List.set_cons_succ]
          refine wpAnyH_tk (oi := ⟨_, _, _, _, _, _⟩) (v := ?_) 6 rfl (by kernel_rfl) (fun _ _ _ h => h) hHeld (by rfl) ?_ ?_
          rotate_left
          · (intro w' hSw; (try dsimp only at hSw); go_simp; (try with_reducible rfl))
          try simp only [Act.put, List.setIfInBounds_toArray, List.set_cons_zero, List.set_cons_succ]
          refine wpAnyH_tk (oi := ⟨_, _, _, _, _, _⟩) (v := ?_) 7 rfl (by kernel_rfl) (fun _ _ _ h => h) hHeld (by rfl) ?_ ?_
          rotate_left
          · (intro w' hSw; (try dsimp only at hSw); go_simp; (try with_reducible rfl))
          try simp only [Act.put, List.setIfInBounds_toArray, List.set_cons_zero, List.set_cons_succ]
          refine wpAnyH_tk (oi := ⟨_, _, _, _, _, _⟩) (v := ?_) 8 rfl (by kernel_rfl) (fun _ _ _ h => h) hHeld (by rfl) ?_ ?_
          rotate_left
          · (intro w' hSw; (try dsimp only at hSw); go_simp; (try with_reducible rfl))
          try simp only [Act.put, List.setIfInBounds_toArray, List.set_cons_zero, List.set_cons_succ]
          refine wpAnyH_tk (oi := ⟨_, _, _, _, _, _⟩) (v := ?_) 9 rfl (by kernel_rfl) (fun _ _ _ h => h) hHeld (by rfl) ?_ ?_
          rotate_left
          · (intro w' hSw; (try dsimp only at hSw); go_simp; (try with_reducible rfl))
          try simp only [Act.put, List.setIfInBounds_toArray, List.set_cons_zero, List.set_cons_succ]
          clear hHeld
          revert AV
          exact NDx190_0_2.out qx1900 wax190_21
        · go_simp
          refine hK.out _ _ ((fun h => by (try dsimp only); exact h) (SK192.out _ AV.out.more.S)) (fun _ => ?_)
          clear hK K
          try simp only [Act.put, List.setIfInBounds_toArray, List.set_cons_zero, List.set_cons_succ]
          have AV := hidden (show Av w175 (wqx190.alloc (.cells #[.int .i64 0, .int .i64 0, .string ⟨#[]⟩] 26)) [qx1900, wqx190.heap.size] from (AV.out.more.perm (List.perm_middle (l₁ := [qx1900]) (l₂ := [])).symm))
          generalize wqx190.heap.size = rx1901_22 at AV ⊢
          generalize wqx190.alloc (.cells #[.int .i64 0, .int .i64 0, .string ⟨#[]⟩] 26) = wax190_22 at AV ⊢
          revert AV
          exact NDx190_01_1.out qx1900 rx1901_22 wax190_22
        · go_simp
          refine hK.out _ _ ((fun h => by (try dsimp only); exact h) (SK192.out _ AV.out.more.S)) (fun _ => ?_)
          clear hK K
          try simp only [Act.put, List.setIfInBounds_toArray, List.set_cons_zero, List.set_cons_succ]
          have AV := hidden (show Av w175 (wqx190.alloc (.cells #[.int .i64 0, .int .i64 0, .string ⟨#[]⟩] 26)) [qx1900, wqx190.heap.size] from (AV.out.more.perm (List.perm_middle (l₁ := [qx1900]) (l₂ := [])).symm))
          generalize wqx190.heap.size = rx1902_23 at AV ⊢
          generalize wqx190.alloc (.cells #[.int .i64 0, .int .i64 0, .string ⟨#[]⟩] 26) = wax190_23 at AV ⊢
          revert AV
          exact NDx190_02_1.out qx1900 rx1902_23 wax190_23
      · intro qx1901 wqx190 AV
        refine wpAnyH_ready (rs := [3, 10, 12]) (by kernel_rfl) (by simp) ?_
        refine AllReadyH.cons (o := ⟨_, _, _, _, _, _⟩) rfl (fun K hK => ?_) (AllReadyH.cons (o := ⟨_, _, _, _, _, _⟩) rfl (fun K hK => ?_) (AllReadyH.cons (o := ⟨_, _, _, _, _, _⟩) rfl (fun K hK => ?_) AllReadyH.nil))
        · go_simp
          (first | (go_at_call 48; refine (C194.out wqx190 (hidden AV.out.K).out).mono ?_; rintro e wax190_24 ⟨rfl, h1⟩))
          go_wp2_with fail
          have AV := hidden (AV.out.calm h1)
          refine hK.out _ _ ((fun h => by (try dsimp only); exact h) (SK192.out _ AV.out.S)) (fun hHeld => ?_)
          clear hK K h1
          try simp only [Act.put, List.setIfInBounds_toArray, List.set_cons_zero, List.set_cons_succ]
          (try dsimp only at hHeld)
          refine wpAnyH_tk (oi := ⟨_, _, _, _, _, _⟩) (v := ?_) 4 rfl (by kernel_rfl) (fun _ _ _ h => h) hHeld (by rfl) ?_ ?_
          rotate_left
          · (intro w' hSw; (try dsimp only at hSw); go_simp; (try with_reducible rfl))
          try simp only [Act.put, List.setIfInBounds_toArray, List.set_cons_zero, List.set_cons_succ]
          refine wpAnyH_tk (oi := ⟨_, _, _, _, _, _⟩) (v := ?_) 5 rfl (by kernel_rfl) (fun _ _ _ h => h) hHeld (by rfl) ?_ ?_
          rotate_left
          · (intro w' hSw; (try dsimp only at hSw); go_simp; (try with_reducible rfl))
          try simp only [Act.put, List.setIfInBounds_toArray, List.set_cons_zero, List.set_cons_succ]
          refine wpAnyH_tk (oi := ⟨_, _, _, _, _, _⟩) (v := ?_) 6 rfl (by kernel_rfl) (fun _ _ _ h => h) hHeld (by rfl) ?_ ?_
          rotate_left
          · (intro w' hSw; (try dsimp only at hSw); go_simp; (try with_reducible rfl))
          try simp only [Act.put, List.setIfInBounds_toArray, List.set_cons_zero, List.set_cons_succ]
          refine wpAnyH_tk (oi := ⟨_, _, _, _, _, _⟩) (v := ?_) 7 rfl (by kernel_rfl) (fun _ _ _ h => h) hHeld (by rfl) ?_ ?_
          rotate_left
          · (intro w' hSw; (try dsimp only at hSw); go_simp; (try with_reducible rfl))
          try simp only [Act.put, List.setIfInBounds_toArray, List.set_cons_zero, List.set_cons_succ]
          refine wpAnyH_tk (oi := ⟨_, _, _, _, _, _⟩) (v := ?_) 8 rfl (by kernel_rfl) (fun _ _ _ h => h) hHeld (by rfl) ?_ ?_
          rotate_left
          · (intro w' hSw; (try dsimp only at hSw); go_simp; (try with_reducible rfl))
          try simp only [Act.put, List.setIfInBounds_toArray, List.set_cons_zero, List.set_cons_succ]
          refine wpAnyH_tk (oi := ⟨_, _, _, _, _, _⟩) (v := ?_) 9 rfl (by kernel_rfl) (fun _ _ _ h => h) hHeld (by rfl) ?_ ?_
          rotate_left
          · (intro w' hSw; (try dsimp only at hSw); go_simp; (try with_reducible rfl))
          try simp only [Act.put, List.setIfInBounds_toArray, List.set_cons_zero, List.set_cons_succ]
          clear hHeld
          revert AV
          exact NDx190_1_2.out qx1901 wax190_24
        · go_simp
          refine hK.out _ _ ((fun h => by (try dsimp only); exact h) (SK192.out _ AV.out.more.S)) (fun _ => ?_)
          clear hK K
          try simp only [Act.put, List.setIfInBounds_toArray, List.set_cons_zero, List.set_cons_succ]
          have AV := hidden (show Av w175 (wqx190.alloc (.cells #[.int .i64 0, .int .i64 0, .string ⟨#[]⟩] 26)) [wqx190.heap.size, qx1901] from AV.out.more)
          generalize wqx190.heap.size = rx1900_25 at AV ⊢
          generalize wqx190.alloc (.cells #[.int .i64 0, .int .i64 0, .string ⟨#[]⟩] 26) = wax190_25 at AV ⊢
          revert AV
          exact NDx190_01_1.out rx1900_25 qx1901 wax190_25
        · go_simp
          refine hK.out _ _ ((fun h => by (try dsimp only); exact h) (SK192.out _ AV.out.more.S)) (fun _ => ?_)
          clear hK K
          try simp only [Act.put, List.setIfInBounds_toArray, List.set_cons_zero, List.set_cons_succ]
          have AV := hidden (show Av w175 (wqx190.alloc (.cells #[.int .i64 0, .int .i64 0, .string ⟨#[]⟩] 26)) [qx1901, wqx190.heap.size] from (AV.out.more.perm (List.perm_middle (l₁ := [qx1901]) (l₂ := [])).symm))
          generalize wqx190.heap.size = rx1902_26 at AV ⊢
          generalize wqx190.alloc (.cells #[.int .i64 0, .int .i64 0, .string ⟨#[]⟩] 26) = wax190_26 at AV ⊢
          revert AV
          exact NDx190_12_1.out qx1901 rx1902_26 wax190_26
      · intro qx1902 wqx190 AV
        refine wpAnyH_ready (rs := [3, 10, 11]) (by kernel_rfl) (by simp) ?_
        refine AllReadyH.cons (o := ⟨_, _, _, _, _, _⟩) rfl (fun K hK => ?_) (AllReadyH.cons (o := ⟨_, _, _, _, _, _⟩) rfl (fun K hK => ?_) (AllReadyH.cons (o := ⟨_, _, _, _, _, _⟩) rfl (fun K hK => ?_) AllReadyH.nil))
        · go_simp
          (first | (go_at_call 48; refine (C194.out wqx190 (hidden AV.out.K).out).mono ?_; rintro e wax190_27 ⟨rfl, h1⟩))
          go_wp2_with fail
          have AV := hidden (AV.out.calm h1)
          refine hK.out _ _ ((fun h => by (try dsimp only); exact h) (SK192.out _ AV.out.S)) (fun hHeld => ?_)
          clear hK K h1
          try simp only [Act.put, List.setIfInBounds_toArray, List.set_cons_zero, List.set_cons_succ]
          (try dsimp only at hHeld)
          refine wpAnyH_tk (oi := ⟨_, _, _, _, _, _⟩) (v := ?_) 4 rfl (by kernel_rfl) (fun _ _ _ h => h) hHeld (by rfl) ?_ ?_
          rotate_left
          · (intro w' hSw; (try dsimp only at hSw); go_simp; (try with_reducible rfl))
          try simp only [Act.put, List.setIfInBounds_toArray, List.set_cons_zero, List.set_cons_succ]
          refine wpAnyH_tk (oi := ⟨_, _, _, _, _, _⟩) (v := ?_) 5 rfl (by kernel_rfl) (fun _ _ _ h => h) hHeld (by rfl) ?_ ?_
          rotate_left
          · (intro w' hSw; (try dsimp only at hSw); go_simp; (try with_reducible rfl))
          try simp only [Act.put, List.setIfInBounds_toArray, List.set_cons_zero, List.set_cons_succ]
          refine wpAnyH_tk (oi := ⟨_, _, _, _, _, _⟩) (v := ?_) 6 rfl (by kernel_rfl) (fun _ _ _ h => h) hHeld (by rfl) ?_ ?_
          rotate_left
          · (intro w' hSw; (try dsimp only at hSw); go_simp; (try with_reducible rfl))
          try simp only [Act.put, List.setIfInBounds_toArray, List.set_cons_zero, List.set_cons_succ]
          refine wpAnyH_tk (oi := ⟨_, _, _, _, _, _⟩) (v := ?_) 7 rfl (by kernel_rfl) (fun _ _ _ h => h) hHeld (by rfl) ?_ ?_
          rotate_left
          · (intro w' hSw; (try dsimp only at hSw); go_simp; (try with_reducible rfl))
          try simp only [Act.put, List.setIfInBounds_toArray, List.set_cons_zero, List.set_cons_succ]
          refine wpAnyH_tk (oi := ⟨_, _, _, _, _, _⟩) (v := ?_) 8 rfl (by kernel_rfl) (fun _ _ _ h => h) hHeld (by rfl) ?_ ?_
          rotate_left
          · (intro w' hSw; (try dsimp only at hSw); go_simp; (try with_reducible rfl))
          try simp only [Act.put, List.setIfInBounds_toArray, List.set_cons_zero, List.set_cons_succ]
          refine wpAnyH_tk (oi := ⟨_, _, _, _, _, _⟩) (v := ?_) 9 rfl (by kernel_rfl) (fun _ _ _ h => h) hHeld (by rfl) ?_ ?_
          rotate_left
          · (intro w' hSw; (try dsimp only at hSw); go_simp; (try with_reducible rfl))
          try simp only [Act.put, List.setIfInBounds_toArray, List.set_cons_zero, List.set_cons_succ]
          clear hHeld
          revert AV
          exact NDx190_2_2.out qx1902 wax190_27
        · go_simp
          refine hK.out _ _ ((fun h => by (try dsimp only); exact h) (SK192.out _ AV.out.more.S)) (fun _ => ?_)
          clear hK K
          try simp only [Act.put, List.setIfInBounds_toArray, List.set_cons_zero, List.set_cons_succ]
          have AV := hidden (show Av w175 (wqx190.alloc (.cells #[.int .i64 0, .int .i64 0, .string ⟨#[]⟩] 26)) [wqx190.heap.size, qx1902] from AV.out.more)
          generalize wqx190.heap.size = rx1900_28 at AV ⊢
          generalize wqx190.alloc (.cells #[.int .i64 0, .int .i64 0, .string ⟨#[]⟩] 26) = wax190_28 at AV ⊢
          revert AV
          exact NDx190_02_1.out rx1900_28 qx1902 wax190_28
        · go_simp
          refine hK.out _ _ ((fun h => by (try dsimp only); exact h) (SK192.out _ AV.out.more.S)) (fun _ => ?_)
          clear hK K
          try simp only [Act.put, List.setIfInBounds_toArray, List.set_cons_zero, List.set_cons_succ]
          have AV := hidden (show Av w175 (wqx190.alloc (.cells #[.int .i64 0, .int .i64 0, .string ⟨#[]⟩] 26)) [wqx190.heap.size, qx1902] from AV.out.more)
          generalize wqx190.heap.size = rx1901_29 at AV ⊢
          generalize wqx190.alloc (.cells #[.int .i64 0, .int .i64 0, .string ⟨#[]⟩] 26) = wax190_29 at AV ⊢
          revert AV
          exact NDx190_12_1.out rx1901_29 qx1902 wax190_29
      · intro qx1900 qx1901 wqx190 AV
        refine wpAnyH_ready (rs := [2, 12]) (by kernel_rfl) (by simp) ?_
        refine AllReadyH.cons (o := ⟨_, _, _, _, _, _⟩) rfl (fun K hK => ?_) (AllReadyH.cons (o := ⟨_, _, _, _, _, _⟩) rfl (fun K hK => ?_) AllReadyH.nil)
        · go_simp
          (first | (go_at_call 12; refine (C193.out wqx190 (hidden AV.out.K).out).mono ?_; rintro e wax190_30 ⟨rfl, h1⟩))
          go_wp2_with fail
          have AV := hidden (AV.out.calm h1)
          refine hK.out _ _ ((fun h => by (try dsimp only); exact h) (SK192.out _ AV.out.S)) (fun hHeld => ?_)
          clear hK K h1
          try simp only [Act.put, List.setIfInBounds_toArray, List.set_cons_zero, List.set_cons_succ]
          clear hHeld
          revert AV
          exact NDx190_01_1.out qx1900 qx1901 wax190_30
        · go_simp
          refine hK.out _ _ ((fun h => by (try dsimp only); exact h) (SK192.out _ AV.out.more.S)) (fun _ => ?_)
          clear hK K
          try simp only [Act.put, List.setIfInBounds_toArray, List.set_cons_zero, List.set_cons_succ]
          have AV := hidden (show Av w175 (wqx190.alloc (.cells #[.int .i64 0, .int .i64 0, .string ⟨#[]⟩] 26)) [qx1900, qx1901, wqx190.heap.size] from (AV.out.more.perm (List.perm_middle (l₁ := [qx1900, qx1901]) (l₂ := [])).symm))
          generalize wqx190.heap.size = rx1902_31 at AV ⊢
          generalize wqx190.alloc (.cells #[.int .i64 0, .int .i64 0, .string ⟨#[]⟩] 26) = wax190_31 at AV ⊢
          revert AV
          exact NDx190_012_0.out qx1900 qx1901 rx1902_31 wax190_31
      · intro qx1900 qx1902 wqx190 AV
        refine wpAnyH_ready (rs := [2, 11]) (by kernel_rfl) (by simp) ?_
        refine AllReadyH.cons (o := ⟨_, _, _, _, _, _⟩) rfl (fun K hK => ?_) (AllReadyH.cons (o := ⟨_, _, _, _, _, _⟩) rfl (fun K hK => ?_) AllReadyH.nil)
        · go_simp
          (first | (go_at_call 12; refine (C193.out wqx190 (hidden AV.out.K).out).mono ?_; rintro e wax190_32 ⟨rfl, h1⟩))
          go_wp2_with fail
          have AV := hidden (AV.out.calm h1)
          refine hK.out _ _ ((fun h => by (try dsimp only); exact h) (SK192.out _ AV.out.S)) (fun hHeld => ?_)
          clear hK K h1
          try simp only [Act.put, List.setIfInBounds_toArray, List.set_cons_zero, List.set_cons_succ]
          clear hHeld
          revert AV
          exact NDx190_02_1.out qx1900 qx1902 wax190_32
        · go_simp
          refine hK.out _ _ ((fun h => by (try dsimp only); exact h) (SK192.out _ AV.out.more.S)) (fun _ => ?_)
          clear hK K
          try simp only [Act.put, List.setIfInBounds_toArray, List.set_cons_zero, List.set_cons_succ]
          have AV := hidden (show Av w175 (wqx190.alloc (.cells #[.int .i64 0, .int .i64 0, .string ⟨#[]⟩] 26)) [qx1900, wqx190.heap.size, qx1902] from (AV.out.more.perm (List.perm_middle (l₁ := [qx1900]) (l₂ := [qx1902])).symm))
          generalize wqx190.heap.size = rx1901_33 at AV ⊢
          generalize wqx190.alloc (.cells #[.int .i64 0, .int .i64 0, .string ⟨#[]⟩] 26) = wax190_33 at AV ⊢
          revert AV
          exact NDx190_012_0.out qx1900 rx1901_33 qx1902 wax190_33
      · intro qx1901 qx1902 wqx190 AV
        refine wpAnyH_ready (rs := [2, 10]) (by kernel_rfl) (by simp) ?_
        refine AllReadyH.cons (o := ⟨_, _, _, _, _, _⟩) rfl (fun K hK => ?_) (AllReadyH.cons (o := ⟨_, _, _, _, _, _⟩) rfl (fun K hK => ?_) AllReadyH.nil)
        · go_simp
          (first | (go_at_call 12; refine (C193.out wqx190 (hidden AV.out.K).out).mono ?_; rintro e wax190_34 ⟨rfl, h1⟩))
          go_wp2_with fail
          have AV := hidden (AV.out.calm h1)
          refine hK.out _ _ ((fun h => by (try dsimp only); exact h) (SK192.out _ AV.out.S)) (fun hHeld => ?_)
          clear hK K h1
          try simp only [Act.put, List.setIfInBounds_toArray, List.set_cons_zero, List.set_cons_succ]
          clear hHeld
          revert AV
          exact NDx190_12_1.out qx1901 qx1902 wax190_34
        · go_simp
          refine hK.out _ _ ((fun h => by (try dsimp only); exact h) (SK192.out _ AV.out.more.S)) (fun _ => ?_)
          clear hK K
          try simp only [Act.put, List.setIfInBounds_toArray, List.set_cons_zero, List.set_cons_succ]
          have AV := hidden (show Av w175 (wqx190.alloc (.cells #[.int .i64 0, .int .i64 0, .string ⟨#[]⟩] 26)) [wqx190.heap.size, qx1901, qx1902] from AV.out.more)
          generalize wqx190.heap.size = rx1900_35 at AV ⊢
          generalize wqx190.alloc (.cells #[.int .i64 0, .int .i64 0, .string ⟨#[]⟩] 26) = wax190_35 at AV ⊢
          revert AV
          exact NDx190_012_0.out rx1900_35 qx1901 qx1902 wax190_35
      · intro qx1900 wqx190 AV
        refine wpAnyH_ready (rs := [11, 12]) (by kernel_rfl) (by simp) ?_
        refine AllReadyH.cons (o := ⟨_, _, _, _, _, _⟩) rfl (fun K hK => ?_) (AllReadyH.cons (o := ⟨_, _, _, _, _, _⟩) rfl (fun K hK => ?_) AllReadyH.nil)
        · go_simp
          refine hK.out _ _ ((fun h => by (try dsimp only); exact h) (SK192.out _ AV.out.more.S)) (fun _ => ?_)
          clear hK K
          try simp only [Act.put, List.setIfInBounds_toArray, List.set_cons_zero, List.set_cons_succ]
          have AV := hidden (show Av w175 (wqx190.alloc (.cells #[.int .i64 0, .int .i64 0, .string ⟨#[]⟩] 26)) [qx1900, wqx190.heap.size] from (AV.out.more.perm (List.perm_middle (l₁ := [qx1900]) (l₂ := [])).symm))
          generalize wqx190.heap.size = rx1901_36 at AV ⊢
          generalize wqx190.alloc (.cells #[.int .i64 0, .int .i64 0, .string ⟨#[]⟩] 26) = wax190_36 at AV ⊢
          revert AV
          exact NDx190_01_2.out qx1900 rx1901_36 wax190_36
        · go_simp
          refine hK.out _ _ ((fun h => by (try dsimp only); exact h) (SK192.out _ AV.out.more.S)) (fun _ => ?_)
          clear hK K
          try simp only [Act.put, List.setIfInBounds_toArray, List.set_cons_zero, List.set_cons_succ]
          have AV := hidden (show Av w175 (wqx190.alloc (.cells #[.int .i64 0, .int .i64 0, .string ⟨#[]⟩] 26)) [qx1900, wqx190.heap.size] from (AV.out.more.perm (List.perm_middle (l₁ := [qx1900]) (l₂ := [])).symm))
          generalize wqx190.heap.size = rx1902_37 at AV ⊢
          generalize wqx190.alloc (.cells #[.int .i64 0, .int .i64 0, .string ⟨#[]⟩] 26) = wax190_37 at AV ⊢
          revert AV
          exact NDx190_02_2.out qx1900 rx1902_37 wax190_37
      · intro qx1901 wqx190 AV
        refine wpAnyH_ready (rs := [10, 12]) (by kernel_rfl) (by simp) ?_
        refine AllReadyH.cons (o := ⟨_, _, _, _, _, _⟩) rfl (fun K hK => ?_) (AllReadyH.cons (o := ⟨_, _, _, _, _, _⟩) rfl (fun K hK => ?_) AllReadyH.nil)
        · go_simp
          refine hK.out _ _ ((fun h => by (try dsimp only); exact h) (SK192.out _ AV.out.more.S)) (fun _ => ?_)
          clear hK K
          try simp only [Act.put, List.setIfInBounds_toArray, List.set_cons_zero, List.set_cons_succ]
          have AV := hidden (show Av w175 (wqx190.alloc (.cells #[.int .i64 0, .int .i64 0, .string ⟨#[]⟩] 26)) [wqx190.heap.size, qx1901] from AV.out.more)
          generalize wqx190.heap.size = rx1900_38 at AV ⊢
          generalize wqx190.alloc (.cells #[.int .i64 0, .int .i64 0, .string ⟨#[]⟩] 26) = wax190_38 at AV ⊢
          revert AV
          exact NDx190_01_2.out rx1900_38 qx1901 wax190_38
        · go_simp
          refine hK.out _ _ ((fun h => by (try dsimp only); exact h) (SK192.out _ AV.out.more.S)) (fun _ => ?_)
          clear hK K
          try simp only [Act.put, List.setIfInBounds_toArray, List.set_cons_zero, List.set_cons_succ]
          have AV := hidden (show Av w175 (wqx190.alloc (.cells #[.int .i64 0, .int .i64 0, .string ⟨#[]⟩] 26)) [qx1901, wqx190.heap.size] from (AV.out.more.perm (List.perm_middle (l₁ := [qx1901]) (l₂ := [])).symm))
          generalize wqx190.heap.size = rx1902_39 at AV ⊢
          generalize wqx190.alloc (.cells #[.int .i64 0, .int .i64 0, .string ⟨#[]⟩] 26) = wax190_39 at AV ⊢
          revert AV
          exact NDx190_12_2.out qx1901 rx1902_39 wax190_39
      · intro qx1902 wqx190 AV
        refine wpAnyH_ready (rs := [10, 11]) (by kernel_rfl) (by simp) ?_
        refine AllReadyH.cons (o := ⟨_, _, _, _, _, _⟩) rfl (fun K hK => ?_) (AllReadyH.cons (o := ⟨_, _, _, _, _, _⟩) rfl (fun K hK => ?_) AllReadyH.nil)
        · go_simp
          refine hK.out _ _ ((fun h => by (try dsimp only); exact h) (SK192.out _ AV.out.more.S)) (fun _ => ?_)
          clear hK K
          try simp only [Act.put, List.setIfInBounds_toArray, List.set_cons_zero, List.set_cons_succ]
          have AV := hidden (show Av w175 (wqx190.alloc (.cells #[.int .i64 0, .int .i64 0, .string ⟨#[]⟩] 26)) [wqx190.heap.size, qx1902] from AV.out.more)
          generalize wqx190.heap.size = rx1900_40 at AV ⊢
          generalize wqx190.alloc (.cells #[.int .i64 0, .int .i64 0, .string ⟨#[]⟩] 26) = wax190_40 at AV ⊢
          revert AV
          exact NDx190_02_2.out rx1900_40 qx1902 wax190_40
        · go_simp
          refine hK.out _ _ ((fun h => by (try dsimp only); exact h) (SK192.out _ AV.out.more.S)) (fun _ => ?_)
          clear hK K
          try simp only [Act.put, List.setIfInBounds_toArray, List.set_cons_zero, List.set_cons_succ]
          have AV := hidden (show Av w175 (wqx190.alloc (.cells #[.int .i64 0, .int .i64 0, .string ⟨#[]⟩] 26)) [wqx190.heap.size, qx1902] from AV.out.more)
          generalize wqx190.heap.size = rx1901_41 at AV ⊢
          generalize wqx190.alloc (.cells #[.int .i64 0, .int .i64 0, .string ⟨#[]⟩] 26) = wax190_41 at AV ⊢
          revert AV
          exact NDx190_12_2.out rx1901_41 qx1902 wax190_41
      · intro qx1900 qx1901 wqx190 AV
        refine wpAnyH_ready (rs := [3, 12]) (by kernel_rfl) (by simp) ?_
        refine AllReadyH.cons (o := ⟨_, _, _, _, _, _⟩) rfl (fun K hK => ?_) (AllReadyH.cons (o := ⟨_, _, _, _, _, _⟩) rfl (fun K hK => ?_) AllReadyH.nil)
        · go_simp
          (first | (go_at_call 48; refine (C194.out wqx190 (hidden AV.out.K).out).mono ?_; rintro e wax190_42 ⟨rfl, h1⟩))
          go_wp2_with fail
          have AV := hidden (AV.out.calm h1)
          refine hK.out _ _ ((fun h => by (try dsimp only); exact h) (SK192.out _ AV.out.S)) (fun hHeld => ?_)
          clear hK K h1
          try simp only [Act.put, List.setIfInBounds_toArray, List.set_cons_zero, List.set_cons_succ]
          (try dsimp only at hHeld)
          refine wpAnyH_tk (oi := ⟨_, _, _, _, _, _⟩) (v := ?_) 4 rfl (by kernel_rfl) (fun _ _ _ h => h) hHeld (by rfl) ?_ ?_
          rotate_left
          · (intro w' hSw; (try dsimp only at hSw); go_simp; (try with_reducible rfl))
          try simp only [Act.put, List.setIfInBounds_toArray, List.set_cons_zero, List.set_cons_succ]
          refine wpAnyH_tk (oi := ⟨_, _, _, _, _, _⟩) (v := ?_) 5 rfl (by kernel_rfl) (fun _ _ _ h => h) hHeld (by rfl) ?_ ?_
          rotate_left
          · (intro w' hSw; (try dsimp only at hSw); go_simp; (try with_reducible rfl))
          try simp only [Act.put, List.setIfInBounds_toArray, List.set_cons_zero, List.set_cons_succ]
          refine wpAnyH_tk (oi := ⟨_, _, _, _, _, _⟩) (v := ?_) 6 rfl (by kernel_rfl) (fun _ _ _ h => h) hHeld (by rfl) ?_ ?_
          rotate_left
          · (intro w' hSw; (try dsimp only at hSw); go_simp; (try with_reducible rfl))
          try simp only [Act.put, List.setIfInBounds_toArray, List.set_cons_zero, List.set_cons_succ]
          refine wpAnyH_tk (oi := ⟨_, _, _, _, _, _⟩) (v := ?_) 7 rfl (by kernel_rfl) (fun _ _ _ h => h) hHeld (by rfl) ?_ ?_
          rotate_left
          · (intro w' hSw; (try dsimp only at hSw); go_simp; (try with_reducible rfl))
          try simp only [Act.put, List.setIfInBounds_toArray, List.set_cons_zero, List.set_cons_succ]
          refine wpAnyH_tk (oi := ⟨_, _, _, _, _, _⟩) (v := ?_) 8 rfl (by kernel_rfl) (fun _ _ _ h => h) hHeld (by rfl) ?_ ?_
          rotate_left
          · (intro w' hSw; (try dsimp only at hSw); go_simp; (try with_reducible rfl))
          try simp only [Act.put, List.setIfInBounds_toArray, List.set_cons_zero, List.set_cons_succ]
          refine wpAnyH_tk (oi := ⟨_, _, _, _, _, _⟩) (v := ?_) 9 rfl (by kernel_rfl) (fun _ _ _ h => h) hHeld (by rfl) ?_ ?_
          rotate_left
          · (intro w' hSw; (try dsimp only at hSw); go_simp; (try with_reducible rfl))
          try simp only [Act.put, List.setIfInBounds_toArray, List.set_cons_zero, List.set_cons_succ]
          clear hHeld
          revert AV
          exact NDx190_01_2.out qx1900 qx1901 wax190_42
        · go_simp
          refine hK.out _ _ ((fun h => by (try dsimp only); exact h) (SK192.out _ AV.out.more.S)) (fun _ => ?_)
          clear hK K
          try simp only [Act.put, List.setIfInBounds_toArray, List.set_cons_zero, List.set_cons_succ]
          have AV := hidden (show Av w175 (wqx190.alloc (.cells #[.int .i64 0, .int .i64 0, .string ⟨#[]⟩] 26)) [qx1900, qx1901, wqx190.heap.size] from (AV.out.more.perm (List.perm_middle (l₁ := [qx1900, qx1901]) (l₂ := [])).symm))
          generalize wqx190.heap.size = rx1902_43 at AV ⊢
          generalize wqx190.alloc (.cells #[.int .i64 0, .int .i64 0, .string ⟨#[]⟩] 26) = wax190_43 at AV ⊢
          revert AV
          exact NDx190_012_1.out qx1900 qx1901 rx1902_43 wax190_43
      · intro qx1900 qx1902 wqx190 AV
        refine wpAnyH_ready (rs := [3, 11]) (by kernel_rfl) (by simp) ?_
        refine AllReadyH.cons (o := ⟨_, _, _, _, _, _⟩) rfl (fun K hK => ?_) (AllReadyH.cons (o := ⟨_, _, _, _, _, _⟩) rfl (fun K hK => ?_) AllReadyH.nil)
        · go_simp
          (first | (go_at_call 48; refine (C194.out wqx190 (hidden AV.out.K).out).mono ?_; rintro e wax190_44 ⟨rfl, h1⟩))
          go_wp2_with fail
          have AV := hidden (AV.out.calm h1)
          refine hK.out _ _ ((fun h => by (try dsimp only); exact h) (SK192.out _ AV.out.S)) (fun hHeld => ?_)
          clear hK K h1
          try simp only [Act.put, List.setIfInBounds_toArray, List.set_cons_zero, List.set_cons_succ]
          (try dsimp only at hHeld)
          refine wpAnyH_tk (oi := ⟨_, _, _, _, _, _⟩) (v := ?_) 4 rfl (by kernel_rfl) (fun _ _ _ h => h) hHeld (by rfl) ?_ ?_
          rotate_left
          · (intro w' hSw; (try dsimp only at hSw); go_simp; (try with_reducible rfl))
          try simp only [Act.put, List.setIfInBounds_toArray, List.set_cons_zero, List.set_cons_succ]
          refine wpAnyH_tk (oi := ⟨_, _, _, _, _, _⟩) (v := ?_) 5 rfl (by kernel_rfl) (fun _ _ _ h => h) hHeld (by rfl) ?_ ?_
          rotate_left
          · (intro w' hSw; (try dsimp only at hSw); go_simp; (try with_reducible rfl))
          try simp only [Act.put, List.setIfInBounds_toArray, List.set_cons_zero, List.set_cons_succ]
          refine wpAnyH_tk (oi := ⟨_, _, _, _, _, _⟩) (v := ?_) 6 rfl (by kernel_rfl) (fun _ _ _ h => h) hHeld (by rfl) ?_ ?_
          rotate_left
          · (intro w' hSw; (try dsimp only at hSw); go_simp; (try with_reducible rfl))
          try simp only [Act.put, List.setIfInBounds_toArray, List.set_cons_zero, List.set_cons_succ]
          refine wpAnyH_tk (oi := ⟨_, _, _, _, _, _⟩) (v := ?_) 7 rfl (by kernel_rfl) (fun _ _ _ h => h) hHeld (by rfl) ?_ ?_
          rotate_left
          · (intro w' hSw; (try dsimp only at hSw); go_simp; (try with_reducible rfl))
          try simp only [Act.put, List.setIfInBounds_toArray, List.set_cons_zero, List.set_cons_succ]
          refine wpAnyH_tk (oi := ⟨_, _, _, _, _, _⟩) (v := ?_) 8 rfl (by kernel_rfl) (fun _ _ _ h => h) hHeld (by rfl) ?_ ?_
          rotate_left
          · (intro w' hSw; (try dsimp only at hSw); go_simp; (try with_reducible rfl))
          try simp only [Act.put, List.setIfInBounds_toArray, List.set_cons_zero, List.set_cons_succ]
          refine wpAnyH_tk (oi := ⟨_, _, _, _, _, _⟩) (v := ?_) 9 rfl (by kernel_rfl) (fun _ _ _ h => h) hHeld (by rfl) ?_ ?_
          rotate_left
          · (intro w' hSw; (try dsimp only at hSw); go_simp; (try with_reducible rfl))
          try simp only [Act.put, List.setIfInBounds_toArray, List.set_cons_zero, List.set_cons_succ]
          clear hHeld
          revert AV
          exact NDx190_02_2.out qx1900 qx1902 wax190_44
        · go_simp
          refine hK.out _ _ ((fun h => by (try dsimp only); exact h) (SK192.out _ AV.out.more.S)) (fun _ => ?_)
          clear hK K
          try simp only [Act.put, List.setIfInBounds_toArray, List.set_cons_zero, List.set_cons_succ]
          have AV := hidden (show Av w175 (wqx190.alloc (.cells #[.int .i64 0, .int .i64 0, .string ⟨#[]⟩] 26)) [qx1900, wqx190.heap.size, qx1902] from (AV.out.more.perm (List.perm_middle (l₁ := [qx1900]) (l₂ := [qx1902])).symm))
          generalize wqx190.heap.size = rx1901_45 at AV ⊢
          generalize wqx190.alloc (.cells #[.int .i64 0, .int .i64 0, .string ⟨#[]⟩] 26) = wax190_45 at AV ⊢
          revert AV
          exact NDx190_012_1.out qx1900 rx1901_45 qx1902 wax190_45
      · intro qx1901 qx1902 wqx190 AV
        refine wpAnyH_ready (rs := [3, 10]) (by kernel_rfl) (by simp) ?_
        refine AllReadyH.cons (o := ⟨_, _, _, _, _, _⟩) rfl (fun K hK => ?_) (AllReadyH.cons (o := ⟨_, _, _, _, _, _⟩) rfl (fun K hK => ?_) AllReadyH.nil)
        · go_simp
          (first | (go_at_call 48; refine (C194.out wqx190 (hidden AV.out.K).out).mono ?_; rintro e wax190_46 ⟨rfl, h1⟩))
          go_wp2_with fail
          have AV := hidden (AV.out.calm h1)
          refine hK.out _ _ ((fun h => by (try dsimp only); exact h) (SK192.out _ AV.out.S)) (fun hHeld => ?_)
          clear hK K h1
          try simp only [Act.put, List.setIfInBounds_toArray, List.set_cons_zero, List.set_cons_succ]
          (try dsimp only at hHeld)
          refine wpAnyH_tk (oi := ⟨_, _, _, _, _, _⟩) (v := ?_) 4 rfl (by kernel_rfl) (fun _ _ _ h => h) hHeld (by rfl) ?_ ?_
          rotate_left
          · (intro w' hSw; (try dsimp only at hSw); go_simp; (try with_reducible rfl))
          try simp only [Act.put, List.setIfInBounds_toArray, List.set_cons_zero, List.set_cons_succ]
          refine wpAnyH_tk (oi := ⟨_, _, _, _, _, _⟩) (v := ?_) 5 rfl (by kernel_rfl) (fun _ _ _ h => h) hHeld (by rfl) ?_ ?_
          rotate_left
          · (intro w' hSw; (try dsimp only at hSw); go_simp; (try with_reducible rfl))
          try simp only [Act.put, List.setIfInBounds_toArray, List.set_cons_zero, List.set_cons_succ]
          refine wpAnyH_tk (oi := ⟨_, _, _, _, _, _⟩) (v := ?_) 6 rfl (by kernel_rfl) (fun _ _ _ h => h) hHeld (by rfl) ?_ ?_
          rotate_left
          · (intro w' hSw; (try dsimp only at hSw); go_simp; (try with_reducible rfl))
          try simp only [Act.put, List.setIfInBounds_toArray, List.set_cons_zero, List.set_cons_succ]
          refine wpAnyH_tk (oi := ⟨_, _, _, _, _, _⟩) (v := ?_) 7 rfl (by kernel_rfl) (fun _ _ _ h => h) hHeld (by rfl) ?_ ?_
          rotate_left
          · (intro w' hSw; (try dsimp only at hSw); go_simp; (try with_reducible rfl))
          try simp only [Act.put, List.setIfInBounds_toArray, List.set_cons_zero, List.set_cons_succ]
          refine wpAnyH_tk (oi := ⟨_, _, _, _, _, _⟩) (v := ?_) 8 rfl (by kernel_rfl) (fun _ _ _ h => h) hHeld (by rfl) ?_ ?_
          rotate_left
          · (intro w' hSw; (try dsimp only at hSw); go_simp; (try with_reducible rfl))
          try simp only [Act.put, List.setIfInBounds_toArray, List.set_cons_zero, List.set_cons_succ]
          refine wpAnyH_tk (oi := ⟨_, _, _, _, _, _⟩) (v := ?_) 9 rfl (by kernel_rfl) (fun _ _ _ h => h) hHeld (by rfl) ?_ ?_
          rotate_left
          · (intro w' hSw; (try dsimp only at hSw); go_simp; (try with_reducible rfl))
          try simp only [Act.put, List.setIfInBounds_toArray, List.set_cons_zero, List.set_cons_succ]
          clear hHeld
          revert AV
          exact NDx190_12_2.out qx1901 qx1902 wax190_46
        · go_simp
          refine hK.out _ _ ((fun h => by (try dsimp only); exact h) (SK192.out _ AV.out.more.S)) (fun _ => ?_)
          clear hK K
          try simp only [Act.put, List.setIfInBounds_toArray, List.set_cons_zero, List.set_cons_succ]
          have AV := hidden (show Av w175 (wqx190.alloc (.cells #[.int .i64 0, .int .i64 0, .string ⟨#[]⟩] 26)) [wqx190.heap.size, qx1901, qx1902] from AV.out.more)
          generalize wqx190.heap.size = rx1900_47 at AV ⊢
          generalize wqx190.alloc (.cells #[.int .i64 0, .int .i64 0, .string ⟨#[]⟩] 26) = wax190_47 at AV ⊢
          revert AV
          exact NDx190_012_1.out rx1900_47 qx1901 qx1902 wax190_47
      · intro qx1900 qx1901 qx1902 wqx190 AV
        refine wpAnyH_ready (rs := [2]) (by kernel_rfl) (by simp) ?_
        refine AllReadyH.cons (o := ⟨_, _, _, _, _, _⟩) rfl (fun K hK => ?_) AllReadyH.nil
        go_simp
        (first | (go_at_call 12; refine (C193.out wqx190 (hidden AV.out.K).out).mono ?_; rintro e wax190_48 ⟨rfl, h1⟩))
        go_wp2_with fail
        have AV := hidden (AV.out.calm h1)
        refine hK.out _ _ ((fun h => by (try dsimp only); exact h) (SK192.out _ AV.out.S)) (fun hHeld => ?_)
        clear hK K h1
        try simp only [Act.put, List.setIfInBounds_toArray, List.set_cons_zero, List.set_cons_succ]
        clear hHeld
        revert AV
        exact NDx190_012_1.out qx1900 qx1901 qx1902 wax190_48
      · intro qx1900 qx1901 wqx190 AV
        refine wpAnyH_ready (rs := [12]) (by kernel_rfl) (by simp) ?_
        refine AllReadyH.cons (o := ⟨_, _, _, _, _, _⟩) rfl (fun K hK => ?_) AllReadyH.nil
        go_simp
        refine hK.out _ _ ((fun h => by (try dsimp only); exact h) (SK192.out _ AV.out.more.S)) (fun _ => ?_)
        clear hK K
        try simp only [Act.put, List.setIfInBounds_toArray, List.set_cons_zero, List.set_cons_succ]
        have AV := hidden (show Av w175 (wqx190.alloc (.cells #[.int .i64 0, .int .i64 0, .string ⟨#[]⟩] 26)) [qx1900, qx1901, wqx190.heap.size] from (AV.out.more.perm (List.perm_middle (l₁ := [qx1900, qx1901]) (l₂ := [])).symm))
        generalize wqx190.heap.size = rx1902_49 at AV ⊢
        generalize wqx190.alloc (.cells #[.int .i64 0, .int .i64 0, .string ⟨#[]⟩] 26) = wax190_49 at AV ⊢
        revert AV
        exact NDx190_012_2.out qx1900 qx1901 rx1902_49 wax190_49
      · intro qx1900 qx1902 wqx190 AV
        refine wpAnyH_ready (rs := [11]) (by kernel_rfl) (by simp) ?_
        refine AllReadyH.cons (o := ⟨_, _, _, _, _, _⟩) rfl (fun K hK => ?_) AllReadyH.nil
        go_simp
        refine hK.out _ _ ((fun h => by (try dsimp only); exact h) (SK192.out _ AV.out.more.S)) (fun _ => ?_)
        clear hK K
        try simp only [Act.put, List.setIfInBounds_toArray, List.set_cons_zero, List.set_cons_succ]
        have AV := hidden (show Av w175 (wqx190.alloc (.cells #[.int .i64 0, .int .i64 0, .string ⟨#[]⟩] 26)) [qx1900, wqx190.heap.size, qx1902] from (AV.out.more.perm (List.perm_middle (l₁ := [qx1900]) (l₂ := [qx1902])).symm))
        generalize wqx190.heap.size = rx1901_50 at AV ⊢
        generalize wqx190.alloc (.cells #[.int .i64 0, .int .i64 0, .string ⟨#[]⟩] 26) = wax190_50 at AV ⊢
        revert AV
        exact NDx190_012_2.out qx1900 rx1901_50 qx1902 wax190_50
      · intro qx1901 qx1902 wqx190 AV
        refine wpAnyH_ready (rs := [10]) (by kernel_rfl) (by simp) ?_
        refine AllReadyH.cons (o := ⟨_, _, _, _, _, _⟩) rfl (fun K hK => ?_) AllReadyH.nil
        go_simp
        refine hK.out _ _ ((fun h => by (try dsimp only); exact h) (SK192.out _ AV.out.more.S)) (fun _ => ?_)
        clear hK K
        try simp only [Act.put, List.setIfInBounds_toArray, List.set_cons_zero, List.set_cons_succ]
        have AV := hidden (show Av w175 (wqx190.alloc (.cells #[.int .i64 0, .int .i64 0, .string ⟨#[]⟩] 26)) [wqx190.heap.size, qx1901, qx1902] from AV.out.more)
        generalize wqx190.heap.size = rx1900_51 at AV ⊢
        generalize wqx190.alloc (.cells #[.int .i64 0, .int .i64 0, .string ⟨#[]⟩] 26) = wax190_51 at AV ⊢
        revert AV
        exact NDx190_012_2.out rx1900_51 qx1901 qx1902 wax190_51
      · intro qx1900 qx1901 qx1902 wqx190 AV
        refine wpAnyH_ready (rs := [3]) (by kernel_rfl) (by simp) ?_
        refine AllReadyH.cons (o := ⟨_, _, _, _, _, _⟩) rfl (fun K hK => ?_) AllReadyH.nil
        go_simp
        (first | (go_at_call 48; refine (C194.out wqx190 (hidden AV.out.K).out).mono ?_; rintro e wax190_52 ⟨rfl, h1⟩))
        go_wp2_with fail
        have AV := hidden (AV.out.calm h1)
        refine hK.out _ _ ((fun h => by (try dsimp only); exact h) (SK192.out _ AV.out.S)) (fun hHeld => ?_)
        clear hK K h1
        try simp only [Act.put, List.setIfInBounds_toArray, List.set_cons_zero, List.set_cons_succ]
        (try dsimp only at hHeld)
        refine wpAnyH_tk (oi := ⟨_, _, _, _, _, _⟩) (v := ?_) 4 rfl (by kernel_rfl) (fun _ _ _ h => h) hHeld (by rfl) ?_ ?_
        rotate_left
        · (intro w' hSw; (try dsimp only at hSw); go_simp; (try with_reducible rfl))
        try simp only [Act.put, List.setIfInBounds_toArray, List.set_cons_zero, List.set_cons_succ]
        refine wpAnyH_tk (oi := ⟨_, _, _, _, _, _⟩) (v := ?_) 5 rfl (by kernel_rfl) (fun _ _ _ h => h) hHeld (by rfl) ?_ ?_
        rotate_left
        · (intro w' hSw; (try dsimp only at hSw); go_simp; (try with_reducible rfl))
        try simp only [Act.put, List.setIfInBounds_toArray, List.set_cons_zero, List.set_cons_succ]
        refine wpAnyH_tk (oi := ⟨_, _, _, _, _, _⟩) (v := ?_) 6 rfl (by kernel_rfl) (fun _ _ _ h => h) hHeld (by rfl) ?_ ?_
        rotate_left
        · (intro w' hSw; (try dsimp only at hSw); go_simp; (try with_reducible rfl))
        try simp only [Act.put, List.setIfInBounds_toArray, List.set_cons_zero, List.set_cons_succ]
        refine wpAnyH_tk (oi := ⟨_, _, _, _, _, _⟩) (v := ?_) 7 rfl (by kernel_rfl) (fun _ _ _ h => h) hHeld (by rfl) ?_ ?_
        rotate_left
        · (intro w' hSw; (try dsimp only at hSw); go_simp; (try with_reducible rfl))
        try simp only [Act.put, List.setIfInBounds_toArray, List.set_cons_zero, List.set_cons_succ]
        refine wpAnyH_tk (oi := ⟨_, _, _, _, _, _⟩) (v := ?_) 8 rfl (by kernel_rfl) (fun _ _ _ h => h) hHeld (by rfl) ?_ ?_
        rotate_left
        · (intro w' hSw; (try dsimp only at hSw); go_simp; (try with_reducible rfl))
        try simp only [Act.put, List.setIfInBounds_toArray, List.set_cons_zero, List.set_cons_succ]
        refine wpAnyH_tk (oi := ⟨_, _, _, _, _, _⟩) (v := ?_) 9 rfl (by kernel_rfl) (fun _ _ _ h => h) hHeld (by rfl) ?_ ?_
        rotate_left
        · (intro w' hSw; (try dsimp only at hSw); go_simp; (try with_reducible rfl))
        try simp only [Act.put, List.setIfInBounds_toArray, List.set_cons_zero, List.set_cons_succ]
        clear hHeld
        revert AV
        exact NDx190_012_2.out qx1900 qx1901 qx1902 wax190_52
      · intro rx1900 rx1901 rx1902 wzx190 AV
        have KSx190 := hidden AV.out.S
        have KZx190 := hidden AV.out.K
        have XRx1900 := hidden (AV.out.at_ 0 rfl).1
        have GRx1900 := hidden (AV.out.at_ 0 rfl).2
        have XRx1901 := hidden (AV.out.at_ 1 rfl).1
        have GRx1901 := hidden (AV.out.at_ 1 rfl).2
        have XRx1902 := hidden (AV.out.at_ 2 rfl).1
        have GRx1902 := hidden (AV.out.at_ 2 rfl).2
        have NEx1900_1 := hidden (show rx1900 ≠ rx1901 from AV.out.ne 0 1 rfl rfl (by decide))
        have NEx1900_2 := hidden (show rx1900 ≠ rx1902 from AV.out.ne 0 2 rfl rfl (by decide))
        have NEx1901_2 := hidden (show rx1901 ≠ rx1902 from AV.out.ne 1 2 rfl rfl (by decide))
        clear AV
        obtain ⟨a0, a1, a2, a3, a4, a5⟩ := XRx1900.out.cells
        have haz := blk_lt XRx1900.out
        obtain ⟨b0, b1, b2, b3, b4, b5⟩ := XRx1901.out.cells
        have hbz := blk_lt XRx1901.out
        obtain ⟨c0, c1, c2, c3, c4, c5⟩ := XRx1902.out.cells
        have hcz := blk_lt XRx1902.out
        simp only [V.null] at a0 a1 a2 b0 b1 b2 c0 c1 c2
        have hn0_1 := NEx1900_1.out
        have hm0_1 := Ne.symm hn0_1
        have hn0_2 := NEx1900_2.out
        have hm0_2 := Ne.symm hn0_2
        have hn1_2 := NEx1901_2.out
        have hm1_2 := Ne.symm hn1_2
        have hHeld := SK192.out _ KSx190.out
        (try dsimp only at hHeld)
        refine wpAnyH_ready (rs := [13]) (by kernel_rfl) (by simp) ?_
        refine AllReadyH.cons (o := ⟨_, _, _, _, _, _⟩) rfl (fun K hK => ?_) AllReadyH.nil
        go_simp
        refine hK.out _ _ ?_ (fun hH2 => ?_)
        · ((try dsimp only); refine SK192.out _ ?_; (repeat with_reducible (first | exact KSx190.out | refine Keeps.var ?_ (fun _ => (by first | exact GRx1900.out | exact GRx1901.out | exact GRx1902.out)) _ _ _)))
        clear hK K hHeld
        have hHeld := hH2
        clear hH2
        try simp only [Act.put, List.setIfInBounds_toArray, List.set_cons_zero, List.set_cons_succ]
        refine wpAnyH_ready (rs := [14]) (by kernel_rfl) (by simp) ?_
        refine AllReadyH.cons (o := ⟨_, _, _, _, _, _⟩) rfl (fun K hK => ?_) AllReadyH.nil
        go_simp
        refine hK.out _ _ ?_ (fun hH2 => ?_)
        · ((try dsimp only); refine SK192.out _ ?_; (repeat with_reducible (first | exact KSx190.out | refine Keeps.var ?_ (fun _ => (by first | exact GRx1900.out | exact GRx1901.out | exact GRx1902.out)) _ _ _)))
        clear hK K hHeld
        have hHeld := hH2
        clear hH2
        try simp only [Act.put, List.setIfInBounds_toArray, List.set_cons_zero, List.set_cons_succ]
        refine wpAnyH_ready (rs := [15]) (by kernel_rfl) (by simp) ?_
        refine AllReadyH.cons (o := ⟨_, _, _, _, _, _⟩) rfl (fun K hK => ?_) AllReadyH.nil
        go_simp
        refine hK.out _ _ ?_ (fun hH2 => ?_)
        · ((try dsimp only); refine SK192.out _ ?_; (repeat with_reducible (first | exact KSx190.out | refine Keeps.var ?_ (fun _ => (by first | exact GRx1900.out | exact GRx1901.out | exact GRx1902.out)) _ _ _)))
        clear hK K hHeld
        have hHeld := hH2
        clear hH2
        try simp only [Act.put, List.setIfInBounds_toArray, List.set_cons_zero, List.set_cons_succ]
        refine wpAnyH_tk (oi := ⟨_, _, _, _, _, _⟩) (v := ?_) 16 rfl (by kernel_rfl) (fun _ _ _ h => h) hHeld (by rfl) ?_ ?_
        rotate_left
        · (intro w' hSw; (try dsimp only at hSw); go_simp; (try with_reducible rfl))
        try simp only [Act.put, List.setIfInBounds_toArray, List.set_cons_zero, List.set_cons_succ]
        refine wpAnyH_tk (oi := ⟨_, _, _, _, _, _⟩) (v := ?_) 17 rfl (by kernel_rfl) (fun _ _ _ h => h) hHeld (by rfl) ?_ ?_
        rotate_left
        · (intro w' hSw; (try dsimp only at hSw); go_simp; (try with_reducible rfl))
        try simp only [Act.put, List.setIfInBounds_toArray, List.set_cons_zero, List.set_cons_succ]
        refine wpAnyH_done (by kernel_rfl) ?_ _
        refine NoPanic.normal ?_
        clear hHeld
        have K195 : Keeps (fun k => w175.heap.size ≤ k) w175 (((((((((wzx190.setCell ⟨rx1900, 0, none⟩ (.int .i64 2)).setCell ⟨rx1900, 1, none⟩ (.int .i64 1)).setCell ⟨rx1900, 2, none⟩ (.string ⟨#[]⟩)).setCell ⟨rx1901, 0, none⟩ (.int .i64 3)).setCell ⟨rx1901, 1, none⟩ (.int .i64 0)).setCell ⟨rx1901, 2, none⟩ (.string ⟨#[120]⟩)).setCell ⟨rx1902, 0, none⟩ (.int .i64 2)).setCell ⟨rx1902, 1, none⟩ (.int .i64 1)).setCell ⟨rx1902, 2, none⟩ (.string ⟨#[]⟩)) := by repeat with_reducible (first | exact KSx190.out | refine Keeps.var ?_ (fun _ => (by first | exact GRx1900.out | exact GRx1901.out | exact GRx1902.out)) _ _ _)
        have V197 := hidden (show Vr F67 (((((((((wzx190.setCell ⟨rx1900, 0, none⟩ (.int .i64 2)).setCell ⟨rx1900, 1, none⟩ (.int .i64 1)).setCell ⟨rx1900, 2, none⟩ (.string ⟨#[]⟩)).setCell ⟨rx1901, 0, none⟩ (.int .i64 3)).setCell ⟨rx1901, 1, none⟩ (.int .i64 0)).setCell ⟨rx1901, 2, none⟩ (.string ⟨#[120]⟩)).setCell ⟨rx1902, 0, none⟩ (.int .i64 2)).setCell ⟨rx1902, 1, none⟩ (.int .i64 1)).setCell ⟨rx1902, 2, none⟩ (.string ⟨#[]⟩)) rx1900 ⟨2, 1, ⟨#[]⟩⟩ from ⟨(((XRx1900.out.set ⟨2, 1, ⟨#[]⟩⟩).far (NEx1900_1.out) _ _ _).far (NEx1900_2.out) _ _ _), fun h => by have := H179.out.heap.inw _ h; have := GRx1900.out; omega⟩)
        have V198 := hidden (show Vr F67 (((((((((wzx190.setCell ⟨rx1900, 0, none⟩ (.int .i64 2)).setCell ⟨rx1900, 1, none⟩ (.int .i64 1)).setCell ⟨rx1900, 2, none⟩ (.string ⟨#[]⟩)).setCell ⟨rx1901, 0, none⟩ (.int .i64 3)).setCell ⟨rx1901, 1, none⟩ (.int .i64 0)).setCell ⟨rx1901, 2, none⟩ (.string ⟨#[120]⟩)).setCell ⟨rx1902, 0, none⟩ (.int .i64 2)).setCell ⟨rx1902, 1, none⟩ (.int .i64 1)).setCell ⟨rx1902, 2, none⟩ (.string ⟨#[]⟩)) rx1901 ⟨3, 0, ⟨#[120]⟩⟩ from ⟨(((XRx1901.out.far (Ne.symm NEx1900_1.out) _ _ _).set ⟨3, 0, ⟨#[120]⟩⟩).far (NEx1901_2.out) _ _ _), fun h => by have := H179.out.heap.inw _ h; have := GRx1901.out; omega⟩)
        have V199 := hidden (show Vr F67 (((((((((wzx190.setCell ⟨rx1900, 0, none⟩ (.int .i64 2)).setCell ⟨rx1900, 1, none⟩ (.int .i64 1)).setCell ⟨rx1900, 2, none⟩ (.string ⟨#[]⟩)).setCell ⟨rx1901, 0, none⟩ (.int .i64 3)).setCell ⟨rx1901, 1, none⟩ (.int .i64 0)).setCell ⟨rx1901, 2, none⟩ (.string ⟨#[120]⟩)).setCell ⟨rx1902, 0, none⟩ (.int .i64 2)).setCell ⟨rx1902, 1, none⟩ (.int .i64 1)).setCell ⟨rx1902, 2, none⟩ (.string ⟨#[]⟩)) rx1902 ⟨2, 1, ⟨#[]⟩⟩ from ⟨(((XRx1902.out.far (Ne.symm NEx1900_2.out) _ _ _).far (Ne.symm NEx1901_2.out) _ _ _).set ⟨2, 1, ⟨#[]⟩⟩), fun h => by have := H179.out.heap.inw _ h; have := GRx1902.out; omega⟩)
        have H200 := hidden (H179.out.beyond K195)
        have V201 := hidden (V180.out.beyond K195)
        have V202 := hidden (V181.out.beyond K195)
        have V203 := hidden (V182.out.beyond K195)
        have V204 := hidden (V183.out.beyond K195)
        have V205 := hidden (V184.out.beyond K195)
        have V206 := hidden (V176.out.beyond K195)
        clear K195 SK192 H179 V180 V181 V182 V183 V184 V176 KSx190 KZx190 XRx1900 XRx1901 XRx1902 GRx1900 GRx1901 GRx1902 NEx1900_1 NEx1900_2 NEx1901_2 a0 a1 a2 a3 a4 a5 b0 b1 b2 b3 b4 b5 c0 c1 c2 c3 c4 c5 haz hbz hcz hn0_1 hn0_2 hn1_2 hm0_1 hm0_2 hm1_2
        generalize (((((((((wzx190.setCell ⟨rx1900, 0, none⟩ (.int .i64 2)).setCell ⟨rx1900, 1, none⟩ (.int .i64 1)).setCell ⟨rx1900, 2, none⟩ (.string ⟨#[]⟩)).setCell ⟨rx1901, 0, none⟩ (.int .i64 3)).setCell ⟨rx1901, 1, none⟩ (.int .i64 0)).setCell ⟨rx1901, 2, none⟩ (.string ⟨#[120]⟩)).setCell ⟨rx1902, 0, none⟩ (.int .i64 2)).setCell ⟨rx1902, 1, none⟩ (.int .i64 1)).setCell ⟨rx1902, 2, none⟩ (.string ⟨#[]⟩)) = w196 at *
        obtain ⟨l2070, l2071, l2072, l207z⟩ := V201.out.cells
        (try dsimp only [rV, iV, V.null] at l2070 l2071 l2072)
        obtain ⟨l2080, l2081, l2082, l208z⟩ := V202.out.cells
        (try dsimp only [rV, iV, V.null] at l2080 l2081 l2082)
        obtain ⟨l2090, l2091, l2092, l209z⟩ := V203.out.cells
        (try dsimp only [rV, iV, V.null] at l2090 l2091 l2092)
        obtain ⟨l2100, l2101, l2102, l210z⟩ := V204.out.cells
        (try dsimp only [rV, iV, V.null] at l2100 l2101 l2102)
        obtain ⟨l2110, l2111, l2112, l211z⟩ := V205.out.cells
        (try dsimp only [rV, iV, V.null] at l2110 l2111 l2112)
        obtain ⟨l2120, l2121, l2122, l212z⟩ := V206.out.cells
        (try dsimp only [rV, iV, V.null] at l2120 l2121 l2122)
        obtain ⟨l2130, l2131, l2132, l213z⟩ := V197.out.cells
        (try dsimp only [rV, iV, V.null] at l2130 l2131 l2132)
        obtain ⟨l2140, l2141, l2142, l214z⟩ := V198.out.cells
        (try dsimp only [rV, iV, V.null] at l2140 l2141 l2142)
        obtain ⟨l2150, l2151, l2152, l215z⟩ := V199.out.cells
        (try dsimp only [rV, iV, V.null] at l2150 l2151 l2152)
        (try go_wp2_with fail)
        clear l2070 l2071 l2072 l207z l2080 l2081 l2082 l208z l2090 l2091 l2092 l209z l2100 l2101 l2102 l210z l2110 l2111 l2112 l211z l2120 l2121 l2122 l212z l2130 l2131 l2132 l213z l2140 l2141 l2142 l214z l2150 l2151 l2152 l215z
        have SK216 := hidden (fun (W : World) (hk : Keeps (fun _ => False) w196 W) => show W.cell? ⟨v13, 0, none⟩ = some (.int .i64 4) ∧ W.cell? ⟨v13, 1, none⟩ = some (.int .i64 a) ∧ W.cell? ⟨v13, 2, none⟩ = some (.string ⟨#[]⟩) ∧ W.cell? ⟨v33, 0, none⟩ = some (.int .i64 4) ∧ W.cell? ⟨v33, 1, none⟩ = some (.int .i64 b) ∧ W.cell? ⟨v33, 2, none⟩ = some (.string ⟨#[]⟩) ∧ W.cell? ⟨rx800, 0, none⟩ = some (.int .i64 2) ∧ W.cell? ⟨rx800, 1, none⟩ = some (.int .i64 1) ∧ W.cell? ⟨rx800, 2, none⟩ = some (.string ⟨#[]⟩) ∧ W.cell? ⟨v104, 0, none⟩ = some (.int .i64 4) ∧ W.cell? ⟨v104, 1, none⟩ = some (.int .i64 b) ∧ W.cell? ⟨v104, 2, none⟩ = some (.string ⟨#[]⟩) ∧ W.cell? ⟨v174, 0, none⟩ = some (.int .i64 2) ∧ W.cell? ⟨v174, 1, none⟩ = some (.int .i64 98) ∧ W.cell? ⟨v174, 2, none⟩ = some (.string ⟨#[]⟩) ∧ W.cell? ⟨rx1900, 0, none⟩ = some (.int .i64 2) ∧ W.cell? ⟨rx1900, 1, none⟩ = some (.int .i64 1) ∧ W.cell? ⟨rx1900, 2, none⟩ = some (.string ⟨#[]⟩) ∧ W.cell? ⟨rx1901, 0, none⟩ = some (.int .i64 3) ∧ W.cell? ⟨rx1901, 1, none⟩ = some (.int .i64 0) ∧ W.cell? ⟨rx1901, 2, none⟩ = some (.string ⟨#[120]⟩) ∧ W.cell? ⟨rx1902, 0, none⟩ = some (.int .i64 2) ∧ W.cell? ⟨rx1902, 1, none⟩ = some (.int .i64 1) ∧ W.cell? ⟨rx1902, 2, none⟩ = some (.string ⟨#[]⟩) from (by have c0 := (V201.out.calm hk).cells; have c1 := (V202.out.calm hk).cells; have c2 := (V203.out.calm hk).cells; have c3 := (V204.out.calm hk).cells; have c4 := (V206.out.calm hk).cells; have c5 := (V197.out.calm hk).cells; have c6 := (V198.out.calm hk).cells; have c7 := (V199.out.calm hk).cells; exact ⟨c0.1, c0.2.1, c0.2.2.1, c1.1, c1.2.1, c1.2.2.1, c2.1, c2.2.1, c2.2.2.1, c3.1, c3.2.1, c3.2.2.1, c4.1, c4.2.1, c4.2.2.1, c5.1, c5.2.1, c5.2.2.1, c6.1, c6.2.1, c6.2.2.1, c7.1, c7.2.1, c7.2.2.1⟩))
        refine wp_region_noPanic ?_
        refine wp_region_held_drew (S := (fun W => W.cell? ⟨v13, 0, none⟩ = some (.int .i64 4) ∧ W.cell? ⟨v13, 1, none⟩ = some (.int .i64 a) ∧ W.cell? ⟨v13, 2, none⟩ = some (.string ⟨#[]⟩) ∧ W.cell? ⟨v33, 0, none⟩ = some (.int .i64 4) ∧ W.cell? ⟨v33, 1, none⟩ = some (.int .i64 b) ∧ W.cell? ⟨v33, 2, none⟩ = some (.string ⟨#[]⟩) ∧ W.cell? ⟨rx800, 0, none⟩ = some (.int .i64 2) ∧ W.cell? ⟨rx800, 1, none⟩ = some (.int .i64 1) ∧ W.cell? ⟨rx800, 2, none⟩ = some (.string ⟨#[]⟩) ∧ W.cell? ⟨v104, 0, none⟩ = some (.int .i64 4) ∧ W.cell? ⟨v104, 1, none⟩ = some (.int .i64 b) ∧ W.cell? ⟨v104, 2, none⟩ = some (.string ⟨#[]⟩) ∧ W.cell? ⟨v174, 0, none⟩ = some (.int .i64 2) ∧ W.cell? ⟨v174, 1, none⟩ = some (.int .i64 98) ∧ W.cell? ⟨v174, 2, none⟩ = some (.string ⟨#[]⟩) ∧ W.cell? ⟨rx1900, 0, none⟩ = some (.int .i64 2) ∧ W.cell? ⟨rx1900, 1, none⟩ = some (.int .i64 1) ∧ W.cell? ⟨rx1900, 2, none⟩ = some (.string ⟨#[]⟩) ∧ W.cell? ⟨rx1901, 0, none⟩ = some (.int .i64 3) ∧ W.cell? ⟨rx1901, 1, none⟩ = some (.int .i64 0) ∧ W.cell? ⟨rx1901, 2, none⟩ = some (.string ⟨#[120]⟩) ∧ W.cell? ⟨rx1902, 0, none⟩ = some (.int .i64 2) ∧ W.cell? ⟨rx1902, 1, none⟩ = some (.int .i64 1) ∧ W.cell? ⟨rx1902, 2, none⟩ = some (.string ⟨#[]⟩))) (by kernel_rfl) ?_ (fun hHeld => ?_)
        · ((try dsimp only); (first | done | exact SK216.out _ ((Keeps.refl _ w196).drew)))
        have KD217 := (Keeps.refl (fun _ => False) w196).drew
        have H219 := hidden (H200.out.calm KD217)
        have V220 := hidden (V201.out.calm KD217)
        have V221 := hidden (V202.out.calm KD217)
        have V222 := hidden (V203.out.calm KD217)
        have V223 := hidden (V204.out.calm KD217)
        have V224 := hidden (V205.out.calm KD217)
        have V225 := hidden (V206.out.calm KD217)
        have V226 := hidden (V197.out.calm KD217)
        have V227 := hidden (V198.out.calm KD217)
        have V228 := hidden (V199.out.calm KD217)
        clear KD217 H200 V201 V202 V203 V204 V205 V206 V197 V198 V199
        generalize w196.drew = w218 at *
        clear SK216
        refine wpAnyH_tk (oi := ⟨_, _, _, _, _, _⟩) (v := ?_) 0 rfl (by kernel_rfl) (fun _ _ _ h => h) hHeld (by rfl) ?_ ?_
        rotate_left
        · (intro w' hSw; (try dsimp only at hSw); go_simp; (try with_reducible rfl))
        try simp only [Act.put, List.setIfInBounds_toArray, List.set_cons_zero, List.set_cons_succ]
        refine wpAnyH_tk (oi := ⟨_, _, _, _, _, _⟩) (v := ?_) 1 rfl (by kernel_rfl) (fun _ _ _ h => h) hHeld (by rfl) ?_ ?_
        rotate_left
        · (intro w' hSw; (try dsimp only at hSw); go_simp; (try with_reducible rfl))
        try simp only [Act.put, List.setIfInBounds_toArray, List.set_cons_zero, List.set_cons_succ]
        refine wpAnyH_tk (oi := ⟨_, _, _, _, _, _⟩) (v := ?_) 2 rfl (by kernel_rfl) (fun _ _ _ h => h) hHeld (by rfl) ?_ ?_
        rotate_left
        · (intro w' hSw; (try dsimp only at hSw); go_simp; (try with_reducible rfl))
        try simp only [Act.put, List.setIfInBounds_toArray, List.set_cons_zero, List.set_cons_succ]
        refine wpAnyH_tk (oi := ⟨_, _, _, _, _, _⟩) (v := ?_) 3 rfl (by kernel_rfl) (fun _ _ _ h => h) hHeld (by rfl) ?_ ?_
        rotate_left
        · (intro w' hSw; (try dsimp only at hSw); go_simp; (try with_reducible rfl))
        try simp only [Act.put, List.setIfInBounds_toArray, List.set_cons_zero, List.set_cons_succ]
        refine wpAnyH_tk (oi := ⟨_, _, _, _, _, _⟩) (v := ?_) 4 rfl (by kernel_rfl) (fun _ _ _ h => h) hHeld (by rfl) ?_ ?_
        rotate_left
        · (intro w' hSw; (try dsimp only at hSw); go_simp; (try with_reducible rfl))
        try simp only [Act.put, List.setIfInBounds_toArray, List.set_cons_zero, List.set_cons_succ]
        refine wpAnyH_tk (oi := ⟨_, _, _, _, _, _⟩) (v := ?_) 5 rfl (by kernel_rfl) (fun _ _ _ h => h) hHeld (by rfl) ?_ ?_
        rotate_left
        · (intro w' hSw; (try dsimp only at hSw); go_simp; (try with_reducible rfl))
        try simp only [Act.put, List.setIfInBounds_toArray, List.set_cons_zero, List.set_cons_succ]
        refine wpAnyH_tk (oi := ⟨_, _, _, _, _, _⟩) (v := ?_) 6 rfl (by kernel_rfl) (fun _ _ _ h => h) hHeld (by rfl) ?_ ?_
        rotate_left
        · (intro w' hSw; (try dsimp only at hSw); go_simp; (try with_reducible rfl))
        try simp only [Act.put, List.setIfInBounds_toArray, List.set_cons_zero, List.set_cons_succ]
        refine wpAnyH_tk (oi := ⟨_, _, _, _, _, _⟩) (v := ?_) 7 rfl (by kernel_rfl) (fun _ _ _ h => h) hHeld (by rfl) ?_ ?_
        rotate_left
        · (intro w' hSw; (try dsimp only at hSw); go_simp; (try with_reducible rfl))
        try simp only [Act.put, List.setIfInBounds_toArray, List.set_cons_zero, List.set_cons_succ]
        refine wpAnyH_tk (oi := ⟨_, _, _, _, _, _⟩) (v := ?_) 8 rfl (by kernel_rfl) (fun _ _ _ h => h) hHeld (by rfl) ?_ ?_
        rotate_left
        · (intro w' hSw; (try dsimp only at hSw); go_simp; (try with_reducible rfl))
        try simp only [Act.put, List.setIfInBounds_toArray, List.set_cons_zero, List.set_cons_succ]
        refine wpAnyH_tk (oi := ⟨_, _, _, _, _, _⟩) (v := ?_) 9 rfl (by kernel_rfl) (fun _ _ _ h => h) hHeld (by rfl) ?_ ?_
        rotate_left
        · (intro w' hSw; (try dsimp only at hSw); go_simp; (try with_reducible rfl))
        try simp only [Act.put, List.setIfInBounds_toArray, List.set_cons_zero, List.set_cons_succ]
        refine wpAnyH_tk (oi := ⟨_, _, _, _, _, _⟩) (v := ?_) 10 rfl (by kernel_rfl) (fun _ _ _ h => h) hHeld (by rfl) ?_ ?_
        rotate_left
        · (intro w' hSw; (try dsimp only at hSw); go_simp; (try with_reducible rfl))
        try simp only [Act.put, List.setIfInBounds_toArray, List.set_cons_zero, List.set_cons_succ]
        refine wpAnyH_tk (oi := ⟨_, _, _, _, _, _⟩) (v := ?_) 11 rfl (by kernel_rfl) (fun _ _ _ h => h) hHeld (by rfl) ?_ ?_
        rotate_left
        · (intro w' hSw; (try dsimp only at hSw); go_simp; (try with_reducible rfl))
        try simp only [Act.put, List.setIfInBounds_toArray, List.set_cons_zero, List.set_cons_succ]
        refine wpAnyH_tk (oi := ⟨_, _, _, _, _, _⟩) (v := ?_) 12 rfl (by kernel_rfl) (fun _ _ _ h => h) hHeld (by rfl) ?_ ?_
        rotate_left
        · (intro w' hSw; (try dsimp only at hSw); go_simp; (try with_reducible rfl))
        try simp only [Act.put, List.setIfInBounds_toArray, List.set_cons_zero, List.set_cons_succ]
        refine wpAnyH_tk (oi := ⟨_, _, _, _, _, _⟩) (v := ?_) 13 rfl (by kernel_rfl) (fun _ _ _ h => h) hHeld (by rfl) ?_ ?_
        rotate_left
        · (intro w' hSw; (try dsimp only at hSw); go_simp; (try with_reducible rfl))
        try simp only [Act.put, List.setIfInBounds_toArray, List.set_cons_zero, List.set_cons_succ]
        refine wpAnyH_tk (oi := ⟨_, _, _, _, _, _⟩) (v := ?_) 14 rfl (by kernel_rfl) (fun _ _ _ h => h) hHeld (by rfl) ?_ ?_
        rotate_left
        · (intro w' hSw; (try dsimp only at hSw); go_simp; (try with_reducible rfl))
        try simp only [Act.put, List.setIfInBounds_toArray, List.set_cons_zero, List.set_cons_succ]
        refine wpAnyH_tk (oi := ⟨_, _, _, _, _, _⟩) (v := ?_) 15 rfl (by kernel_rfl) (fun _ _ _ h => h) hHeld (by rfl) ?_ ?_
        rotate_left
        · (intro w' hSw; (try dsimp only at hSw); go_simp; (try with_reducible rfl))
        try simp only [Act.put, List.setIfInBounds_toArray, List.set_cons_zero, List.set_cons_succ]
        refine wpAnyH_tk (oi := ⟨_, _, _, _, _, _⟩) (v := ?_) 16 rfl (by kernel_rfl) (fun _ _ _ h => h) hHeld (by rfl) ?_ ?_
        rotate_left
        · (intro w' hSw; (try dsimp only at hSw); go_simp; (try with_reducible rfl))
        try simp only [Act.put, List.setIfInBounds_toArray, List.set_cons_zero, List.set_cons_succ]
        refine wpAnyH_tk (oi := ⟨_, _, _, _, _, _⟩) (v := ?_) 17 rfl (by kernel_rfl) (fun _ _ _ h => h) hHeld (by rfl) ?_ ?_
        rotate_left
        · (intro w' hSw; (try dsimp only at hSw); go_simp; (try with_reducible rfl))
        try simp only [Act.put, List.setIfInBounds_toArray, List.set_cons_zero, List.set_cons_succ]
        refine wpAnyH_tk (oi := ⟨_, _, _, _, _, _⟩) (v := ?_) 18 rfl (by kernel_rfl) (fun _ _ _ h => h) hHeld (by rfl) ?_ ?_
        rotate_left
        · (intro w' hSw; (try dsimp only at hSw); go_simp; (try with_reducible rfl))
        try simp only [Act.put, List.setIfInBounds_toArray, List.set_cons_zero, List.set_cons_succ]
        refine wpAnyH_tk (oi := ⟨_, _, _, _, _, _⟩) (v := ?_) 19 rfl (by kernel_rfl) (fun _ _ _ h => h) hHeld (by rfl) ?_ ?_
        rotate_left
        · (intro w' hSw; (try dsimp only at hSw); go_simp; (try with_reducible rfl))
        try simp only [Act.put, List.setIfInBounds_toArray, List.set_cons_zero, List.set_cons_succ]
        refine wpAnyH_tk (oi := ⟨_, _, _, _, _, _⟩) (v := ?_) 20 rfl (by kernel_rfl) (fun _ _ _ h => h) hHeld (by rfl) ?_ ?_
        rotate_left
        · (intro w' hSw; (try dsimp only at hSw); go_simp; (try with_reducible rfl))
        try simp only [Act.put, List.setIfInBounds_toArray, List.set_cons_zero, List.set_cons_succ]
        refine wpAnyH_tk (oi := ⟨_, _, _, _, _, _⟩) (v := ?_) 21 rfl (by kernel_rfl) (fun _ _ _ h => h) hHeld (by rfl) ?_ ?_
        rotate_left
        · (intro w' hSw; (try dsimp only at hSw); go_simp; (try with_reducible rfl))
        try simp only [Act.put, List.setIfInBounds_toArray, List.set_cons_zero, List.set_cons_succ]
        refine wpAnyH_tk (oi := ⟨_, _, _, _, _, _⟩) (v := ?_) 22 rfl (by kernel_rfl) (fun _ _ _ h => h) hHeld (by rfl) ?_ ?_
        rotate_left
        · (intro w' hSw; (try dsimp only at hSw); go_simp; (try with_reducible rfl))
        try simp only [Act.put, List.setIfInBounds_toArray, List.set_cons_zero, List.set_cons_succ]
        refine wpAnyH_tk (oi := ⟨_, _, _, _, _, _⟩) (v := ?_) 23 rfl (by kernel_rfl) (fun _ _ _ h => h) hHeld (by rfl) ?_ ?_
        rotate_left
        · (intro w' hSw; (try dsimp only at hSw); go_simp; (try with_reducible rfl))
        try simp only [Act.put, List.setIfInBounds_toArray, List.set_cons_zero, List.set_cons_succ]
        refine wpAnyH_tk (oi := ⟨_, _, _, _, _, _⟩) (v := ?_) 24 rfl (by kernel_rfl) (fun _ _ _ h => h) hHeld (by rfl) ?_ ?_
        rotate_left
        · (intro w' hSw; (try dsimp only at hSw); go_simp; (try with_reducible rfl))
        try simp only [Act.put, List.setIfInBounds_toArray, List.set_cons_zero, List.set_cons_succ]
        refine wpAnyH_tk (oi := ⟨_, _, _, _, _, _⟩) (v := ?_) 25 rfl (by kernel_rfl) (fun _ _ _ h => h) hHeld (by rfl) ?_ ?_
        rotate_left
        · (intro w' hSw; (try dsimp only at hSw); go_simp; (try with_reducible rfl))
        try simp only [Act.put, List.setIfInBounds_toArray, List.set_cons_zero, List.set_cons_succ]
        refine wpAnyH_tk (oi := ⟨_, _, _, _, _, _⟩) (v := ?_) 26 rfl (by kernel_rfl) (fun _ _ _ h => h) hHeld (by rfl) ?_ ?_
        rotate_left
        · (intro w' hSw; (try dsimp only at hSw); go_simp; (try with_reducible rfl))
        try simp only [Act.put, List.setIfInBounds_toArray, List.set_cons_zero, List.set_cons_succ]
        refine wpAnyH_tk (oi := ⟨_, _, _, _, _, _⟩) (v := ?_) 27 rfl (by kernel_rfl) (fun _ _ _ h => h) hHeld (by rfl) ?_ ?_
        rotate_left
        · (intro w' hSw; (try dsimp only at hSw); go_simp; (try with_reducible rfl))
        try simp only [Act.put, List.setIfInBounds_toArray, List.set_cons_zero, List.set_cons_succ]
        refine wpAnyH_tk (oi := ⟨_, _, _, _, _, _⟩) (v := ?_) 28 rfl (by kernel_rfl) (fun _ _ _ h => h) hHeld (by rfl) ?_ ?_
        rotate_left
        · (intro w' hSw; (try dsimp only at hSw); go_simp; (try with_reducible rfl))
        try simp only [Act.put, List.setIfInBounds_toArray, List.set_cons_zero, List.set_cons_succ]
        refine wpAnyH_tk (oi := ⟨_, _, _, _, _, _⟩) (v := ?_) 29 rfl (by kernel_rfl) (fun _ _ _ h => h) hHeld (by rfl) ?_ ?_
        rotate_left
        · (intro w' hSw; (try dsimp only at hSw); go_simp; (try with_reducible rfl))
        try simp only [Act.put, List.setIfInBounds_toArray, List.set_cons_zero, List.set_cons_succ]
        refine wpAnyH_tk (oi := ⟨_, _, _, _, _, _⟩) (v := ?_) 31 rfl (by kernel_rfl) (fun _ _ _ h => h) hHeld (by rfl) ?_ ?_
        rotate_left
        · (intro w' hSw; (try dsimp only at hSw); go_simp; (try with_reducible rfl))
        try simp only [Act.put, List.setIfInBounds_toArray, List.set_cons_zero, List.set_cons_succ]
        refine wpAnyH_ready (rs := [30]) (by kernel_rfl) (by simp) ?_
        refine AllReadyH.cons (o := ⟨_, _, _, _, _, _⟩) rfl (fun K hK => ?_) AllReadyH.nil
        go_simp
        have C229 := hidden (value_Str ⟨#[120]⟩ w218)
        (try unfold V.val at C229)
        (try unfold V.null at C229)
        (try dsimp only [rV, iV] at C229)
        (first | (go_at_call 34; refine C229.out.mono ?_))
        rintro e w230 ⟨rfl, hK1⟩
        have H231 := hidden (H219.out.calm hK1)
        have V232 := hidden (V220.out.calm hK1)
        have V233 := hidden (V221.out.calm hK1)
        have V234 := hidden (V222.out.calm hK1)
        have V235 := hidden (V223.out.calm hK1)
        have V236 := hidden (V224.out.calm hK1)
        have V237 := hidden (V225.out.calm hK1)
        have V238 := hidden (V226.out.calm hK1)
        have V239 := hidden (V227.out.calm hK1)
        have V240 := hidden (V228.out.calm hK1)
        clear C229 hK1 H219 V220 V221 V222 V223 V224 V225 V226 V227 V228
        (try go_wp2_with fail)
        refine hK.out _ _ ?_ (fun hH2 => ?_)
        · ((try dsimp only); (first | done | exact (by have c0 := (V232.out).cells; have c1 := (V233.out).cells; have c2 := (V234.out).cells; have c3 := (V235.out).cells; have c4 := (V237.out).cells; have c5 := (V238.out).cells; have c6 := (V239.out).cells; have c7 := (V240.out).cells; exact ⟨c0.1, c0.2.1, c0.2.2.1, c1.1, c1.2.1, c1.2.2.1, c2.1, c2.2.1, c2.2.2.1, c3.1, c3.2.1, c3.2.2.1, c4.1, c4.2.1, c4.2.2.1, c5.1, c5.2.1, c5.2.2.1, c6.1, c6.2.1, c6.2.2.1, c7.1, c7.2.1, c7.2.2.1⟩)))
        clear hK K hHeld
        have hHeld := hH2
        clear hH2
        try simp only [Act.put, List.setIfInBounds_toArray, List.set_cons_zero, List.set_cons_succ]
        refine wpAnyH_ready (rs := [32]) (by kernel_rfl) (by simp) ?_
        refine AllReadyH.cons (o := ⟨_, _, _, _, _, _⟩) rfl (fun K hK => ?_) AllReadyH.nil
        go_simp
        have C241 := hidden (slot_Set_tabR H231.out.heap N69.out (.inl rfl) rfl (by decide) ⟨3, 0, ⟨#[120]⟩⟩ ⟨2, 1, ⟨#[]⟩⟩ (by decide) (e0 := 3) (by simp [getR, V.null]))
        (try unfold V.val at C241)
        (try unfold V.null at C241)
        (try dsimp only [rV, iV] at C241)
        (first | (go_at_call 41; refine C241.out.mono ?_))
        rintro e w242 ⟨F243, rfl, g1, g2, g3⟩
        have N245 := hidden (show (tabH HH68 a pa ({ tableCl ta [] 0 with vals := [⟨4, b, ⟨#[]⟩⟩] }) ta (putL [] ⟨3, 0, ⟨#[120]⟩⟩ ⟨2, 1, ⟨#[]⟩⟩, 0))[a]? = some (some (pa, { tableCl ta [] 0 with vals := [⟨4, b, ⟨#[]⟩⟩] })) from tabH_at N69.out)
        have N246 := hidden (show (tabH HH68 a pa ({ tableCl ta [] 0 with vals := [⟨4, b, ⟨#[]⟩⟩] }) ta (putL [] ⟨3, 0, ⟨#[120]⟩⟩ ⟨2, 1, ⟨#[]⟩⟩, 0))[b]? = some (some (pb, tableCl tb [⟨⟨3, 0, ⟨#[120]⟩⟩, ⟨2, 1, ⟨#[]⟩⟩, 1, false⟩] 1)) from set_old N70.out (Ne.symm E26.out))
        have H247 := hidden (show Hd w hb F243 (tabH HH68 a pa ({ tableCl ta [] 0 with vals := [⟨4, b, ⟨#[]⟩⟩] }) ta (putL [] ⟨3, 0, ⟨#[120]⟩⟩ ⟨2, 1, ⟨#[]⟩⟩, 0)) st24 w242 from H231.out.turn2 N69.out g1 g2 g3)
        have V248 := hidden (V232.out.step g2 g3)
        have V249 := hidden (V233.out.step g2 g3)
        have V250 := hidden (V234.out.step g2 g3)
        have V251 := hidden (V235.out.step g2 g3)
        have V252 := hidden (V236.out.step g2 g3)
        have V253 := hidden (V237.out.step g2 g3)
        have V254 := hidden (V238.out.step g2 g3)
        have V255 := hidden (V239.out.step g2 g3)
        have V256 := hidden (V240.out.step g2 g3)
        clear C241 g1 g2 g3 N69 N70 H231 V232 V233 V234 V235 V236 V237 V238 V239 V240
        generalize tabH HH68 a pa ({ tableCl ta [] 0 with vals := [⟨4, b, ⟨#[]⟩⟩] }) ta (putL [] ⟨3, 0, ⟨#[120]⟩⟩ ⟨2, 1, ⟨#[]⟩⟩, 0) = HH244 at *
        (try go_wp2_with fail)
        refine hK.out _ _ ?_ (fun hH2 => ?_)
        · ((try dsimp only); (first | done | exact (by have c0 := (V248.out).cells; have c1 := (V249.out).cells; have c2 := (V250.out).cells; have c3 := (V251.out).cells; have c4 := (V253.out).cells; have c5 := (V254.out).cells; have c6 := (V255.out).cells; have c7 := (V256.out).cells; exact ⟨c0.1, c0.2.1, c0.2.2.1, c1.1, c1.2.1, c1.2.2.1, c2.1, c2.2.1, c2.2.2.1, c3.1, c3.2.1, c3.2.2.1, c4.1, c4.2.1, c4.2.2.1, c5.1, c5.2.1, c5.2.2.1, c6.1, c6.2.1, c6.2.2.1, c7.1, c7.2.1, c7.2.2.1⟩)))
        clear hK K hHeld
        have hHeld := hH2
        clear hH2
        try simp only [Act.put, List.setIfInBounds_toArray, List.set_cons_zero, List.set_cons_succ]
        refine wpAnyH_tk (oi := ⟨_, _, _, _, _, _⟩) (v := ?_) 33 rfl (by kernel_rfl) (fun _ _ _ h => h) hHeld (by rfl) ?_ ?_
        rotate_left
        · (intro w' hSw; (try dsimp only at hSw); go_simp; (try with_reducible rfl))
        try simp only [Act.put, List.setIfInBounds_toArray, List.set_cons_zero, List.set_cons_succ]
        refine wpAnyH_tk (oi := ⟨_, _, _, _, _, _⟩) (v := ?_) 34 rfl (by kernel_rfl) (fun _ _ _ h => h) hHeld (by rfl) ?_ ?_
        rotate_left
        · (intro w' hSw; (try dsimp only at hSw); go_simp; (try with_reducible rfl))
        try simp only [Act.put, List.setIfInBounds_toArray, List.set_cons_zero, List.set_cons_succ]
        refine wpAnyH_tk (oi := ⟨_, _, _, _, _, _⟩) (v := ?_) 35 rfl (by kernel_rfl) (fun _ _ _ h => h) hHeld (by rfl) ?_ ?_
        rotate_left
        · (intro w' hSw; (try dsimp only at hSw); go_simp; (try with_reducible rfl))
        try simp only [Act.put, List.setIfInBounds_toArray, List.set_cons_zero, List.set_cons_succ]
        refine wpAnyH_tk (oi := ⟨_, _, _, _, _, _⟩) (v := ?_) 36 rfl (by kernel_rfl) (fun _ _ _ h => h) hHeld (by rfl) ?_ ?_
        rotate_left
        · (intro w' hSw; (try dsimp only at hSw); go_simp; (try with_reducible rfl))
        try simp only [Act.put, List.setIfInBounds_toArray, List.set_cons_zero, List.set_cons_succ]
        refine wpAnyH_tk (oi := ⟨_, _, _, _, _, _⟩) (v := ?_) 37 rfl (by kernel_rfl) (fun _ _ _ h => h) hHeld (by rfl) ?_ ?_
        rotate_left
        · (intro w' hSw; (try dsimp only at hSw); go_simp; (try with_reducible rfl))
        try simp only [Act.put, List.setIfInBounds_toArray, List.set_cons_zero, List.set_cons_succ]
        refine wpAnyH_ready (rs := [38]) (by kernel_rfl) (by simp) ?_
        refine AllReadyH.cons (o := ⟨_, _, _, _, _, _⟩) rfl (fun K hK => ?_) AllReadyH.nil
        go_simp
        have C257 := hidden (value_Str ⟨#[120]⟩ w242)
        (try unfold V.val at C257)
        (try unfold V.null at C257)
        (try dsimp only [rV, iV] at C257)
        (first | (go_at_call 34; refine C257.out.mono ?_))
        rintro e w258 ⟨rfl, hK1⟩
        have H259 := hidden (H247.out.calm hK1)
        have V260 := hidden (V248.out.calm hK1)
        have V261 := hidden (V249.out.calm hK1)
        have V262 := hidden (V250.out.calm hK1)
        have V263 := hidden (V251.out.calm hK1)
        have V264 := hidden (V252.out.calm hK1)
        have V265 := hidden (V253.out.calm hK1)
        have V266 := hidden (V254.out.calm hK1)
        have V267 := hidden (V255.out.calm hK1)
        have V268 := hidden (V256.out.calm hK1)
        clear C257 hK1 H247 V248 V249 V250 V251 V252 V253 V254 V255 V256
        (try go_wp2_with fail)
        refine hK.out _ _ ?_ (fun hH2 => ?_)
        · ((try dsimp only); (first | done | exact (by have c0 := (V260.out).cells; have c1 := (V261.out).cells; have c2 := (V262.out).cells; have c3 := (V263.out).cells; have c4 := (V265.out).cells; have c5 := (V266.out).cells; have c6 := (V267.out).cells; have c7 := (V268.out).cells; exact ⟨c0.1, c0.2.1, c0.2.2.1, c1.1, c1.2.1, c1.2.2.1, c2.1, c2.2.1, c2.2.2.1, c3.1, c3.2.1, c3.2.2.1, c4.1, c4.2.1, c4.2.2.1, c5.1, c5.2.1, c5.2.2.1, c6.1, c6.2.1, c6.2.2.1, c7.1, c7.2.1, c7.2.2.1⟩)))
        clear hK K hHeld
        have hHeld := hH2
        clear hH2
        try simp only [Act.put, List.setIfInBounds_toArray, List.set_cons_zero, List.set_cons_succ]
        refine wpAnyH_ready (rs := [39]) (by kernel_rfl) (by simp) ?_
        refine AllReadyH.cons (o := ⟨_, _, _, _, _, _⟩) rfl (fun K hK => ?_) AllReadyH.nil
        go_simp
        have C269 := hidden (slot_Has (w := w258) (hb := hb) ⟨4, a, ⟨#[]⟩⟩ ⟨3, 0, ⟨#[120]⟩⟩ ⟨2, 1, ⟨#[]⟩⟩ 0 (fun W2 hk => slot_Get_tableR (H259.out.calm hk).heap N245.out rfl (.cons N245.out rfl rfl (by decide) rfl (.cons N246.out rfl rfl (by decide) rfl (.nil rfl))) (by simp) ⟨3, 0, ⟨#[120]⟩⟩ (by decide) (x := ⟨2, 1, ⟨#[]⟩⟩) (e0 := 0) (by simp [tabR, getR])))
        (try unfold V.val at C269)
        (try unfold V.null at C269)
        (try dsimp only [rV, iV] at C269)
        (first | (go_at_call 44; refine C269.out.mono ?_))
        rintro e w270 ⟨rfl, hK1⟩
        have H271 := hidden (H259.out.calm hK1)
        have V272 := hidden (V260.out.calm hK1)
        have V273 := hidden (V261.out.calm hK1)
        have V274 := hidden (V262.out.calm hK1)
        have V275 := hidden (V263.out.calm hK1)
        have V276 := hidden (V264.out.calm hK1)
        have V277 := hidden (V265.out.calm hK1)
        have V278 := hidden (V266.out.calm hK1)
        have V279 := hidden (V267.out.calm hK1)
        have V280 := hidden (V268.out.calm hK1)
        clear C269 hK1 H259 V260 V261 V262 V263 V264 V265 V266 V267 V268
        (try go_wp2_with fail)
        refine hK.out _ _ ?_ (fun hH2 => ?_)
        · ((try dsimp only); (first | done | exact (by have c0 := (V272.out).cells; have c1 := (V273.out).cells; have c2 := (V274.out).cells; have c3 := (V275.out).cells; have c4 := (V277.out).cells; have c5 := (V278.out).cells; have c6 := (V279.out).cells; have c7 := (V280.out).cells; exact ⟨c0.1, c0.2.1, c0.2.2.1, c1.1, c1.2.1, c1.2.2.1, c2.1, c2.2.1, c2.2.2.1, c3.1, c3.2.1, c3.2.2.1, c4.1, c4.2.1, c4.2.2.1, c5.1, c5.2.1, c5.2.2.1, c6.1, c6.2.1, c6.2.2.1, c7.1, c7.2.1, c7.2.2.1⟩)))
        clear hK K hHeld
        have hHeld := hH2
        clear hH2
        try simp only [Act.put, List.setIfInBounds_toArray, List.set_cons_zero, List.set_cons_succ]
        refine wpAnyH_tk (oi := ⟨_, _, _, _, _, _⟩) (v := ?_) 40 rfl (by kernel_rfl) (fun _ _ _ h => h) hHeld (by rfl) ?_ ?_
        rotate_left
        · (intro w' hSw; (try dsimp only at hSw); go_simp; (try with_reducible rfl))
        try simp only [Act.put, List.setIfInBounds_toArray, List.set_cons_zero, List.set_cons_succ]
        refine wpAnyH_tk (oi := ⟨_, _, _, _, _, _⟩) (v := ?_) 41 rfl (by kernel_rfl) (fun _ _ _ h => h) hHeld (by rfl) ?_ ?_
        rotate_left
        · (intro w' hSw; (try dsimp only at hSw); go_simp; (try with_reducible rfl))
        try simp only [Act.put, List.setIfInBounds_toArray, List.set_cons_zero, List.set_cons_succ]
        refine wpAnyH_tk (oi := ⟨_, _, _, _, _, _⟩) (v := ?_) 42 rfl (by kernel_rfl) (fun _ _ _ h => h) hHeld (by rfl) ?_ ?_
        rotate_left
        · (intro w' hSw; (try dsimp only at hSw); go_simp; (try with_reducible rfl))
        try simp only [Act.put, List.setIfInBounds_toArray, List.set_cons_zero, List.set_cons_succ]
        refine wpAnyH_tk (oi := ⟨_, _, _, _, _, _⟩) (v := ?_) 43 rfl (by kernel_rfl) (fun _ _ _ h => h) hHeld (by rfl) ?_ ?_
        rotate_left
        · (intro w' hSw; (try dsimp only at hSw); go_simp; (try with_reducible rfl))
        try simp only [Act.put, List.setIfInBounds_toArray, List.set_cons_zero, List.set_cons_succ]
        refine wpAnyH_tk (oi := ⟨_, _, _, _, _, _⟩) (v := ?_) 44 rfl (by kernel_rfl) (fun _ _ _ h => h) hHeld (by rfl) ?_ ?_
        rotate_left
        · (intro w' hSw; (try dsimp only at hSw); go_simp; (try with_reducible rfl))
        try simp only [Act.put, List.setIfInBounds_toArray, List.set_cons_zero, List.set_cons_succ]
        refine wpAnyH_tk (oi := ⟨_, _, _, _, _, _⟩) (v := ?_) 45 rfl (by kernel_rfl) (fun _ _ _ h => h) hHeld (by rfl) ?_ ?_
        rotate_left
        · (intro w' hSw; (try dsimp only at hSw); go_simp; (try with_reducible rfl))
        try simp only [Act.put, List.setIfInBounds_toArray, List.set_cons_zero, List.set_cons_succ]
        refine wpAnyH_tk (oi := ⟨_, _, _, _, _, _⟩) (v := ?_) 46 rfl (by kernel_rfl) (fun _ _ _ h => h) hHeld (by rfl) ?_ ?_
        rotate_left
        · (intro w' hSw; (try dsimp only at hSw); go_simp; (try with_reducible rfl))
        try simp only [Act.put, List.setIfInBounds_toArray, List.set_cons_zero, List.set_cons_succ]
        refine wpAnyH_tk (oi := ⟨_, _, _, _, _, _⟩) (v := ?_) 47 rfl (by kernel_rfl) (fun _ _ _ h => h) hHeld (by rfl) ?_ ?_
        rotate_left
        · (intro w' hSw; (try dsimp only at hSw); go_simp; (try with_reducible rfl))
        try simp only [Act.put, List.setIfInBounds_toArray, List.set_cons_zero, List.set_cons_succ]
        refine wpAnyH_tk (oi := ⟨_, _, _, _, _, _⟩) (v := ?_) 48 rfl (by kernel_rfl) (fun _ _ _ h => h) hHeld (by rfl) ?_ ?_
        rotate_left
        · (intro w' hSw; (try dsimp only at hSw); go_simp; (try with_reducible rfl))
        try simp only [Act.put, List.setIfInBounds_toArray, List.set_cons_zero, List.set_cons_succ]
        refine wpAnyH_tk (oi := ⟨_, _, _, _, _, _⟩) (v := ?_) 49 rfl (by kernel_rfl) (fun _ _ _ h => h) hHeld (by rfl) ?_ ?_
        rotate_left
        · (intro w' hSw; (try dsimp only at hSw); go_simp; (try with_reducible rfl))
        try simp only [Act.put, List.setIfInBounds_toArray, List.set_cons_zero, List.set_cons_succ]
        refine wpAnyH_tk (oi := ⟨_, _, _, _, _, _⟩) (v := ?_) 50 rfl (by kernel_rfl) (fun _ _ _ h => h) hHeld (by rfl) ?_ ?_
        rotate_left
        · (intro w' hSw; (try dsimp only at hSw); go_simp; (try with_reducible rfl))
        try simp only [Act.put, List.setIfInBounds_toArray, List.set_cons_zero, List.set_cons_succ]
        refine wpAnyH_ready (rs := [51]) (by kernel_rfl) (by simp) ?_
        refine AllReadyH.cons (o := ⟨_, _, _, _, _, _⟩) rfl (fun K hK => ?_) AllReadyH.nil
        go_simp
        have C281 := hidden (value_Str ⟨#[120]⟩ w270)
        (try unfold V.val at C281)
        (try unfold V.null at C281)
        (try dsimp only [rV, iV] at C281)
        (first | (go_at_call 34; refine C281.out.mono ?_))
        rintro e w282 ⟨rfl, hK1⟩
        have H283 := hidden (H271.out.calm hK1)
        have V284 := hidden (V272.out.calm hK1)
        have V285 := hidden (V273.out.calm hK1)
        have V286 := hidden (V274.out.calm hK1)
        have V287 := hidden (V275.out.calm hK1)
        have V288 := hidden (V276.out.calm hK1)
        have V289 := hidden (V277.out.calm hK1)
        have V290 := hidden (V278.out.calm hK1)
        have V291 := hidden (V279.out.calm hK1)
        have V292 := hidden (V280.out.calm hK1)
        clear C281 hK1 H271 V272 V273 V274 V275 V276 V277 V278 V279 V280
        (try go_wp2_with fail)
        refine hK.out _ _ ?_ (fun hH2 => ?_)
        · ((try dsimp only); (first | done | exact (by have c0 := (V284.out).cells; have c1 := (V285.out).cells; have c2 := (V286.out).cells; have c3 := (V287.out).cells; have c4 := (V289.out).cells; have c5 := (V290.out).cells; have c6 := (V291.out).cells; have c7 := (V292.out).cells; exact ⟨c0.1, c0.2.1, c0.2.2.1, c1.1, c1.2.1, c1.2.2.1, c2.1, c2.2.1, c2.2.2.1, c3.1, c3.2.1, c3.2.2.1, c4.1, c4.2.1, c4.2.2.1, c5.1, c5.2.1, c5.2.2.1, c6.1, c6.2.1, c6.2.2.1, c7.1, c7.2.1, c7.2.2.1⟩)))
        clear hK K hHeld
        have hHeld := hH2
        clear hH2
        try simp only [Act.put, List.setIfInBounds_toArray, List.set_cons_zero, List.set_cons_succ]
        refine wpAnyH_tk (oi := ⟨_, _, _, _, _, _⟩) (v := ?_) 52 rfl (by kernel_rfl) (fun _ _ _ h => h) hHeld (by rfl) ?_ ?_
        rotate_left
        · (intro w' hSw; (try dsimp only at hSw); go_simp; (try with_reducible rfl))
        try simp only [Act.put, List.setIfInBounds_toArray, List.set_cons_zero, List.set_cons_succ]
        refine wpAnyH_tk (oi := ⟨_, _, _, _, _, _⟩) (v := ?_) 53 rfl (by kernel_rfl) (fun _ _ _ h => h) hHeld (by rfl) ?_ ?_
        rotate_left
        · (intro w' hSw; (try dsimp only at hSw); go_simp; (try with_reducible rfl))
        try simp only [Act.put, List.setIfInBounds_toArray, List.set_cons_zero, List.set_cons_succ]
        refine wpAnyH_tk (oi := ⟨_, _, _, _, _, _⟩) (v := ?_) 54 rfl (by kernel_rfl) (fun _ _ _ h => h) hHeld (by rfl) ?_ ?_
        rotate_left
        · (intro w' hSw; (try dsimp only at hSw); go_simp; (try with_reducible rfl))
        try simp only [Act.put, List.setIfInBounds_toArray, List.set_cons_zero, List.set_cons_succ]
        refine wpAnyH_tk (oi := ⟨_, _, _, _, _, _⟩) (v := ?_) 55 rfl (by kernel_rfl) (fun _ _ _ h => h) hHeld (by rfl) ?_ ?_
        rotate_left
        · (intro w' hSw; (try dsimp only at hSw); go_simp; (try with_reducible rfl))
        try simp only [Act.put, List.setIfInBounds_toArray, List.set_cons_zero, List.set_cons_succ]
        refine wpAnyH_tk (oi := ⟨_, _, _, _, _, _⟩) (v := ?_) 56 rfl (by kernel_rfl) (fun _ _ _ h => h) hHeld (by rfl) ?_ ?_
        rotate_left
        · (intro w' hSw; (try dsimp only at hSw); go_simp; (try with_reducible rfl))
        try simp only [Act.put, List.setIfInBounds_toArray, List.set_cons_zero, List.set_cons_succ]
        refine wpAnyH_tk (oi := ⟨_, _, _, _, _, _⟩) (v := ?_) 57 rfl (by kernel_rfl) (fun _ _ _ h => h) hHeld (by rfl) ?_ ?_
        rotate_left
        · (intro w' hSw; (try dsimp only at hSw); go_simp; (try with_reducible rfl))
        try simp only [Act.put, List.setIfInBounds_toArray, List.set_cons_zero, List.set_cons_succ]
        refine wpAnyH_tk (oi := ⟨_, _, _, _, _, _⟩) (v := ?_) 58 rfl (by kernel_rfl) (fun _ _ _ h => h) hHeld (by rfl) ?_ ?_
        rotate_left
        · (intro w' hSw; (try dsimp only at hSw); go_simp; (try with_reducible rfl))
        try simp only [Act.put, List.setIfInBounds_toArray, List.set_cons_zero, List.set_cons_succ]
        refine wpAnyH_tk (oi := ⟨_, _, _, _, _, _⟩) (v := ?_) 59 rfl (by kernel_rfl) (fun _ _ _ h => h) hHeld (by rfl) ?_ ?_
        rotate_left
        · (intro w' hSw; (try dsimp only at hSw); go_simp; (try with_reducible rfl))
        try simp only [Act.put, List.setIfInBounds_toArray, List.set_cons_zero, List.set_cons_succ]
        refine wpAnyH_tk (oi := ⟨_, _, _, _, _, _⟩) (v := ?_) 60 rfl (by kernel_rfl) (fun _ _ _ h => h) hHeld (by rfl) ?_ ?_
        rotate_left
        · (intro w' hSw; (try dsimp only at hSw); go_simp; (try with_reducible rfl))
        try simp only [Act.put, List.setIfInBounds_toArray, List.set_cons_zero, List.set_cons_succ]
        refine wpAnyH_tk (oi := ⟨_, _, _, _, _, _⟩) (v := ?_) 61 rfl (by kernel_rfl) (fun _ _ _ h => h) hHeld (by rfl) ?_ ?_
        rotate_left
        · (intro w' hSw; (try dsimp only at hSw); go_simp; (try with_reducible rfl))
        try simp only [Act.put, List.setIfInBounds_toArray, List.set_cons_zero, List.set_cons_succ]
        refine wpAnyH_done (by kernel_rfl) ?_ _
        refine NoPanic.normal ?_
        clear hHeld
        (try go_wp2_with fail)
        exact hR.out _ _ ⟨rfl, H283.out.K.below (Nat.le_refl _) (fun _ h => h)⟩
end Go.Proofs.Ytfdfjogoiagnkaa
namespace Go.Proofs.Ytfdfjogoiagnkaa
open Go.RowKit Go.Maps Go.MapKept
open Go.ChangeMaps (setBlock)
set_option maxRecDepth 100000

section
variable {κ β : Type} [DecidableEq κ]
def mget (M : List (κ × β)) (k : κ) : Option β := (M.find? (fun p => decide (p.1 = k))).map (·.2)
def mhas (M : List (κ × β)) (k : κ) : Bool := M.any (fun p => decide (p.1 = k))
def mput (M : List (κ × β)) (k : κ) (v : β) : List (κ × β) := if mhas M k then M.map (fun p => if p.1 = k then (k, v) else p) else M ++ [(k, v)]
def mdel (M : List (κ × β)) (k : κ) : List (κ × β) := M.filter (fun p => decide (p.1 ≠ k))
variable {M : List (κ × β)} {k j : κ} {v : β}
theorem mhas_iff : mhas M k = true ↔ ∃ p ∈ M, p.1 = k := by simp [mhas]
theorem mget_none (h : mhas M k = false) : mget M k = none := by
  simp only [mget, Option.map_eq_none_iff, List.find?_eq_none]
  intro p hp e
  have := mhas_iff.2 ⟨p, hp, by simpa using e⟩
  rw [h] at this; cases this
theorem mget_mem {p : κ × β} (hn : (M.map (·.1)).Nodup) (hp : p ∈ M) : mget M p.1 = some p.2 := by
  unfold mget
  induction M with
  | nil => simp at hp
  | cons q r ih =>
    rw [List.map_cons, List.nodup_cons] at hn
    rcases List.mem_cons.1 hp with rfl | hp
    · simp
    · have hne : q.1 ≠ p.1 := fun e => hn.1 (e ▸ List.mem_map_of_mem hp)
      rw [List.find?_cons_of_neg (by simpa using hne)]
      exact ih hn.2 hp
theorem mget_put_other (hne : j ≠ k) : mget (mput M k v) j = mget M j := by
  unfold mput mget
  split
  · rw [List.find?_map]
    have h1 : M.find? ((fun q : κ × β => decide (q.1 = j)) ∘ fun p => if p.1 = k then (k, v) else p) = M.find? (fun q => decide (q.1 = j)) := by
      congr 1; funext q; simp only [Function.comp]; split
      · rename_i h; simp [h, Ne.symm hne]
      · rfl
    rw [h1]
    cases hq : M.find? (fun q : κ × β => decide (q.1 = j)) with
    | none => rfl
    | some q =>
      have := List.find?_some hq
      simp only [decide_eq_true_eq] at this
      simp [this, hne]
  · rw [List.find?_append]
    cases hq : M.find? (fun q : κ × β => decide (q.1 = j)) with
    | none => simp [Ne.symm hne]
    | some q => simp
end

theorem setBlock_keeps (w : World) (b : Nat) (o : Obj) : Keeps (fun k => k = b) w (setBlock w b o) :=
  ⟨rfl, rfl, rfl, by simp [setBlock], fun k _ hn => by simp only [setBlock]; rw [Array.getElem?_setIfInBounds_ne (Ne.symm hn)]⟩
theorem setBlock_at {w : World} {b : Nat} {o0 : Obj} (hb : w.heap[b]? = some o0) (o : Obj) : (setBlock w b o).heap[b]? = some o := by
  have := blk_lt hb
  simp only [setBlock]
  rw [Array.getElem?_setIfInBounds_self_of_lt this]
structure Ks (κ : Type) (P : Program) (k : TypeId) (enc : κ → Value) (ok : κ → Prop) : Prop where
  law : Keyed P k
  reads : ∀ x, ok x → ∃ l, keyOf P k (enc x) = some l
  inj : ∀ x y, enc x = enc y → x = y
structure MapX {κ β : Type} (enc : κ → Value) (ok : κ → Prop) (den : β → Value) (es : Array MapEntry) (clock : Nat) (M : List (κ × β)) : Prop where
  here : es.toList.map (fun e => (e.key, e.val)) = M.map (fun p => (enc p.1, den p.2))
  st : Stamped es clock
  ok : ∀ p ∈ M, ok p.1
def IsMap {κ β : Type} (enc : κ → Value) (ok : κ → Prop) (den : β → Value) (w : World) (b : Nat) (M : List (κ × β)) : Prop := ∃ es clock, w.heap[b]? = some (.map es clock) ∧ MapX enc ok den es clock M
section
variable {κ β : Type} {P : Program} {kt et t : TypeId} {enc : κ → Value} {ok : κ → Prop} {den : β → Value} {w : World} {b : Nat} {M : List (κ × β)} {es : Array MapEntry} {clock : Nat}
theorem IsMap.lt (h : IsMap enc ok den w b M) : b < w.heap.size := by obtain ⟨es, clock, hb, -⟩ := h; exact blk_lt hb
theorem IsMap.keeps {S : Nat → Prop} {w1 : World} (h : IsMap enc ok den w b M) (hk : Keeps S w w1) (hn : ¬ S b) : IsMap enc ok den w1 b M := by
  obtain ⟨es, clock, hb, hx⟩ := h
  exact ⟨es, clock, hk.heap hb hn, hx⟩
theorem IsMap.new (w : World) : IsMap enc ok den (w.alloc (.map #[] 0)) w.heap.size ([] : List (κ × β)) := ⟨#[], 0, blk_new w _, by simp, stamped_empty 0, by simp⟩
theorem MapX.len (h : MapX enc ok den es clock M) : es.size = M.length := by
  have := congrArg List.length h.here
  simpa using this
theorem MapX.at_ (h : MapX enc ok den es clock M) (j : Nat) {e : MapEntry} (he : es.toList[j]? = some e) : ∃ p, M[j]? = some p ∧ e.key = enc p.1 ∧ e.val = den p.2 := by
  have h1 := congrArg (fun l => l[j]?) h.here
  simp only [List.getElem?_map, he, Option.map_some] at h1
  cases hp : M[j]? with
  | none => rw [hp] at h1; cases h1
  | some p =>
    rw [hp] at h1
    simp only [Option.map_some, Option.some.injEq, Prod.mk.injEq] at h1
    exact ⟨p, rfl, h1.1, h1.2⟩
theorem MapX.of (h : MapX enc ok den es clock M) {p : κ × β} (hp : p ∈ M) : ∃ e ∈ es.toList, e.key = enc p.1 ∧ e.val = den p.2 := by
  have h1 : (enc p.1, den p.2) ∈ es.toList.map (fun e => (e.key, e.val)) := by rw [h.here]; exact List.mem_map.2 ⟨p, hp, rfl⟩
  obtain ⟨e, he, e1⟩ := List.mem_map.1 h1
  simp only [Prod.mk.injEq] at e1
  exact ⟨e, he, e1⟩
theorem MapX.keys (h : MapX enc ok den es clock M) : es.toList.map (·.key) = M.map (fun p => enc p.1) := by
  have h1 := congrArg (List.map Prod.fst) h.here
  rw [List.map_map, List.map_map] at h1
  exact h1
theorem MapX.nodup (h : MapX enc ok den es clock M) : (M.map (·.1)).Nodup := by
  have h1 := h.st.2.2
  rw [h.keys] at h1
  have h2 : (M.map (fun p => enc p.1)) = (M.map (·.1)).map enc := by simp
  rw [h2] at h1
  unfold List.Nodup at h1 ⊢
  rw [List.pairwise_map] at h1
  exact h1.imp fun h e => h (by rw [e])
theorem IsMap.nodup (h : IsMap enc ok den w b M) : (M.map (·.1)).Nodup := by obtain ⟨es, clock, hb, hx⟩ := h; exact hx.nodup
theorem IsMap.len (h : IsMap enc ok den w b M) (ht : P.underlying t = some (.map kt et)) (ty : TypeId) : (Builtin.len_ #[t] ty #[.map (some b)]).run P w = .ok (.int .i64 M.length) w := by
  obtain ⟨es, clock, hb, hx⟩ := h
  rw [← hx.len]
  simp [Builtin.len_, run_underlying ht, MapKept.run_getObj_map hb, Result.andThen, goInt]
variable [DecidableEq κ]
theorem MapX.find (h : MapX enc ok den es clock M) (K : Ks κ P kt enc ok) {x : κ} (hx : ok x) (w : World) :
    ((Instr.findKey kt (enc x) es.toList).run P w = .ok none w ∧ mhas M x = false) ∨ ∃ j e p, (Instr.findKey kt (enc x) es.toList).run P w = .ok (some (j, e.val)) w ∧ es.toList[j]? = some e ∧ M[j]? = some p ∧ p.1 = x ∧ e.key = enc x ∧ e.val = den p.2 := by
  obtain ⟨l, hl⟩ := K.reads x hx
  rcases K.law.find w hl es.toList (fun e he => by
    obtain ⟨j, hj⟩ := List.mem_iff_getElem?.1 he
    obtain ⟨p, hp, h1, -⟩ := h.at_ j hj
    rw [h1]; exact K.reads _ (h.ok p (List.mem_of_getElem? hp))) with ⟨h1, h2⟩ | ⟨j, e, h1, h2, h3⟩
  · refine .inl ⟨h1, ?_⟩
    rw [Bool.eq_false_iff]; intro h3
    obtain ⟨p, hp, rfl⟩ := mhas_iff.1 h3
    obtain ⟨e, he, h4, -⟩ := h.of hp
    exact h2 e he h4
  · obtain ⟨p, hp, h4, h5⟩ := h.at_ j h2
    exact .inr ⟨j, e, p, h1, h2, hp, K.inj _ _ (h4.symm.trans h3), h3, h5⟩
theorem IsMap.look (c : Bool) (h : IsMap enc ok den w b M) (K : Ks κ P kt enc ok) (ht : P.underlying t = some (.map kt et)) {z : Value} (hz : (zeroValue et).run P w = .ok z w) {x : κ} (hx : ok x) :
    (Instr.lookup t (.map (some b)) (enc x) c).run P w = .ok (if c then .tuple #[((mget M x).map den).getD z, .bool (mhas M x)] else ((mget M x).map den).getD z) w := by
  obtain ⟨es, clock, hb, hM⟩ := h
  obtain ⟨l, hl⟩ := K.reads x hx
  rcases hM.find K hx w with ⟨h1, h2⟩ | ⟨j, e, p, h1, h2, h3, rfl, h4, h5⟩
  · rw [mget_none h2, h2]
    simp [Instr.lookup, run_underlying ht, MapKept.run_getObj_map hb, K.law.check w _ hl, h1, hz, Result.andThen]
  · have hp := List.mem_of_getElem? h3
    rw [mget_mem hM.nodup hp, mhas_iff.2 ⟨p, hp, rfl⟩]
    simp [Instr.lookup, run_underlying ht, MapKept.run_getObj_map hb, K.law.check w _ hl, h1, h5, Result.andThen]
theorem list_set_map {M : List (κ × β)} (hn : (M.map (·.1)).Nodup) {j : Nat} {p : κ × β} (hj : M[j]? = some p) (v : β) : M.map (fun q => if q.1 = p.1 then (p.1, v) else q) = M.set j (p.1, v) := by
  induction M generalizing j with
  | nil => simp at hj
  | cons q r ih =>
    rw [List.map_cons, List.nodup_cons] at hn
    cases j with
    | zero =>
      simp only [List.getElem?_cons_zero, Option.some.injEq] at hj
      subst hj
      simp only [List.map_cons, if_true, List.set_cons_zero, List.cons.injEq, true_and]
      have : ∀ y ∈ r, (if y.1 = q.1 then (q.1, v) else y) = y := fun y hy => if_neg (fun e => hn.1 (List.mem_map.2 ⟨y, hy, e⟩))
      rw [List.map_congr_left this]; simp
    | succ j =>
      simp only [List.getElem?_cons_succ] at hj
      have hne : q.1 ≠ p.1 := fun e => hn.1 (e ▸ List.mem_map_of_mem (List.mem_of_getElem? hj))
      simp only [List.map_cons, if_neg hne, List.set_cons_succ, ih hn.2 hj]
theorem list_del_map {M : List (κ × β)} (hn : (M.map (·.1)).Nodup) {j : Nat} {p : κ × β} (hj : M[j]? = some p) : mdel M p.1 = M.eraseIdx j := by
  unfold mdel
  induction M generalizing j with
  | nil => simp at hj
  | cons q r ih =>
    rw [List.map_cons, List.nodup_cons] at hn
    cases j with
    | zero =>
      simp only [List.getElem?_cons_zero, Option.some.injEq] at hj
      subst hj
      rw [List.filter_cons_of_neg (by simp)]
      simp only [List.eraseIdx_cons_zero]
      exact List.filter_eq_self.2 fun y hy => decide_eq_true (fun e => hn.1 (List.mem_map.2 ⟨y, hy, e⟩))
    | succ j =>
      simp only [List.getElem?_cons_succ] at hj
      have hne : q.1 ≠ p.1 := fun e => hn.1 (e ▸ List.mem_map_of_mem (List.mem_of_getElem? hj))
      rw [List.filter_cons_of_pos (by simpa using hne)]
      simp only [List.eraseIdx_cons_succ, ih hn.2 hj]
theorem IsMap.update (h : IsMap enc ok den w b M) (K : Ks κ P kt enc ok) (ht : P.underlying t = some (.map kt et)) {x : κ} (hx : ok x) (v : β) :
    ∃ o', (Instr.mapUpdate t (.map (some b)) (enc x) (den v)).run P w = .ok () (setBlock w b o') ∧ IsMap enc ok den (setBlock w b o') b (mput M x v) := by
  obtain ⟨es, clock, hb, hM⟩ := h
  obtain ⟨l, hl⟩ := K.reads x hx
  rcases hM.find K hx w with ⟨h1, h2⟩ | ⟨j, e, p, h1, h2, h3, rfl, h4, h5⟩
  · refine ⟨.map (es.push ⟨enc x, den v, clock⟩) (clock + 1), ?_, es.push ⟨enc x, den v, clock⟩, clock + 1, setBlock_at hb _, ?_, ?_, ?_⟩
    · simp [Instr.mapUpdate, run_underlying ht, MapKept.run_getObj_map hb, K.law.check w false hl, h1, MapKept.run_setObj_map _ hb, Result.andThen, setBlock]
    · rw [mput, if_neg (by rw [h2]; simp)]
      simp [hM.here]
    · refine stamped_push hM.st fun y hy e1 => ?_
      obtain ⟨j, hj⟩ := List.mem_iff_getElem?.1 hy
      obtain ⟨p, hp, h6, -⟩ := hM.at_ j hj
      have := mhas_iff.2 ⟨p, List.mem_of_getElem? hp, K.inj _ _ (h6.symm.trans e1)⟩
      rw [h2] at this; cases this
    · rw [mput, if_neg (by rw [h2]; simp)]
      intro p hp
      rcases List.mem_append.1 hp with hp | hp
      · exact hM.ok p hp
      · simp only [List.mem_singleton] at hp; rw [hp]; exact hx
  · have hj : es[j]? = some e := by simpa using h2
    have hp := List.mem_of_getElem? h3
    have hput : mput M p.1 v = M.set j (p.1, v) := by
      rw [mput, if_pos (mhas_iff.2 ⟨p, hp, rfl⟩)]; exact list_set_map hM.nodup h3 v
    have hlist : (es.modify j (fun e' => { e' with key := enc p.1, val := den v })).toList = es.toList.set j { e with key := enc p.1, val := den v } := by rw [Array.toList_modify, ChangeMaps.modify_eq_set _ _ _ _ h2]
    refine ⟨.map (es.modify j (fun e' => { e' with key := enc p.1, val := den v })) clock, ?_, es.modify j (fun e' => { e' with key := enc p.1, val := den v }), clock, setBlock_at hb _, ?_, ?_, ?_⟩
    · simp [Instr.mapUpdate, run_underlying ht, MapKept.run_getObj_map hb, K.law.check w false hl, h1, hj, h4, K.law.stays w hl, MapKept.run_setObj_map _ hb, Result.andThen, setBlock]
    · rw [hput, hlist, List.map_set, List.map_set, hM.here]
    · exact stamped_modify hM.st _ _ (fun _ _ => rfl) (fun e' _ he' => by rw [hj] at he'; cases he'; exact h4.symm)
    · rw [hput]
      intro q hq
      rcases List.mem_or_eq_of_mem_set hq with hq | rfl
      · exact hM.ok q hq
      · exact hx
theorem IsMap.drop (h : IsMap enc ok den w b M) (K : Ks κ P kt enc ok) (ht : P.underlying t = some (.map kt et)) {x : κ} (hx : ok x) (ty : TypeId) :
    ∃ o', (Builtin.delete_ #[t, kt] ty #[.map (some b), enc x]).run P w = .ok (.tuple #[]) (setBlock w b o') ∧ IsMap enc ok den (setBlock w b o') b (mdel M x) := by
  obtain ⟨es, clock, hb, hM⟩ := h
  obtain ⟨l, hl⟩ := K.reads x hx
  rcases hM.find K hx w with ⟨h1, h2⟩ | ⟨j, e, p, h1, h2, h3, rfl, h4, h5⟩
  · have hm : mdel M x = M := List.filter_eq_self.2 fun y hy => by
      simp only [decide_eq_true_eq]; intro e
      have := mhas_iff.2 ⟨y, hy, e⟩
      rw [h2] at this; cases this
    rw [hm]
    exact ⟨.map es clock, by simp [Builtin.delete_, run_underlying ht, MapKept.run_getObj_map hb, K.law.check w _ hl, h1, MapKept.run_setObj_map _ hb, Result.andThen, setBlock], es, clock, setBlock_at hb _, hM⟩
  · have hjl : j < es.toList.length := (List.getElem?_eq_some_iff.1 h2).1
    have hjs : j < es.size := by simpa using hjl
    have hsub : (es.eraseIdxIfInBounds j).toList = es.toList.eraseIdx j := by
      unfold Array.eraseIdxIfInBounds
      rw [dif_pos hjs]
      simp
    rw [list_del_map hM.nodup h3]
    refine ⟨.map (es.eraseIdxIfInBounds j) clock, by simp [Builtin.delete_, run_underlying ht, MapKept.run_getObj_map hb, K.law.check w _ hl, h1, MapKept.run_setObj_map _ hb, Result.andThen, setBlock], es.eraseIdxIfInBounds j, clock, setBlock_at hb _, ?_, stamped_erase hM.st j, fun q hq => hM.ok q ((List.eraseIdx_sublist _ _).subset hq)⟩
    rw [hsub, ChangeMaps.map_eraseIdx, ChangeMaps.map_eraseIdx, hM.here]
end
end Go.Proofs.Ytfdfjogoiagnkaa
namespace Go.Proofs.Ytfdfjogoiagnkaa
open Go.RowKit Go.Maps Go.MapKept
open Go.ChangeMaps (setBlock)
set_option maxRecDepth 100000

theorem ks_str : Ks ByteArray Try.prog 9 (fun s => .string s) (fun s => s.size ≤ maxLen) :=
  ⟨string_keyed Try.underlying9, fun x h => ⟨_, WideMaps.keyOf_string_mk Try.underlying9 h⟩, fun x y h => by simpa using h⟩
theorem zero_int64 (w : World) : (zeroValue 2).run Try.prog w = .ok (.int .i64 0) w := by kernel_rfl
section
variable {κ β : Type} [DecidableEq κ] {P : Program} {kt et t : TypeId} {enc : κ → Value} {ok : κ → Prop} {den : β → Value} {w : World} {b : Nat} {M : List (κ × β)}
theorem IsMap.update2 (h : IsMap enc ok den w b M) (K : Ks κ P kt enc ok) (ht : P.underlying t = some (.map kt et)) {x : κ} (hx : ok x) (v : β) :
    ∃ w', (Instr.mapUpdate t (.map (some b)) (enc x) (den v)).run P w = .ok () w' ∧ Keeps (fun k => k = b) w w' ∧ IsMap enc ok den w' b (mput M x v) := by
  obtain ⟨o, h1, h2⟩ := h.update K ht hx v
  exact ⟨_, h1, setBlock_keeps w b o, h2⟩
end
structure Mr {κ β : Type} (enc : κ → Value) (ok : κ → Prop) (den : β → Value) (F : Nat → Prop) (w : World) (b : Nat) (M : List (κ × β)) : Prop where
  map : IsMap enc ok den w b M
  off : ¬ F b
section
variable {κ β : Type} {enc : κ → Value} {ok : κ → Prop} {den : β → Value} {F F' : Nat → Prop} {w w1 : World} {b : Nat} {M : List (κ × β)}
theorem Mr.calm (h : Mr enc ok den F w b M) (hk : Keeps (fun _ => False) w w1) : Mr enc ok den F w1 b M := ⟨h.map.keeps hk (fun h => h), h.off⟩
theorem Mr.step (h : Mr enc ok den F w b M) (hk : Keeps F w w1) (hf : Fresh F F' w) : Mr enc ok den F' w1 b M :=
  ⟨h.map.keeps hk h.off, fun h1 => (hf b h1).elim h.off (fun h2 => Nat.lt_irrefl _ (Nat.lt_of_lt_of_le h.map.lt h2))⟩
theorem Mr.beyond (h : Mr enc ok den F w b M) (hk : Keeps (fun k => w.heap.size ≤ k) w w1) : Mr enc ok den F w1 b M := ⟨h.map.keeps hk (fun h1 => Nat.lt_irrefl _ (Nat.lt_of_lt_of_le h.map.lt h1)), h.off⟩
end
end Go.Proofs.Ytfdfjogoiagnkaa
namespace Go.Proofs.Ytfdfjogoiagnkaa
open Go.RowKit
set_option maxRecDepth 100000

section
variable {w : World} {F : Nat → Prop} {hb : Nat} {H : List (Option (Nat × Cl))} {s : HSt} {i p : Nat} {c : Cl}
theorem alloc_kept (h : IsHeap w F hb H s) (ho : HOk H s) (hf : s.live < s.limit) {kind : Int} (hk : 1 ≤ kind ∧ kind < 11) {W W2 : World} {tb : Nat} {Ft : Nat → Prop} {L : List Ent} {sr : Int} {b : V} {a : Addr} (hK : Keeps (fun _ => False) w W) (hT : IsT W2 Ft tb L sr) (hsr : sr < 1073741000) (hap : Apart F Ft) (hK2 : Keeps (fun _ => False) W W2) (hv : Vals W2 (some a) [b]) :
    Calls Try.prog 15 #[.pointer (some ⟨hb, 0, none⟩), .agg #[.int .i64 kind, .slice (some a) 1 1, .pointer none, .pointer (some ⟨tb, 0, none⟩), .slice none 0 0, .string ⟨#[]⟩]] W2 fun e w' => ∃ i p F' H' s', e = .returned (.tuple #[.int .i64 (i : Nat), .int .i64 0]) ∧ Made W2 w' F Ft hb H s ⟨kind, [b], none, some (tb, L, sr), [], ⟨#[]⟩⟩ i p F' H' s' := by
  have h2 := (h.calm hK).calm hK2
  have hg : Given W2 F (fun _ => False) Ft ⟨kind, [b], none, some (tb, L, sr), [], ⟨#[]⟩⟩ (some a) none none (some ⟨tb, 0, none⟩) :=
    ⟨hv, fun e => (Option.some_ne_none _ e).elim, fun i x h => by simp at h, fun _ => rfl, rfl, ⟨rfl, hT⟩, Apart.no _, hap, Apart.none _, fun _ h => h.elim, hT.inw, ⟨by show [b].length ≤ 1048576; simp, Nat.zero_le _, fun b xs e => (by cases e), fun b L s e => (by cases e; exact hsr)⟩⟩
  refine (heap_Alloc_made (cv := 1) (cn := 0) h2 ho hg hk hf).mono ?_
  rintro e w' ⟨i, p, F', H', s', rfl, hM⟩
  exact ⟨i, p, F', H', s', rfl, hM.heap, hM.ok, hM.new, hM.live, hM.limit, hM.freed, hM.runs, hM.lt, hM.keeps, fun k hk => (hM.fresh k hk).imp (fun h => h.imp id (fun h => h.elim (fun h => h.elim) id)) id⟩
set_option maxHeartbeats 2000000 in
theorem lay_New_null (h : IsHeap w F hb H s) (ho : HOk H s) (hf : s.live < s.limit) :
    Calls Try.prog 13 #[.pointer (some ⟨hb, 0, none⟩), V.val V.null] w fun e w' => ∃ (i p tb : Nat) (F' : Nat → Prop) (H' : Hp) (s' : HSt), e = .returned (.tuple #[V.val ⟨4, (i : Nat), ⟨#[]⟩⟩, .int .i64 0]) ∧ Made w w' F (fun _ => False) hb H s (classCl tb [] 0 V.null) i p F' H' s' := by
  have HH := hidden h
  have HO := hidden ho
  have HF := hidden hf
  have hin := hidden h.inw
  have CR := hidden (fun (W : World) (n : Int) => heap_Ref n W)
  unfold V.val at CR
  clear h ho hf
  refine post_gen fun R hR => ?_
  unfold V.val V.null
  go_enter Try.func13, Try.ntmps13
  go_wp2_with fail
  refine (t_New _).mono ?_
  rintro e w1 ⟨tb, Ft, rfl, hT, hK, hF⟩
  have HM := hidden ((((Keeps.refl (fun _ => False) w).alloc _).alloc _).trans hK (fun _ _ h => h))
  have HV := hidden (show IsVar w1 (w.heap.size + 1) V.null from hK.heap (new2t w _ _) (fun h => h))
  have HT := hidden hT
  have HFT := hidden (show ∀ k, Ft k → w.heap.size + 2 ≤ k from fun k h => (hF k h).elim (fun h => h.elim) (fun h => by simp at h; omega))
  have HAP := hidden (show Apart F Ft from fun k h1 h2 => by have := hin.out k h1; have := HFT.out k h2; omega)
  obtain ⟨b0, b1, b2, -⟩ := (show IsVar w1 w.heap.size V.null from hK.heap (blk_alloc (blk_new w _) _) (fun h => h)).cells
  have hbz := blk_lt HV.out
  simp only [V.null] at b0 b1 b2
  clear hT hK hF
  have CA := hidden (fun (W2 : World) (hK2 : Keeps (fun _ => False) w1 W2) (a : Addr) (hv : Vals W2 (some a) [(⟨0, 0, ⟨#[]⟩⟩ : V)]) => alloc_kept HH.out HO.out HF.out (kind := 3) (by decide) HM.out (HT.out.none hK2) (by decide) HAP.out hK2 hv)
  clear HH HO HF
  go_wp2_with fail
  refine (CA.out _ ((Keeps.refl _ w1).alloc _) _ (Vals.lit w1 [(⟨0, 0, ⟨#[]⟩⟩ : V)] _ rfl)).mono ?_
  rintro e w8 ⟨i8, p8, F8, H8, s8, rfl, hM⟩
  have HV8 := hidden (show IsVar w8 (w.heap.size + 1) V.null from hM.keeps.heap (blk_alloc HV.out _) (fun h => by have := hin.out _ h; omega))
  have hnf := hidden (show ¬ F8 (w.heap.size + 1) from fun h => by
    have hz := blk_lt HV.out
    rcases hM.fresh _ h with (h | h) | h
    · have := hin.out _ h; omega
    · have := HFT.out _ h; omega
    · simp at h; omega)
  have HM8 := hidden (hM.ahead (w0 := w) (F1 := fun _ => False) (HM.out.alloc _) (fun k h => .inr (by have := HFT.out k h; omega)))
  clear hM CA HV HM HT HAP
  go_wp2_with fail
  refine (CR.out _ _).mono ?_
  rintro e w9 ⟨rfl, hK⟩
  have HV9 := hidden (HV8.out.keeps hK (fun h => h))
  have HM9 := hidden (HM8.out.behind hK (fun k h => h.elim))
  clear hK HV8 HM8
  obtain ⟨v0, v1, v2, v3, v4, v5⟩ := HV9.out.cells
  have hvz := blk_lt HV9.out
  simp only [V.null] at v0 v1 v2
  go_wp2_with fail
  obtain ⟨d0, d1, d2, _⟩ := (HV9.out.set ⟨4, i8, ⟨#[]⟩⟩).cells
  simp only at d0 d1 d2
  exact bodyPost_ret (v := .tuple #[V.val ⟨4, i8, ⟨#[]⟩⟩, .int .i64 0]) (by simp [results, Try.results13, go_sem, d0, d1, d2, V.val]) rfl (hR.out _ _ ⟨i8, p8, _, F8, H8, s8, rfl, HM9.out.behind ((Keeps.refl (fun k => k = w.heap.size + 1) w9).var (r := w.heap.size + 1) (fun _ => rfl) _ _ _) (fun k h => by rw [h]; exact ⟨hnf.out, by omega⟩)⟩)
end
end Go.Proofs.Ytfdfjogoiagnkaa
namespace Go.Proofs.Ytfdfjogoiagnkaa
open Go.RowKit
set_option maxRecDepth 100000

def fieldsE (H : Hp) (L : List Ent) : List Ent × Int := L.foldl (fun q x => if methB H x.val = true then q else putE q.1 q.2 x.key x.val) ([], 0)
theorem fieldsE_snoc (H : Hp) (L : List Ent) (x : Ent) : fieldsE H (L ++ [x]) = if methB H x.val = true then fieldsE H L else putE (fieldsE H L).1 (fieldsE H L).2 x.key x.val := by simp [fieldsE]
theorem fieldsE_len (H : Hp) (L : List Ent) : (fieldsE H L).1.length ≤ L.length ∧ (fieldsE H L).2 ≤ L.length := by
  suffices h : ∀ n (L : List Ent), L.length = n → (fieldsE H L).1.length ≤ L.length ∧ (fieldsE H L).2 ≤ L.length from h _ L rfl
  intro n
  induction n with
  | zero => intro L h; obtain rfl := List.eq_nil_of_length_eq_zero h; exact ⟨Nat.le_refl _, Int.le_refl _⟩
  | succ n ih =>
    intro L h
    rcases List.eq_nil_or_concat L with rfl | ⟨zs, x, rfl⟩
    · simp at h
    · rw [List.concat_eq_append] at h ⊢
      have hz := ih zs (by simp at h; omega)
      rw [fieldsE_snoc, List.length_append, List.length_singleton]
      split
      · omega
      · have := putE_len (fieldsE H zs).1 (fieldsE H zs).2 x.key x.val
        omega
theorem fieldsE_succ (H : Hp) {L : List Ent} {k : Nat} (hk : k < L.length) : fieldsE H (L.take (k + 1)) = if methB H L[k].val = true then fieldsE H (L.take k) else putE (fieldsE H (L.take k)).1 (fieldsE H (L.take k)).2 L[k].key L[k].val := by
  rw [List.take_add_one, List.getElem?_eq_getElem hk]
  exact fieldsE_snoc H _ _
section
variable {w : World} {F : Nat → Prop} {hb : Nat} {H : List (Option (Nat × Cl))} {s : HSt} {i p : Nat} {c : Cl}
set_option maxHeartbeats 8000000 in
theorem lay_Make (h : IsHeap w F hb H s) (ho : HOk H s) (hf : s.live < s.limit) (hi : H[i]? = some (some (p, c))) (hk : c.kind = 3) {tb0 : Nat} {L : List Ent} {sr : Int} (hc : c.tab = some (tb0, L, sr)) (hs : sr < 1073740000) :
    Calls Try.prog 23 #[.pointer (some ⟨hb, 0, none⟩), V.val ⟨4, i, ⟨#[]⟩⟩] w fun e w' => ∃ (i' p' tb : Nat) (F' : Nat → Prop) (H' : Hp) (s' : HSt), e = .returned (.tuple #[V.val ⟨4, (i' : Nat), ⟨#[]⟩⟩, .int .i64 0]) ∧ Made w w' F (fun _ => False) hb H s (instCl tb (fieldsE H L).1 (fieldsE H L).2 (rV (i : Nat))) i' p' F' H' s' := by
  have HH := hidden h
  have HO := hidden ho
  have HF := hidden hf
  have hin := hidden h.inw
  have CR := hidden (fun (W : World) (n : Int) => heap_Ref n W)
  unfold V.val at CR
  have CO := hidden (fun (W : World) (hk' : Keeps (fun _ => False) w W) => heap_Of_ok (h.calm hk') hi 3 ⟨#[]⟩ (.inr hk))
  unfold V.val at CO
  have CM := hidden (fun (W : World) (hk' : Keeps (fun _ => False) w W) (v : V) => lay_Method (h.calm hk') v)
  unfold V.val at CM
  have CT := hidden (fun (W : World) (hk' : Keeps (fun _ => False) w W) => show W.cell? ⟨p, 3, none⟩ = some (.pointer (some ⟨tb0, 0, none⟩)) ∧ p < W.heap.size ∧ ∀ cu : Int, Calls Try.prog 55 #[.pointer (some ⟨tb0, 0, none⟩), .int .i64 cu] W fun e w' => e = .returned (nextAns L cu) ∧ Keeps (fun _ => False) W w' from by
    obtain ⟨Ft, h1, h2, h3, h4, h5, h6, h7⟩ := held_tab2 (h.calm hk') hi hc
    exact ⟨h2, h3, fun cu => t_Next h1 (by omega) cu⟩)
  have HLK := hidden (show Lok L sr from by
    obtain ⟨Ft, h1, -⟩ := held_tab2 h hi hc
    exact h1.lok)
  have hmost := HLK.out.most
  clear h ho hf hi hk hc
  refine post_gen fun R hR => ?_
  unfold V.val
  go_enter Try.func23, Try.ntmps23
  go_wp2_with fail
  refine (CO.out _ (by repeat (first | exact Keeps.refl _ _ | refine Keeps.alloc ?_ _))).mono ?_
  rintro e w1 ⟨rfl, hK⟩
  have HM1 := hidden ((((Keeps.refl (fun _ => False) w).alloc _).alloc _).trans hK (fun _ _ h => h))
  have HV1 := hidden (show IsVar w1 (w.heap.size + 1) V.null from hK.heap (new2t w _ _) (fun h => h))
  have HB1 := hidden (show IsVar w1 w.heap.size ⟨4, i, ⟨#[]⟩⟩ from hK.heap (blk_alloc (blk_new w _) _) (fun h => h))
  clear hK CO
  go_wp2_with fail
  refine (t_New _).mono ?_
  rintro e w2 ⟨fb, Fq, rfl, hT, hK, hF⟩
  have HM2 := hidden (HM1.out.trans hK (fun _ _ h => h))
  have HV2 := hidden (HV1.out.keeps hK (fun h => h))
  have HB2 := hidden (HB1.out.keeps hK (fun h => h))
  have HT2 := hidden hT
  have HFT := hidden (show ∀ k, Fq k → w.heap.size + 2 ≤ k from fun k h => (hF k h).elim (fun h => h.elim) (fun h => by have := blk_lt HV1.out; omega))
  clear hT hK hF HM1 HV1 HB1
  go_wp2_with fail
  go_loopw [9] (fun cu wr => ∃ (k : Nat) (Fq : Nat → Prop), k ≤ L.length ∧ cu = .int .i64 (curT L k) ∧ IsT wr Fq fb (fieldsE H (L.take k)).1 (fieldsE H (L.take k)).2 ∧ Keeps (fun _ => False) w wr ∧ IsVar wr w.heap.size ⟨4, i, ⟨#[]⟩⟩ ∧ IsVar wr (w.heap.size + 1) V.null ∧ ∀ k, Fq k → w.heap.size + 2 ≤ k) (fun cu _ => (sr - intOf cu).toNat)
  case atStart => exact ⟨0, Fq, Nat.zero_le _, rfl, HT2.out, HM2.out, HB2.out, HV2.out, HFT.out⟩
  case round =>
    clear HT2 HM2 HB2 HV2 HFT
    obtain ⟨k, Fq, hkl, rfl, hT, hK, hB, hV, hFT⟩ := hrel
    have HT := hidden hT
    have HM := hidden hK
    have HB := hidden hB
    have HV := hidden hV
    have HFT := hidden hFT
    clear hT hK hB hV hFT
    obtain ⟨y3, hpz, CN⟩ := CT.out _ HM.out
    have hlen := fieldsE_len H (L.take k)
    have htk : (L.take k).length ≤ k := List.length_take_le _ _
    by_cases hlt : k < L.length
    · have CN := hidden (CN (curT L k))
      rw [nextAns, next_at HLK.out hlt] at CN
      unfold V.val at CN
      have hcu := (curT_le HLK.out (Nat.le_of_lt hlt) hlt).2 (Nat.le_refl _)
      have HCS := hidden (curT_succ hlt)
      have hsers := HLK.out.sers L[k] (List.getElem_mem hlt)
      have hkz := HLK.out.keys L[k] (List.getElem_mem hlt)
      have hkn := HLK.out.nnul L[k] (List.getElem_mem hlt)
      have HFS := hidden (fieldsE_succ H hlt)
      generalize curT L k = cu at *
      generalize L[k] = x at *
      obtain ⟨⟨kk, kn, kt⟩, ⟨vk, vn, vt⟩, xs, xg⟩ := x
      simp only at CN hcu hsers hkz hkn
      have CP := hidden (fun (W : World) (hk' : Keeps (fun _ => False) wr W) => t_Put (HT.out.none hk') (by omega) (key := ⟨kk, kn, kt⟩) ⟨vk, vn, vt⟩ hkn hkz (by omega))
      unfold V.val at CP
      simp only at HCS HFS
      go_wp2_with fail
      refine CN.out.mono ?_
      rintro e w3 ⟨rfl, hK⟩
      have K3 := hidden hK
      clear hK CN y3
      go_wp2_with fail
      refine (CM.out _ ((HM.out.trans K3.out (fun _ _ h => h)).alloc _ |>.alloc _) ⟨vk, vn, vt⟩).mono ?_
      rintro e w4 ⟨rfl, hK⟩
      have K4 := hidden ((((K3.out.alloc _).alloc _)).trans hK (fun _ _ h => h))
      have V1 := hidden (show IsVar w4 w3.heap.size ⟨kk, kn, kt⟩ from hK.heap (blk_alloc (blk_new w3 _) _) (fun h => h))
      have V2 := hidden (show IsVar w4 (w3.heap.size + 1) ⟨vk, vn, vt⟩ from hK.heap (new2t w3 _ _) (fun h => h))
      clear hK K3
      cases hm : methB H ⟨vk, vn, vt⟩ with
      | true =>
        rw [hm] at HFS
        clear hm
        go_wp2_with fail
        go_roundw
        case rel => exact ⟨k + 1, Fq, hlt, by rw [HCS.out], by rw [HFS.out, if_pos (by first | trivial | rfl)]; exact HT.out.none K4.out, HM.out.trans K4.out (fun _ _ h => h), HB.out.keeps K4.out (fun h => h), HV.out.keeps K4.out (fun h => h), HFT.out⟩
        case measure => simp [intOf]; omega
      | false =>
        rw [hm] at HFS
        clear hm
        obtain ⟨a0, a1, a2, -⟩ := V1.out.cells
        obtain ⟨c0, c1, c2, -⟩ := V2.out.cells
        have haz := blk_lt V1.out
        have hcz := blk_lt V2.out
        simp only at a0 a1 a2 c0 c1 c2
        go_wp2_with fail
        refine (CP.out _ K4.out).mono ?_
        rintro e w5 ⟨Fq2, rfl, hT2, hK, hF⟩
        have HT2 := hidden hT2
        have KP := hidden hK
        have HFT2 := hidden (show ∀ k, Fq2 k → w.heap.size + 2 ≤ k from fun k h => (hF k h).elim (HFT.out k) (fun h => by have := blk_lt HV.out; have := K4.out.size; omega))
        clear hT2 hK hF
        go_wp2_with fail
        go_roundw
        case rel => exact ⟨k + 1, Fq2, hlt, by rw [HCS.out], by rw [HFS.out, if_neg (by decide)]; exact HT2.out, (HM.out.trans K4.out (fun _ _ h => h)).trans KP.out (fun j hj h => by have := HFT.out j h; omega), (HB.out.keeps K4.out (fun h => h)).keeps KP.out (fun h => by have := HFT.out _ h; omega), (HV.out.keeps K4.out (fun h => h)).keeps KP.out (fun h => by have := HFT.out _ h; omega), HFT2.out⟩
        case measure => simp [intOf]; omega
    · obtain rfl : k = L.length := by omega
      have CN := hidden (CN (curT L L.length))
      rw [nextAns, next_end HLK.out] at CN
      unfold V.val V.null at CN
      rw [List.take_length] at HT hlen
      generalize curT L L.length = cu at *
      go_wp2_with fail
      refine CN.out.mono ?_
      rintro e w3 ⟨rfl, hK⟩
      have HMa := hidden (HM.out.trans hK (fun _ _ h => h))
      have HVa := hidden (HV.out.keeps hK (fun h => h))
      have HBa := hidden (HB.out.keeps hK (fun h => h))
      have HTa := hidden (HT.out.none hK)
      clear hK HM HV HB HT CN y3 hpz
      have HAP := hidden (show Apart F Fq from fun k h1 h2 => by have := hin.out k h1; have := HFT.out k h2; omega)
      have CA := hidden (fun (W2 : World) (hK2 : Keeps (fun _ => False) w3 W2) (a : Addr) (hv : Vals W2 (some a) [(⟨4, i, ⟨#[]⟩⟩ : V)]) => alloc_kept HH.out HO.out HF.out (kind := 4) (by decide) HMa.out (HTa.out.none hK2) (by omega) HAP.out hK2 hv)
      clear HH HO HF
      obtain ⟨b0, b1, b2, -⟩ := HBa.out.cells
      have hbz := blk_lt HBa.out
      have hbz2 := blk_lt HVa.out
      simp only at b0 b1 b2
      go_wp2_with fail
      refine (CA.out _ ?k1 _ ?k2).mono ?_
      case k1 => repeat (first | exact Keeps.refl _ _ | refine Keeps.alloc ?_ _)
      case k2 => exact Vals.lit _ [(⟨4, i, ⟨#[]⟩⟩ : V)] _ (by simp)
      rintro e w8 ⟨i8, p8, F8, H8, s8, rfl, hM⟩
      have hms := hM.keeps.size
      have HV8 := hidden (show IsVar w8 (w.heap.size + 1) V.null from hM.keeps.heap (blk_alloc (blk_alloc (blk_alloc HVa.out _) _) _) (fun h => by have := hin.out _ h; omega))
      have hnf := hidden (show ¬ F8 (w.heap.size + 1) from fun h => by
        have hz := blk_lt HVa.out
        rcases hM.fresh _ h with (h | h) | h
        · have := hin.out _ h; omega
        · have := HFT.out _ h; omega
        · simp at h; omega)
      have HM8 := hidden (hM.ahead (w0 := w) (F1 := fun _ => False) (((HMa.out.alloc _).alloc _).alloc _) (fun k h => .inr (by have := HFT.out k h; omega)))
      clear hM CA HVa HMa HTa HAP b0 b1 b2 hbz hbz2
      go_wp2_with fail
      refine (CR.out _ _).mono ?_
      rintro e w9 ⟨rfl, hK⟩
      have HV9 := hidden (HV8.out.keeps hK (fun h => h))
      have HM9 := hidden (HM8.out.behind hK (fun k h => h.elim))
      clear hK HV8 HM8
      obtain ⟨v0, v1, v2, v3, v4, v5⟩ := HV9.out.cells
      have hvz := blk_lt HV9.out
      simp only [V.null] at v0 v1 v2
      go_wp2_with fail
      obtain ⟨d0, d1, d2, _⟩ := (HV9.out.set ⟨4, i8, ⟨#[]⟩⟩).cells
      simp only at d0 d1 d2
      exact bodyPost_ret (v := .tuple #[V.val ⟨4, i8, ⟨#[]⟩⟩, .int .i64 0]) (by simp [results, Try.results23, go_sem, d0, d1, d2, V.val]) rfl (hR.out _ _ ⟨i8, p8, _, F8, H8, s8, rfl, HM9.out.behind ((Keeps.refl (fun k => k = w.heap.size + 1) w9).var (r := w.heap.size + 1) (fun _ => rfl) _ _ _) (fun k h => by rw [h]; exact ⟨hnf.out, by omega⟩)⟩)
end
end Go.Proofs.Ytfdfjogoiagnkaa
namespace Go.Proofs.Ytfdfjogoiagnkaa
open Go.RowKit
set_option maxRecDepth 100000

def pairC (p : V × V) : List Value := [.int .i64 p.1.k, .int .i64 p.1.n, .string p.1.t, .int .i64 p.2.k, .int .i64 p.2.n, .string p.2.t]
def flatQ (E : List (V × V)) : List Value := E.flatMap pairC
theorem flatQ_length (E : List (V × V)) : (flatQ E).length = E.length * 6 := by
  induction E with
  | nil => rfl
  | cons x xs ih => simp only [flatQ, List.flatMap_cons, List.length_append] at ih ⊢; rw [ih]; simp [pairC]; omega
theorem flatQ_one (E : List (V × V)) : ∀ u ∈ flatQ E, u.oneCell' = true := by
  intro u hu
  simp only [flatQ, List.mem_flatMap] at hu
  obtain ⟨v, _, h⟩ := hu
  simp [pairC] at h
  rcases h with rfl | rfl | rfl | rfl | rfl | rfl <;> rfl
theorem flatQ_get (xs : List (V × V)) : ∀ (i : Nat) (x : V × V), xs[i]? = some x → ∀ j, j < 6 → (flatQ xs)[i * 6 + j]? = (pairC x)[j]? := by
  induction xs with
  | nil => intro i x h; simp at h
  | cons y xs ih =>
    intro i x h j hj
    have e : flatQ (y :: xs) = pairC y ++ flatQ xs := by simp [flatQ]
    rw [e]
    cases i with
    | zero =>
      simp at h
      subst h
      rw [List.getElem?_append_left (by simp [pairC]; omega)]
      simp
    | succ i =>
      simp at h
      rw [List.getElem?_append_right (by simp [pairC]; omega)]
      have := ih i x h j hj
      rw [← this]
      congr 1
      simp [pairC]; omega
structure QAt (w : World) (g o i : Nat) (x : V × V) : Prop where
  c0 : w.cell? ⟨g, o + i * 6, none⟩ = some (.int .i64 x.1.k)
  c1 : w.cell? ⟨g, o + i * 6 + 1, none⟩ = some (.int .i64 x.1.n)
  c2 : w.cell? ⟨g, o + i * 6 + 2, none⟩ = some (.string x.1.t)
  c3 : w.cell? ⟨g, o + i * 6 + 3, none⟩ = some (.int .i64 x.2.k)
  c4 : w.cell? ⟨g, o + i * 6 + 4, none⟩ = some (.int .i64 x.2.n)
  c5 : w.cell? ⟨g, o + i * 6 + 5, none⟩ = some (.string x.2.t)
theorem QAt.keeps {w w1 : World} {S : Nat → Prop} {g o i : Nat} {x : V × V} (h : QAt w g o i x) (hk : Keeps S w w1) (hn : ¬ S g) : QAt w1 g o i x :=
  ⟨hk.cell h.c0 hn, hk.cell h.c1 hn, hk.cell h.c2 hn, hk.cell h.c3 hn, hk.cell h.c4 hn, hk.cell h.c5 hn⟩
def Qs (w : World) (A : Option Addr) (E : List (V × V)) : Prop := ∀ i x, E[i]? = some x → ∃ g o, A = some ⟨g, o, none⟩ ∧ QAt w g o i x
theorem Qs.calm {w w1 : World} {A : Option Addr} {E : List (V × V)} (h : Qs w A E) (hk : Keeps (fun _ => False) w w1) : Qs w1 A E := fun i x hi => by
  obtain ⟨b, o, rfl, h1⟩ := h i x hi
  exact ⟨b, o, rfl, h1.keeps hk (fun h => h)⟩
theorem Qs.own {w : World} {base e n c : Nat} {A : Option Addr} {E : List (V × V)} (h : w.ownsRow base e 6 (.slice A n c) n (flatQ E)) : Qs w A E := fun i x hi => by
  have hil := (List.getElem?_eq_some_iff.1 hi).1
  rcases h.2 with ⟨h1, h2⟩ | ⟨g, cap, cur, h1, _⟩
  · have := h.1
    rw [flatQ_length] at this
    omega
  · simp at h1
    obtain ⟨rfl, rfl⟩ := h1
    have hc := h.cells (g := g) rfl
    have k : ∀ j v, j < 6 → (pairC x)[j]? = some v → w.cell? ⟨g, 0 + (i * 6 + j), none⟩ = some v := fun j v hj hv => by
      have := hc (i * 6 + j) v ((flatQ_get E i x hi j hj).trans hv)
      rwa [add_at3] at this
    exact ⟨g, 0, rfl, ⟨k 0 _ (by omega) rfl, k 1 _ (by omega) rfl, k 2 _ (by omega) rfl, k 3 _ (by omega) rfl, k 4 _ (by omega) rfl, k 5 _ (by omega) rfl⟩⟩
theorem Qs.src {P : Program} {w : World} {A : Option Addr} {E : List (V × V)} {c : Nat} {t e' : TypeId} (h : Qs w A E) (hu : P.underlying t = some (.slice e')) : Src P 6 t (.slice A E.length c) E.length (flatQ E) w := by
  cases hs : E with
  | nil =>
    cases A with
    | none => exact Src.ofNil w hu c
    | some a => exact Src.ofSlice w hu a 0 c [] rfl (by simp) (by simp)
  | cons s l =>
    obtain ⟨b, o, rfl, _⟩ := h 0 s (by simp [hs])
    rw [← hs]
    refine Src.ofSlice w hu _ _ c _ (flatQ_length E) ?_ (flatQ_one E)
    intro j u hj
    have hjl := (List.getElem?_eq_some_iff.1 hj).1
    rw [flatQ_length] at hjl
    have hil : j / 6 < E.length := by omega
    obtain ⟨b', o', he, hx⟩ := h (j / 6) _ (List.getElem?_eq_getElem hil)
    simp at he
    obtain ⟨rfl, rfl⟩ := he
    have hg := flatQ_get E (j / 6) _ (List.getElem?_eq_getElem hil) (j % 6) (by omega)
    rw [show j / 6 * 6 + j % 6 = j by omega, hj] at hg
    rw [add_at3]
    have h6 : j % 6 = 0 ∨ j % 6 = 1 ∨ j % 6 = 2 ∨ j % 6 = 3 ∨ j % 6 = 4 ∨ j % 6 = 5 := by omega
    rcases h6 with h6 | h6 | h6 | h6 | h6 | h6 <;> rw [h6] at hg <;> simp [pairC] at hg <;> subst hg
    · rw [show o + j = o + j / 6 * 6 by omega]; exact hx.c0
    · rw [show o + j = o + j / 6 * 6 + 1 by omega]; exact hx.c1
    · rw [show o + j = o + j / 6 * 6 + 2 by omega]; exact hx.c2
    · rw [show o + j = o + j / 6 * 6 + 3 by omega]; exact hx.c3
    · rw [show o + j = o + j / 6 * 6 + 4 by omega]; exact hx.c4
    · rw [show o + j = o + j / 6 * 6 + 5 by omega]; exact hx.c5
theorem Qs.lit (w : World) (x : V × V) (t : TypeId) {m : Nat} (hm : m = w.heap.size) : Qs (w.alloc (.cells #[.int .i64 x.1.k, .int .i64 x.1.n, .string x.1.t, .int .i64 x.2.k, .int .i64 x.2.n, .string x.2.t] t)) (some ⟨m, 0, none⟩) [x] := fun i y hi => by
  subst hm
  have hi0 : i = 0 := by have := (List.getElem?_eq_some_iff.1 hi).1; simp at this; omega
  subst hi0
  simp at hi
  subst hi
  exact ⟨_, _, rfl, ⟨by rw [blk_cell (blk_new w _)]; rfl, by rw [blk_cell (blk_new w _)]; rfl, by rw [blk_cell (blk_new w _)]; rfl, by rw [blk_cell (blk_new w _)]; rfl, by rw [blk_cell (blk_new w _)]; rfl, by rw [blk_cell (blk_new w _)]; rfl⟩⟩
end Go.Proofs.Ytfdfjogoiagnkaa
namespace Go.Proofs.Ytfdfjogoiagnkaa
open Go.RowKit
set_option maxRecDepth 100000

theorem not_num (H : Hp) (n k : Int) : (ofR H ⟨2, n, ⟨#[]⟩⟩ k).2 ≠ 0 := by rw [ofR_type (by simp)]; simp
theorem get_as {f : Nat} {args : Array Value} {w : World} {r : V × Int} (h : Calls Try.prog f args w fun e w' => e = .returned (.tuple #[r.1.val, .int .i64 r.2]) ∧ Keeps (fun _ => False) w w') {x : V} {e0 : Int} (hr : r = (x, e0)) : Calls Try.prog f args w fun e w' => e = .returned (.tuple #[x.val, .int .i64 e0]) ∧ Keeps (fun _ => False) w w' := by
  rw [hr] at h; exact h
theorem fieldsE_one (H : Hp) {k v : V} (h : v.k ≠ 4) : fieldsE H [⟨k, v, 1, false⟩] = ([⟨k, v, 1, false⟩], 1) := by
  rw [show [(⟨k, v, 1, false⟩ : Ent)] = [] ++ [⟨k, v, 1, false⟩] from rfl, fieldsE_snoc, if_neg (by unfold methB; rw [ofR_type h, ofR_type h]; decide)]
  rfl
end Go.Proofs.Ytfdfjogoiagnkaa
