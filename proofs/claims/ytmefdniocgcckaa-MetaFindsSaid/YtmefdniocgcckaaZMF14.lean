/- dreylaw18.MetaFinds: where = wh, called = True. -/
import Derived.Test.YtmefdniocgcckaaZHead18
import Derived.Test.YtmefdniocgcckaaGrpI
import Derived.Test.YtmefdniocgcckaaGrpF
set_option linter.unusedSimpArgs false
set_option linter.unusedVariables false
namespace Go.Proofs.Ytmefdniocgcckaa
open Go.RowKit
set_option maxRecDepth 100000
set_option linter.unusedSimpArgs false

set_option maxHeartbeats 16000000 in
theorem metaFinds_14 (w : World) (name : ByteArray) (hn : ¬ (50 : Int) < name.size) (wh : Int) (h0 : wh ≠ 0) (h1 : wh ≠ 1) (h2 : wh ≠ 2) (h3 : wh ≠ 3) : Calls Try.prog 4 #[.string name, .int .i64 wh, .bool true] w fun e w' => e = .returned (.bool true) ∧ Below w.heap.size w w' := by
  have g0 : (wh == 0) = false := by simpa using h0
  have g1 : (wh == 1) = false := by simpa using h1
  have g2 : (wh == 2) = false := by simpa using h2
  have g3 : (wh == 3) = false := by simpa using h3
  refine post_gen fun R hR => ?_
  go_enter Try.func4, Try.ntmps4
  (try go_wp2_with fail)
  refine (asks18_true w).mono ?_
  rintro e w1 ⟨rfl, hB⟩
  have HB := hidden (Keeps.of_below hB)
  clear hB
  (try go_wp2_with fail)
  refine (heap_New w1 50).mono ?_
  rintro e w2 ⟨hb, F0, rfl, hH, hK, hF⟩
  have H3 := hidden (show Hd w hb F0 [] ⟨[], 0, 50, 0, 0⟩ w2 from ⟨hH, HOk.new 50, fun k h => (hF k h).elim (fun h => h.elim) (fun h => Nat.le_trans HB.out.size h), HB.out.trans hK (fun _ _ h => h.elim)⟩)
  have S4 := hidden (show (⟨[], 0, 50, 0, 0⟩ : HSt).live = 0 ∧ (⟨[], 0, 50, 0, 0⟩ : HSt).limit = 50 from ⟨rfl, rfl⟩)
  clear hH hK hF
  clear HB
  have C5 := hidden (value_Int 5 w2)
  (try unfold V.val at C5)
  (try unfold V.null at C5)
  (try dsimp only [rV, iV] at C5)
  (try go_wp2_with fail)
  refine C5.out.mono ?_
  rintro e w6 ⟨rfl, hK⟩
  have H7 := hidden (H3.out.calm hK)
  clear C5 hK H3
  (try go_wp2_with fail)
  have V11 := hidden (show Vr F0 (w6.alloc (.cells #[.int .i64 2, .int .i64 5, .string ⟨#[]⟩] 29)) w6.heap.size ⟨2, 5, ⟨#[]⟩⟩ from Vr.new ⟨2, 5, ⟨#[]⟩⟩ H7.out.heap.inw)
  have SZ12 := hidden (show (w6.alloc (.cells #[.int .i64 2, .int .i64 5, .string ⟨#[]⟩] 29)).heap.size = w6.heap.size + 1 from by simp)
  have GE13 := hidden (show w.heap.size ≤ w6.heap.size from H7.out.K.size)
  have K8 := (Keeps.refl (fun _ => False) w6).alloc (.cells #[.int .i64 2, .int .i64 5, .string ⟨#[]⟩] 29)
  have H14 := hidden (H7.out.calm K8)
  clear K8 H7
  generalize w6.heap.size = v9 at *
  generalize w6.alloc (.cells #[.int .i64 2, .int .i64 5, .string ⟨#[]⟩] 29) = w10 at *
  (try go_wp2_with fail)
  have K15 := (Keeps.refl (fun _ => False) w10).alloc (.cells #[.int .i64 0] 2)
  have IN := hidden (show Ints (w10.alloc (.cells #[.int .i64 0] 2)) (some ⟨v9 + 1, 0, none⟩) [0] from Ints.lit w10 [0] 2 SZ12.out.symm)
  have H18 := hidden (H14.out.calm K15)
  have V19 := hidden (V11.out.calm K15)
  clear K15 H14 V11
  clear SZ12
  generalize w10.alloc (.cells #[.int .i64 0] 2) = w17 at *
  have C20 := hidden (value_Null w17)
  unfold V.val V.null at C20
  refine C20.out.mono ?_
  rintro e w21 ⟨rfl, hK⟩
  have IN1 := hidden (IN.out.keeps hK (fun _ _ _ _ h => h))
  have H22 := hidden (H18.out.calm hK)
  have V23 := hidden (V19.out.calm hK)
  clear C20 hK IN H18 V19
  (try go_wp2_with fail)
  have K24 := (Keeps.refl (fun _ => False) w21).alloc (.cells #[.int .i64 0, .int .i64 0, .string ⟨#[]⟩] 29)
  have VL0 := hidden (show Vals (w21.alloc (.cells #[.int .i64 0, .int .i64 0, .string ⟨#[]⟩] 29)) (some ⟨w21.heap.size, 0, none⟩) [V.null] from Vals.lit w21 [V.null] _ rfl)
  have IN2 := hidden (IN1.out.keeps K24 (fun _ _ _ _ h => h))
  clear IN1
  have H26 := hidden (H22.out.calm K24)
  have V27 := hidden (V23.out.calm K24)
  clear K24 H22 V23
  generalize w21.heap.size = vb28 at *
  generalize w21.alloc (.cells #[.int .i64 0, .int .i64 0, .string ⟨#[]⟩] 29) = w25 at *
  have C29 := hidden (heap_Alloc_native 0 ⟨#[]⟩ H26.out.heap H26.out.ok (by decide) VL0.out IN2.out)
  clear VL0 IN2
  refine C29.out.mono ?_
  rintro e w30 ⟨at', pat, F31, HH32, st33, rfl, hM⟩
  have N34 := hidden (show HH32[at']? = some (some (pat, natCl 0 ⟨#[]⟩)) from hM.new.at_)
  have S35 := hidden (show st33.live = 1 ∧ st33.limit = 50 from ⟨by rw [hM.live]; decide, by rw [hM.limit]⟩)
  have H36 := hidden (H26.out.made hM (fun k h => h.elim))
  have V37 := hidden (V27.out.step hM.keeps hM.fr)
  clear C29 hM S4 H26 V27
  have C38 := hidden (heap_Ref at' w30)
  (try unfold V.val at C38)
  (try unfold V.null at C38)
  (try dsimp only [rV, iV] at C38)
  (try go_wp2_with fail)
  refine C38.out.mono ?_
  rintro e w39 ⟨rfl, hK⟩
  have H40 := hidden (H36.out.calm hK)
  have V41 := hidden (V37.out.calm hK)
  clear C38 hK H36 V37
  obtain ⟨s0, s1, s2, s3, s4, s5⟩ := V41.out.var.cells
  have sz := blk_lt V41.out.var
  (try dsimp only at s0 s1 s2)
  (try go_wp2_with fail)
  clear s0 s1 s2 s3 s4 s5 sz
  have kv := (Keeps.refl (fun k => k = v9) w39).var (r := v9) (fun _ => rfl) (.int .i64 4) (.int .i64 at') (.string ⟨#[]⟩)
  have V43 := hidden (show Vr F31 (((w39.setCell ⟨v9, 0, none⟩ (.int .i64 4)).setCell ⟨v9, 1, none⟩ (.int .i64 at')).setCell ⟨v9, 2, none⟩ (.string ⟨#[]⟩)) v9 ⟨4, at', ⟨#[]⟩⟩ from ⟨V41.out.var.set ⟨4, at', ⟨#[]⟩⟩, V41.out.off⟩)
  have H44 := hidden (H40.out.other kv (fun k h1 h2 => V41.out.off (h2 ▸ h1)) (fun k h1 => h1 ▸ GE13.out))
  clear kv V41 H40
  generalize ((w39.setCell ⟨v9, 0, none⟩ (.int .i64 4)).setCell ⟨v9, 1, none⟩ (.int .i64 at')).setCell ⟨v9, 2, none⟩ (.string ⟨#[]⟩) = w42 at *
  have C45 := hidden (heap_NewTable_nil _ _ _ _ _ H44.out.heap H44.out.ok (by rw [S35.out.1, S35.out.2]; decide))
  (try unfold V.val at C45)
  (try unfold V.null at C45)
  (try dsimp only [rV, iV] at C45)
  (try go_wp2_with fail)
  refine C45.out.mono ?_
  rintro e w46 ⟨t, pt, tt, F47, HH48, st49, rfl, hM⟩
  have N50 := hidden (hM.new.old N34.out)
  have E51 := hidden (hM.new.ne N34.out)
  have N52 := hidden (show HH48[t]? = some (some (pt, tableCl tt [] 0)) from hM.new.at_)
  have S53 := hidden (show st49.live = 2 ∧ st49.limit = 50 from ⟨by rw [hM.live, S35.out.1]; decide, by rw [hM.limit, S35.out.2]⟩)
  have H54 := hidden (H44.out.made hM (fun k h => h.elim))
  have V55 := hidden (V43.out.step hM.keeps hM.fr)
  clear C45 hM N34 S35 H44 V43
  (try go_wp2_with fail)
  have V59 := hidden (show Vr F47 (w46.alloc (.cells #[.int .i64 4, .int .i64 t, .string ⟨#[]⟩] 29)) w46.heap.size ⟨4, t, ⟨#[]⟩⟩ from Vr.new ⟨4, t, ⟨#[]⟩⟩ H54.out.heap.inw)
  have SZ60 := hidden (show (w46.alloc (.cells #[.int .i64 4, .int .i64 t, .string ⟨#[]⟩] 29)).heap.size = w46.heap.size + 1 from by simp)
  have GE61 := hidden (show w.heap.size ≤ w46.heap.size from H54.out.K.size)
  have K56 := (Keeps.refl (fun _ => False) w46).alloc (.cells #[.int .i64 4, .int .i64 t, .string ⟨#[]⟩] 29)
  have H62 := hidden (H54.out.calm K56)
  have V63 := hidden (V55.out.calm K56)
  clear K56 H54 V55
  generalize w46.heap.size = v57 at *
  generalize w46.alloc (.cells #[.int .i64 4, .int .i64 t, .string ⟨#[]⟩] 29) = w58 at *
  have C64 := hidden (heap_NewTable_nil _ _ _ _ _ H62.out.heap H62.out.ok (by rw [S53.out.1, S53.out.2]; decide))
  (try unfold V.val at C64)
  (try unfold V.null at C64)
  (try dsimp only [rV, iV] at C64)
  (try go_wp2_with fail)
  refine C64.out.mono ?_
  rintro e w65 ⟨d, pd, td, F66, HH67, st68, rfl, hM⟩
  have N69 := hidden (hM.new.old N50.out)
  have E70 := hidden (hM.new.ne N50.out)
  have N71 := hidden (hM.new.old N52.out)
  have E72 := hidden (hM.new.ne N52.out)
  have N73 := hidden (show HH67[d]? = some (some (pd, tableCl td [] 0)) from hM.new.at_)
  have S74 := hidden (show st68.live = 3 ∧ st68.limit = 50 from ⟨by rw [hM.live, S53.out.1]; decide, by rw [hM.limit, S53.out.2]⟩)
  have H75 := hidden (H62.out.made hM (fun k h => h.elim))
  have V76 := hidden (V63.out.step hM.keeps hM.fr)
  have V77 := hidden (V59.out.step hM.keeps hM.fr)
  clear C64 hM N50 N52 S53 H62 V63 V59
  (try go_wp2_with fail)
  have V81 := hidden (show Vr F66 (w65.alloc (.cells #[.int .i64 4, .int .i64 d, .string ⟨#[]⟩] 29)) w65.heap.size ⟨4, d, ⟨#[]⟩⟩ from Vr.new ⟨4, d, ⟨#[]⟩⟩ H75.out.heap.inw)
  have SZ82 := hidden (show (w65.alloc (.cells #[.int .i64 4, .int .i64 d, .string ⟨#[]⟩] 29)).heap.size = w65.heap.size + 1 from by simp)
  have GE83 := hidden (show w.heap.size ≤ w65.heap.size from H75.out.K.size)
  have K78 := (Keeps.refl (fun _ => False) w65).alloc (.cells #[.int .i64 4, .int .i64 d, .string ⟨#[]⟩] 29)
  have H84 := hidden (H75.out.calm K78)
  have V85 := hidden (V76.out.calm K78)
  have V86 := hidden (V77.out.calm K78)
  clear K78 H75 V76 V77
  generalize w65.heap.size = v79 at *
  generalize w65.alloc (.cells #[.int .i64 4, .int .i64 d, .string ⟨#[]⟩] 29) = w80 at *
  have C87 := hidden (heap_NewTable_nil _ _ _ _ _ H84.out.heap H84.out.ok (by rw [S74.out.1, S74.out.2]; decide))
  (try unfold V.val at C87)
  (try unfold V.null at C87)
  (try dsimp only [rV, iV] at C87)
  (try go_wp2_with fail)
  refine C87.out.mono ?_
  rintro e w88 ⟨u, pu, tu, F89, HH90, st91, rfl, hM⟩
  have N92 := hidden (hM.new.old N69.out)
  have E93 := hidden (hM.new.ne N69.out)
  have N94 := hidden (hM.new.old N71.out)
  have E95 := hidden (hM.new.ne N71.out)
  have N96 := hidden (hM.new.old N73.out)
  have E97 := hidden (hM.new.ne N73.out)
  have N98 := hidden (show HH90[u]? = some (some (pu, tableCl tu [] 0)) from hM.new.at_)
  have S99 := hidden (show st91.live = 4 ∧ st91.limit = 50 from ⟨by rw [hM.live, S74.out.1]; decide, by rw [hM.limit, S74.out.2]⟩)
  have H100 := hidden (H84.out.made hM (fun k h => h.elim))
  have V101 := hidden (V85.out.step hM.keeps hM.fr)
  have V102 := hidden (V86.out.step hM.keeps hM.fr)
  have V103 := hidden (V81.out.step hM.keeps hM.fr)
  clear C87 hM N69 N71 N73 S74 H84 V85 V86 V81
  (try go_wp2_with fail)
  have V107 := hidden (show Vr F89 (w88.alloc (.cells #[.int .i64 4, .int .i64 u, .string ⟨#[]⟩] 29)) w88.heap.size ⟨4, u, ⟨#[]⟩⟩ from Vr.new ⟨4, u, ⟨#[]⟩⟩ H100.out.heap.inw)
  have SZ108 := hidden (show (w88.alloc (.cells #[.int .i64 4, .int .i64 u, .string ⟨#[]⟩] 29)).heap.size = w88.heap.size + 1 from by simp)
  have GE109 := hidden (show w.heap.size ≤ w88.heap.size from H100.out.K.size)
  have K104 := (Keeps.refl (fun _ => False) w88).alloc (.cells #[.int .i64 4, .int .i64 u, .string ⟨#[]⟩] 29)
  have H110 := hidden (H100.out.calm K104)
  have V111 := hidden (V101.out.calm K104)
  have V112 := hidden (V102.out.calm K104)
  have V113 := hidden (V103.out.calm K104)
  clear K104 H100 V101 V102 V103
  generalize w88.heap.size = v105 at *
  generalize w88.alloc (.cells #[.int .i64 4, .int .i64 u, .string ⟨#[]⟩] 29) = w106 at *
  have C114 := hidden (value_Null w106)
  (try unfold V.val at C114)
  (try unfold V.null at C114)
  (try dsimp only [rV, iV] at C114)
  (try go_wp2_with fail)
  refine C114.out.mono ?_
  rintro e w115 ⟨rfl, hK⟩
  have H116 := hidden (H110.out.calm hK)
  have V117 := hidden (V111.out.calm hK)
  have V118 := hidden (V112.out.calm hK)
  have V119 := hidden (V113.out.calm hK)
  have V120 := hidden (V107.out.calm hK)
  clear C114 hK H110 V111 V112 V113 V107
  have C121 := hidden (lay_New_null H116.out.heap H116.out.ok (by rw [S99.out.1, S99.out.2]; decide))
  (try unfold V.val at C121)
  (try unfold V.null at C121)
  (try dsimp only [rV, iV] at C121)
  (try go_wp2_with fail)
  refine C121.out.mono ?_
  rintro e w122 ⟨c, pc, tc, F123, HH124, st125, rfl, hM⟩
  have N126 := hidden (hM.new.old N92.out)
  have E127 := hidden (hM.new.ne N92.out)
  have N128 := hidden (hM.new.old N94.out)
  have E129 := hidden (hM.new.ne N94.out)
  have N130 := hidden (hM.new.old N96.out)
  have E131 := hidden (hM.new.ne N96.out)
  have N132 := hidden (hM.new.old N98.out)
  have E133 := hidden (hM.new.ne N98.out)
  have N134 := hidden (show HH124[c]? = some (some (pc, classCl tc [] 0 V.null)) from hM.new.at_)
  have S135 := hidden (show st125.live = 5 ∧ st125.limit = 50 from ⟨by rw [hM.live, S99.out.1]; decide, by rw [hM.limit, S99.out.2]⟩)
  have H136 := hidden (H116.out.made hM (fun k h => h.elim))
  have V137 := hidden (V117.out.step hM.keeps hM.fr)
  have V138 := hidden (V118.out.step hM.keeps hM.fr)
  have V139 := hidden (V119.out.step hM.keeps hM.fr)
  have V140 := hidden (V120.out.step hM.keeps hM.fr)
  clear C121 hM N92 N94 N96 N98 S99 H116 V117 V118 V119 V120
  obtain ⟨l1410, l1411, l1412, l141z⟩ := V138.out.cells
  (try dsimp only [rV, iV, V.null] at l1410 l1411 l1412)
  obtain ⟨l1420, l1421, l1422, l142z⟩ := V139.out.cells
  (try dsimp only [rV, iV, V.null] at l1420 l1421 l1422)
  (try go_wp2_with fail)
  clear l1410 l1411 l1412 l141z l1420 l1421 l1422 l142z
  have V146 := hidden (show Vr F123 (w122.alloc (.cells #[.int .i64 4, .int .i64 c, .string ⟨#[]⟩] 29)) w122.heap.size ⟨4, c, ⟨#[]⟩⟩ from Vr.new ⟨4, c, ⟨#[]⟩⟩ H136.out.heap.inw)
  have SZ147 := hidden (show (w122.alloc (.cells #[.int .i64 4, .int .i64 c, .string ⟨#[]⟩] 29)).heap.size = w122.heap.size + 1 from by simp)
  have GE148 := hidden (show w.heap.size ≤ w122.heap.size from H136.out.K.size)
  have K143 := (Keeps.refl (fun _ => False) w122).alloc (.cells #[.int .i64 4, .int .i64 c, .string ⟨#[]⟩] 29)
  have H149 := hidden (H136.out.calm K143)
  have V150 := hidden (V137.out.calm K143)
  have V151 := hidden (V138.out.calm K143)
  have V152 := hidden (V139.out.calm K143)
  have V153 := hidden (V140.out.calm K143)
  clear K143 H136 V137 V138 V139 V140
  generalize w122.heap.size = v144 at *
  generalize w122.alloc (.cells #[.int .i64 4, .int .i64 c, .string ⟨#[]⟩] 29) = w145 at *
  have C154 := hidden (slot_SetDelegate_ok H149.out.heap N128.out rfl (b := V.null) (bs := []) rfl (dt := ⟨4, d, ⟨#[]⟩⟩) (l := [rV d]) (.cons N130.out rfl rfl (.nil rfl)) (by simp) (by have := E72.out; simp [rV]; omega))
  (try unfold V.val at C154)
  (try unfold V.null at C154)
  (try dsimp only [rV, iV] at C154)
  (try go_wp2_with fail)
  refine C154.out.mono ?_
  rintro e w155 ⟨F156, rfl, g1, g2, g3⟩
  have N158 := hidden (show (HH124.set t (some (pt, { tableCl tt [] 0 with vals := [⟨4, d, ⟨#[]⟩⟩] })))[at']? = some (some (pat, natCl 0 ⟨#[]⟩)) from set_old N126.out E51.out)
  have N159 := hidden (show (HH124.set t (some (pt, { tableCl tt [] 0 with vals := [⟨4, d, ⟨#[]⟩⟩] })))[t]? = some (some (pt, { tableCl tt [] 0 with vals := [⟨4, d, ⟨#[]⟩⟩] })) from set_self N128.out)
  have N160 := hidden (show (HH124.set t (some (pt, { tableCl tt [] 0 with vals := [⟨4, d, ⟨#[]⟩⟩] })))[d]? = some (some (pd, tableCl td [] 0)) from set_old N130.out (Ne.symm E72.out))
  have N161 := hidden (show (HH124.set t (some (pt, { tableCl tt [] 0 with vals := [⟨4, d, ⟨#[]⟩⟩] })))[u]? = some (some (pu, tableCl tu [] 0)) from set_old N132.out (Ne.symm E95.out))
  have N162 := hidden (show (HH124.set t (some (pt, { tableCl tt [] 0 with vals := [⟨4, d, ⟨#[]⟩⟩] })))[c]? = some (some (pc, classCl tc [] 0 V.null)) from set_old N134.out (Ne.symm E129.out))
  have H163 := hidden (show Hd w hb F156 (HH124.set t (some (pt, { tableCl tt [] 0 with vals := [⟨4, d, ⟨#[]⟩⟩] }))) st125 w155 from H149.out.turn2 N128.out g1 g2 g3)
  have V164 := hidden (V150.out.step g2 g3)
  have V165 := hidden (V151.out.step g2 g3)
  have V166 := hidden (V152.out.step g2 g3)
  have V167 := hidden (V153.out.step g2 g3)
  have V168 := hidden (V146.out.step g2 g3)
  clear C154 g1 g2 g3 N126 N128 N130 N132 N134 H149 V150 V151 V152 V153 V146
  generalize HH124.set t (some (pt, { tableCl tt [] 0 with vals := [⟨4, d, ⟨#[]⟩⟩] })) = HH157 at *
  have C169 := hidden (slot_SetDelegate_ok H163.out.heap N160.out rfl (b := V.null) (bs := []) rfl (dt := ⟨4, u, ⟨#[]⟩⟩) (l := [rV u]) (.cons N161.out rfl rfl (.nil rfl)) (by simp) (by have := E97.out; simp [rV]; omega))
  (try unfold V.val at C169)
  (try unfold V.null at C169)
  (try dsimp only [rV, iV] at C169)
  obtain ⟨l1700, l1701, l1702, l170z⟩ := V166.out.cells
  (try dsimp only [rV, iV, V.null] at l1700 l1701 l1702)
  obtain ⟨l1710, l1711, l1712, l171z⟩ := V167.out.cells
  (try dsimp only [rV, iV, V.null] at l1710 l1711 l1712)
  (try go_wp2_with fail)
  refine C169.out.mono ?_
  rintro e w172 ⟨F173, rfl, g1, g2, g3⟩
  have N175 := hidden (show (HH157.set d (some (pd, { tableCl td [] 0 with vals := [⟨4, u, ⟨#[]⟩⟩] })))[at']? = some (some (pat, natCl 0 ⟨#[]⟩)) from set_old N158.out E70.out)
  have N176 := hidden (show (HH157.set d (some (pd, { tableCl td [] 0 with vals := [⟨4, u, ⟨#[]⟩⟩] })))[t]? = some (some (pt, { tableCl tt [] 0 with vals := [⟨4, d, ⟨#[]⟩⟩] })) from set_old N159.out E72.out)
  have N177 := hidden (show (HH157.set d (some (pd, { tableCl td [] 0 with vals := [⟨4, u, ⟨#[]⟩⟩] })))[d]? = some (some (pd, { tableCl td [] 0 with vals := [⟨4, u, ⟨#[]⟩⟩] })) from set_self N160.out)
  have N178 := hidden (show (HH157.set d (some (pd, { tableCl td [] 0 with vals := [⟨4, u, ⟨#[]⟩⟩] })))[u]? = some (some (pu, tableCl tu [] 0)) from set_old N161.out (Ne.symm E97.out))
  have N179 := hidden (show (HH157.set d (some (pd, { tableCl td [] 0 with vals := [⟨4, u, ⟨#[]⟩⟩] })))[c]? = some (some (pc, classCl tc [] 0 V.null)) from set_old N162.out (Ne.symm E131.out))
  have H180 := hidden (show Hd w hb F173 (HH157.set d (some (pd, { tableCl td [] 0 with vals := [⟨4, u, ⟨#[]⟩⟩] }))) st125 w172 from H163.out.turn2 N160.out g1 g2 g3)
  have V181 := hidden (V164.out.step g2 g3)
  have V182 := hidden (V165.out.step g2 g3)
  have V183 := hidden (V166.out.step g2 g3)
  have V184 := hidden (V167.out.step g2 g3)
  have V185 := hidden (V168.out.step g2 g3)
  clear l1700 l1701 l1702 l170z l1710 l1711 l1712 l171z C169 g1 g2 g3 N158 N159 N160 N161 N162 H163 V164 V165 V166 V167 V168
  generalize HH157.set d (some (pd, { tableCl td [] 0 with vals := [⟨4, u, ⟨#[]⟩⟩] })) = HH174 at *
  have C186 := hidden (value_Str name w172)
  (try unfold V.val at C186)
  (try unfold V.null at C186)
  (try dsimp only [rV, iV] at C186)
  (try go_wp2_with fail)
  refine C186.out.mono ?_
  rintro e w187 ⟨rfl, hK⟩
  have H188 := hidden (H180.out.calm hK)
  have V189 := hidden (V181.out.calm hK)
  have V190 := hidden (V182.out.calm hK)
  have V191 := hidden (V183.out.calm hK)
  have V192 := hidden (V184.out.calm hK)
  have V193 := hidden (V185.out.calm hK)
  clear C186 hK H180 V181 V182 V183 V184 V185
  obtain ⟨l1940, l1941, l1942, l194z⟩ := V193.out.cells
  (try dsimp only [rV, iV, V.null] at l1940 l1941 l1942)
  (try go_wp2_with fail)
  clear l1940 l1941 l1942 l194z
  have V198 := hidden (show Vr F173 (w187.alloc (.cells #[.int .i64 3, .int .i64 0, .string name] 29)) w187.heap.size ⟨3, 0, name⟩ from Vr.new ⟨3, 0, name⟩ H188.out.heap.inw)
  have SZ199 := hidden (show (w187.alloc (.cells #[.int .i64 3, .int .i64 0, .string name] 29)).heap.size = w187.heap.size + 1 from by simp)
  have GE200 := hidden (show w.heap.size ≤ w187.heap.size from H188.out.K.size)
  have K195 := (Keeps.refl (fun _ => False) w187).alloc (.cells #[.int .i64 3, .int .i64 0, .string name] 29)
  have H201 := hidden (H188.out.calm K195)
  have V202 := hidden (V189.out.calm K195)
  have V203 := hidden (V190.out.calm K195)
  have V204 := hidden (V191.out.calm K195)
  have V205 := hidden (V192.out.calm K195)
  have V206 := hidden (V193.out.calm K195)
  clear K195 H188 V189 V190 V191 V192 V193
  generalize w187.heap.size = v196 at *
  generalize w187.alloc (.cells #[.int .i64 3, .int .i64 0, .string name] 29) = w197 at *
  have C207 := hidden (lay_Make H201.out.heap H201.out.ok (by rw [S135.out.1, S135.out.2]; decide) N179.out rfl rfl (by decide))
  generalize (fieldsE HH174 []).1 = fl0 at C207
  generalize (fieldsE HH174 []).2 = fl1 at C207
  (try unfold V.val at C207)
  (try unfold V.null at C207)
  (try dsimp only [rV, iV] at C207)
  (try go_wp2_with fail)
  refine C207.out.mono ?_
  rintro e w208 ⟨i, pi, ti, F209, HH210, st211, rfl, hM⟩
  have N212 := hidden (hM.new.old N175.out)
  have E213 := hidden (hM.new.ne N175.out)
  have N214 := hidden (hM.new.old N176.out)
  have E215 := hidden (hM.new.ne N176.out)
  have N216 := hidden (hM.new.old N177.out)
  have E217 := hidden (hM.new.ne N177.out)
  have N218 := hidden (hM.new.old N178.out)
  have E219 := hidden (hM.new.ne N178.out)
  have N220 := hidden (hM.new.old N179.out)
  have E221 := hidden (hM.new.ne N179.out)
  have N222 := hidden (show HH210[i]? = some (some (pi, instCl ti fl0 fl1 ⟨4, c, ⟨#[]⟩⟩)) from hM.new.at_)
  have S223 := hidden (show st211.live = 6 ∧ st211.limit = 50 from ⟨by rw [hM.live, S135.out.1]; decide, by rw [hM.limit, S135.out.2]⟩)
  have H224 := hidden (H201.out.made hM (fun k h => h.elim))
  have V225 := hidden (V202.out.step hM.keeps hM.fr)
  have V226 := hidden (V203.out.step hM.keeps hM.fr)
  have V227 := hidden (V204.out.step hM.keeps hM.fr)
  have V228 := hidden (V205.out.step hM.keeps hM.fr)
  have V229 := hidden (V206.out.step hM.keeps hM.fr)
  have V230 := hidden (V198.out.step hM.keeps hM.fr)
  clear C207 hM N175 N176 N177 N178 N179 S135 H201 V202 V203 V204 V205 V206 V198
  obtain ⟨l2310, l2311, l2312, l231z⟩ := V226.out.cells
  (try dsimp only [rV, iV, V.null] at l2310 l2311 l2312)
  (try go_wp2_with fail)
  clear l2310 l2311 l2312 l231z
  have V235 := hidden (show Vr F209 (w208.alloc (.cells #[.int .i64 4, .int .i64 i, .string ⟨#[]⟩] 29)) w208.heap.size ⟨4, i, ⟨#[]⟩⟩ from Vr.new ⟨4, i, ⟨#[]⟩⟩ H224.out.heap.inw)
  have SZ236 := hidden (show (w208.alloc (.cells #[.int .i64 4, .int .i64 i, .string ⟨#[]⟩] 29)).heap.size = w208.heap.size + 1 from by simp)
  have GE237 := hidden (show w.heap.size ≤ w208.heap.size from H224.out.K.size)
  have K232 := (Keeps.refl (fun _ => False) w208).alloc (.cells #[.int .i64 4, .int .i64 i, .string ⟨#[]⟩] 29)
  have H238 := hidden (H224.out.calm K232)
  have V239 := hidden (V225.out.calm K232)
  have V240 := hidden (V226.out.calm K232)
  have V241 := hidden (V227.out.calm K232)
  have V242 := hidden (V228.out.calm K232)
  have V243 := hidden (V229.out.calm K232)
  have V244 := hidden (V230.out.calm K232)
  clear K232 H224 V225 V226 V227 V228 V229 V230
  generalize w208.heap.size = v233 at *
  generalize w208.alloc (.cells #[.int .i64 4, .int .i64 i, .string ⟨#[]⟩] 29) = w234 at *
  have C245 := hidden (meta_Find_tableB H238.out.heap N214.out rfl (bs := []) rfl N216.out rfl (ls := [[], []]) (.cons N216.out rfl rfl (by decide) rfl (.cons N218.out rfl rfl (by decide) rfl (.nil rfl))) (by simp) name (by omega) (x := V.null) (e0 := 3) (b0 := false) (by simp [tabR, getR]) (by simp))
  (try unfold V.val at C245)
  (try unfold V.null at C245)
  (try dsimp only [rV, iV] at C245)
  (try go_wp2_with fail)
  refine C245.out.mono ?_
  rintro e w246 ⟨rfl, hK⟩
  have H247 := hidden (H238.out.calm hK)
  have V248 := hidden (V239.out.calm hK)
  have V249 := hidden (V240.out.calm hK)
  have V250 := hidden (V241.out.calm hK)
  have V251 := hidden (V242.out.calm hK)
  have V252 := hidden (V243.out.calm hK)
  have V253 := hidden (V244.out.calm hK)
  have V254 := hidden (V235.out.calm hK)
  clear C245 hK H238 V239 V240 V241 V242 V243 V244 V235
  obtain ⟨l2550, l2551, l2552, l255z⟩ := V254.out.cells
  (try dsimp only [rV, iV, V.null] at l2550 l2551 l2552)
  (try go_wp2_with fail)
  clear l2550 l2551 l2552 l255z
  have V259 := hidden (show Vr F209 (w246.alloc (.cells #[.int .i64 0, .int .i64 0, .string ⟨#[]⟩] 29)) w246.heap.size ⟨0, 0, ⟨#[]⟩⟩ from Vr.new ⟨0, 0, ⟨#[]⟩⟩ H247.out.heap.inw)
  have SZ260 := hidden (show (w246.alloc (.cells #[.int .i64 0, .int .i64 0, .string ⟨#[]⟩] 29)).heap.size = w246.heap.size + 1 from by simp)
  have GE261 := hidden (show w.heap.size ≤ w246.heap.size from H247.out.K.size)
  have K256 := (Keeps.refl (fun _ => False) w246).alloc (.cells #[.int .i64 0, .int .i64 0, .string ⟨#[]⟩] 29)
  have H262 := hidden (H247.out.calm K256)
  have V263 := hidden (V248.out.calm K256)
  have V264 := hidden (V249.out.calm K256)
  have V265 := hidden (V250.out.calm K256)
  have V266 := hidden (V251.out.calm K256)
  have V267 := hidden (V252.out.calm K256)
  have V268 := hidden (V253.out.calm K256)
  have V269 := hidden (V254.out.calm K256)
  clear K256 H247 V248 V249 V250 V251 V252 V253 V254
  generalize w246.heap.size = v257 at *
  generalize w246.alloc (.cells #[.int .i64 0, .int .i64 0, .string ⟨#[]⟩] 29) = w258 at *
  have C270 := hidden (meta_Find_instB H262.out.heap N222.out rfl (bs := []) rfl N220.out rfl rfl (by decide) name (by omega) (x := V.null) (e0 := 3) (b0 := false) (by simp [getR]) (by simp))
  (try unfold V.val at C270)
  (try unfold V.null at C270)
  (try dsimp only [rV, iV] at C270)
  (try go_wp2_with fail)
  refine C270.out.mono ?_
  rintro e w271 ⟨rfl, hK⟩
  have H272 := hidden (H262.out.calm hK)
  have V273 := hidden (V263.out.calm hK)
  have V274 := hidden (V264.out.calm hK)
  have V275 := hidden (V265.out.calm hK)
  have V276 := hidden (V266.out.calm hK)
  have V277 := hidden (V267.out.calm hK)
  have V278 := hidden (V268.out.calm hK)
  have V279 := hidden (V269.out.calm hK)
  have V280 := hidden (V259.out.calm hK)
  clear C270 hK H262 V263 V264 V265 V266 V267 V268 V269 V259
  obtain ⟨l2810, l2811, l2812, l281z⟩ := V277.out.cells
  (try dsimp only [rV, iV, V.null] at l2810 l2811 l2812)
  (try go_wp2_with fail)
  clear l2810 l2811 l2812 l281z
  have V285 := hidden (show Vr F209 (w271.alloc (.cells #[.int .i64 0, .int .i64 0, .string ⟨#[]⟩] 29)) w271.heap.size ⟨0, 0, ⟨#[]⟩⟩ from Vr.new ⟨0, 0, ⟨#[]⟩⟩ H272.out.heap.inw)
  have SZ286 := hidden (show (w271.alloc (.cells #[.int .i64 0, .int .i64 0, .string ⟨#[]⟩] 29)).heap.size = w271.heap.size + 1 from by simp)
  have GE287 := hidden (show w.heap.size ≤ w271.heap.size from H272.out.K.size)
  have K282 := (Keeps.refl (fun _ => False) w271).alloc (.cells #[.int .i64 0, .int .i64 0, .string ⟨#[]⟩] 29)
  have H288 := hidden (H272.out.calm K282)
  have V289 := hidden (V273.out.calm K282)
  have V290 := hidden (V274.out.calm K282)
  have V291 := hidden (V275.out.calm K282)
  have V292 := hidden (V276.out.calm K282)
  have V293 := hidden (V277.out.calm K282)
  have V294 := hidden (V278.out.calm K282)
  have V295 := hidden (V279.out.calm K282)
  have V296 := hidden (V280.out.calm K282)
  clear K282 H272 V273 V274 V275 V276 V277 V278 V279 V280
  generalize w271.heap.size = v283 at *
  generalize w271.alloc (.cells #[.int .i64 0, .int .i64 0, .string ⟨#[]⟩] 29) = w284 at *
  have C297 := hidden (meta_Find_not H288.out.heap ⟨4, c, ⟨#[]⟩⟩ (not_class N220.out rfl).1 (not_class N220.out rfl).2 name)
  (try unfold V.val at C297)
  (try unfold V.null at C297)
  (try dsimp only [rV, iV] at C297)
  (try go_wp2_with fail)
  refine C297.out.mono ?_
  rintro e w298 ⟨rfl, hK⟩
  have H299 := hidden (H288.out.calm hK)
  have V300 := hidden (V289.out.calm hK)
  have V301 := hidden (V290.out.calm hK)
  have V302 := hidden (V291.out.calm hK)
  have V303 := hidden (V292.out.calm hK)
  have V304 := hidden (V293.out.calm hK)
  have V305 := hidden (V294.out.calm hK)
  have V306 := hidden (V295.out.calm hK)
  have V307 := hidden (V296.out.calm hK)
  have V308 := hidden (V285.out.calm hK)
  clear C297 hK H288 V289 V290 V291 V292 V293 V294 V295 V296 V285
  (try go_wp2_with fail)
  have V312 := hidden (show Vr F209 (w298.alloc (.cells #[.int .i64 0, .int .i64 0, .string ⟨#[]⟩] 29)) w298.heap.size ⟨0, 0, ⟨#[]⟩⟩ from Vr.new ⟨0, 0, ⟨#[]⟩⟩ H299.out.heap.inw)
  have SZ313 := hidden (show (w298.alloc (.cells #[.int .i64 0, .int .i64 0, .string ⟨#[]⟩] 29)).heap.size = w298.heap.size + 1 from by simp)
  have GE314 := hidden (show w.heap.size ≤ w298.heap.size from H299.out.K.size)
  have K309 := (Keeps.refl (fun _ => False) w298).alloc (.cells #[.int .i64 0, .int .i64 0, .string ⟨#[]⟩] 29)
  have H315 := hidden (H299.out.calm K309)
  have V316 := hidden (V300.out.calm K309)
  have V317 := hidden (V301.out.calm K309)
  have V318 := hidden (V302.out.calm K309)
  have V319 := hidden (V303.out.calm K309)
  have V320 := hidden (V304.out.calm K309)
  have V321 := hidden (V305.out.calm K309)
  have V322 := hidden (V306.out.calm K309)
  have V323 := hidden (V307.out.calm K309)
  have V324 := hidden (V308.out.calm K309)
  clear K309 H299 V300 V301 V302 V303 V304 V305 V306 V307 V308
  generalize w298.heap.size = v310 at *
  generalize w298.alloc (.cells #[.int .i64 0, .int .i64 0, .string ⟨#[]⟩] 29) = w311 at *
  have C325 := hidden (value_Int 1 w311)
  (try unfold V.val at C325)
  (try unfold V.null at C325)
  (try dsimp only [rV, iV] at C325)
  (try go_wp2_with fail)
  refine C325.out.mono ?_
  rintro e w326 ⟨rfl, hK⟩
  have H327 := hidden (H315.out.calm hK)
  have V328 := hidden (V316.out.calm hK)
  have V329 := hidden (V317.out.calm hK)
  have V330 := hidden (V318.out.calm hK)
  have V331 := hidden (V319.out.calm hK)
  have V332 := hidden (V320.out.calm hK)
  have V333 := hidden (V321.out.calm hK)
  have V334 := hidden (V322.out.calm hK)
  have V335 := hidden (V323.out.calm hK)
  have V336 := hidden (V324.out.calm hK)
  have V337 := hidden (V312.out.calm hK)
  clear C325 hK H315 V316 V317 V318 V319 V320 V321 V322 V323 V324 V312
  have C338 := hidden (meta_Find_not H327.out.heap ⟨2, 1, ⟨#[]⟩⟩ (not_val (by decide) 2) (not_val (by decide) 4) name)
  (try unfold V.val at C338)
  (try unfold V.null at C338)
  (try dsimp only [rV, iV] at C338)
  (try go_wp2_with fail)
  refine C338.out.mono ?_
  rintro e w339 ⟨rfl, hK⟩
  have H340 := hidden (H327.out.calm hK)
  have V341 := hidden (V328.out.calm hK)
  have V342 := hidden (V329.out.calm hK)
  have V343 := hidden (V330.out.calm hK)
  have V344 := hidden (V331.out.calm hK)
  have V345 := hidden (V332.out.calm hK)
  have V346 := hidden (V333.out.calm hK)
  have V347 := hidden (V334.out.calm hK)
  have V348 := hidden (V335.out.calm hK)
  have V349 := hidden (V336.out.calm hK)
  have V350 := hidden (V337.out.calm hK)
  clear C338 hK H327 V328 V329 V330 V331 V332 V333 V334 V335 V336 V337
  obtain ⟨l3510, l3511, l3512, l351z⟩ := V348.out.cells
  (try dsimp only [rV, iV, V.null] at l3510 l3511 l3512)
  obtain ⟨l3520, l3521, l3522, l352z⟩ := V349.out.cells
  (try dsimp only [rV, iV, V.null] at l3520 l3521 l3522)
  obtain ⟨l3530, l3531, l3532, l353z⟩ := V341.out.cells
  (try dsimp only [rV, iV, V.null] at l3530 l3531 l3532)
  (try go_wp2_with fail)
  clear l3510 l3511 l3512 l351z l3520 l3521 l3522 l352z l3530 l3531 l3532 l353z
  have V357 := hidden (show Vr F209 (w339.alloc (.cells #[.int .i64 0, .int .i64 0, .string ⟨#[]⟩] 29)) w339.heap.size ⟨0, 0, ⟨#[]⟩⟩ from Vr.new ⟨0, 0, ⟨#[]⟩⟩ H340.out.heap.inw)
  have SZ358 := hidden (show (w339.alloc (.cells #[.int .i64 0, .int .i64 0, .string ⟨#[]⟩] 29)).heap.size = w339.heap.size + 1 from by simp)
  have GE359 := hidden (show w.heap.size ≤ w339.heap.size from H340.out.K.size)
  have K354 := (Keeps.refl (fun _ => False) w339).alloc (.cells #[.int .i64 0, .int .i64 0, .string ⟨#[]⟩] 29)
  have H360 := hidden (H340.out.calm K354)
  have V361 := hidden (V341.out.calm K354)
  have V362 := hidden (V342.out.calm K354)
  have V363 := hidden (V343.out.calm K354)
  have V364 := hidden (V344.out.calm K354)
  have V365 := hidden (V345.out.calm K354)
  have V366 := hidden (V346.out.calm K354)
  have V367 := hidden (V347.out.calm K354)
  have V368 := hidden (V348.out.calm K354)
  have V369 := hidden (V349.out.calm K354)
  have V370 := hidden (V350.out.calm K354)
  clear K354 H340 V341 V342 V343 V344 V345 V346 V347 V348 V349 V350
  generalize w339.heap.size = v355 at *
  generalize w339.alloc (.cells #[.int .i64 0, .int .i64 0, .string ⟨#[]⟩] 29) = w356 at *
  obtain ⟨l3710, l3711, l3712, l371z⟩ := V368.out.cells
  (try dsimp only [rV, iV, V.null] at l3710 l3711 l3712)
  obtain ⟨l3720, l3721, l3722, l372z⟩ := V369.out.cells
  (try dsimp only [rV, iV, V.null] at l3720 l3721 l3722)
  obtain ⟨l3730, l3731, l3732, l373z⟩ := V361.out.cells
  (try dsimp only [rV, iV, V.null] at l3730 l3731 l3732)
  (try go_wp2_with fail)
  exact hR.out _ _ ⟨rfl, H360.out.K.below (Nat.le_refl _) (fun _ h => h)⟩
end Go.Proofs.Ytmefdniocgcckaa
