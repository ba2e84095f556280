/- dreylaw18.MetaFinds: where = 1, called = True. -/
import Derived.Test.YtmefdniocgcckaaZHead18
import Derived.Test.YtmefdniocgcckaaGrpI
import Derived.Test.YtmefdniocgcckaaGrpF
set_option linter.unusedSimpArgs false
set_option linter.unusedVariables false
namespace Go.Proofs.Ytmefdniocgcckaa
open Go.RowKit
set_option maxRecDepth 100000
set_option linter.unusedSimpArgs false

set_option maxHeartbeats 16000000 in
theorem metaFinds_11 (w : World) (name : ByteArray) (hn : ¬ (50 : Int) < name.size) : Calls Try.prog 4 #[.string name, .int .i64 1, .bool true] w fun e w' => e = .returned (.bool true) ∧ Below w.heap.size w w' := by
  refine post_gen fun R hR => ?_
  go_enter Try.func4, Try.ntmps4
  (try go_wp2_with fail)
  refine (asks18_true w).mono ?_
  rintro e w1 ⟨rfl, hB⟩
  have HB := hidden (Keeps.of_below hB)
  clear hB
  (try go_wp2_with fail)
  refine (heap_New w1 50).mono ?_
  rintro e w2 ⟨hb, F0, rfl, hH, hK, hF⟩
  have H3 := hidden (show Hd w hb F0 [] ⟨[], 0, 50, 0, 0⟩ w2 from ⟨hH, HOk.new 50, fun k h => (hF k h).elim (fun h => h.elim) (fun h => Nat.le_trans HB.out.size h), HB.out.trans hK (fun _ _ h => h.elim)⟩)
  have S4 := hidden (show (⟨[], 0, 50, 0, 0⟩ : HSt).live = 0 ∧ (⟨[], 0, 50, 0, 0⟩ : HSt).limit = 50 from ⟨rfl, rfl⟩)
  clear hH hK hF
  clear HB
  have C5 := hidden (value_Int 5 w2)
  (try unfold V.val at C5)
  (try unfold V.null at C5)
  (try dsimp only [rV, iV] at C5)
  (try go_wp2_with fail)
  refine C5.out.mono ?_
  rintro e w6 ⟨rfl, hK⟩
  have H7 := hidden (H3.out.calm hK)
  clear C5 hK H3
  (try go_wp2_with fail)
  have V11 := hidden (show Vr F0 (w6.alloc (.cells #[.int .i64 2, .int .i64 5, .string ⟨#[]⟩] 29)) w6.heap.size ⟨2, 5, ⟨#[]⟩⟩ from Vr.new ⟨2, 5, ⟨#[]⟩⟩ H7.out.heap.inw)
  have SZ12 := hidden (show (w6.alloc (.cells #[.int .i64 2, .int .i64 5, .string ⟨#[]⟩] 29)).heap.size = w6.heap.size + 1 from by simp)
  have GE13 := hidden (show w.heap.size ≤ w6.heap.size from H7.out.K.size)
  have K8 := (Keeps.refl (fun _ => False) w6).alloc (.cells #[.int .i64 2, .int .i64 5, .string ⟨#[]⟩] 29)
  have H14 := hidden (H7.out.calm K8)
  clear K8 H7
  generalize w6.heap.size = v9 at *
  generalize w6.alloc (.cells #[.int .i64 2, .int .i64 5, .string ⟨#[]⟩] 29) = w10 at *
  (try go_wp2_with fail)
  have K15 := (Keeps.refl (fun _ => False) w10).alloc (.cells #[.int .i64 0] 2)
  have IN := hidden (show Ints (w10.alloc (.cells #[.int .i64 0] 2)) (some ⟨v9 + 1, 0, none⟩) [0] from Ints.lit w10 [0] 2 SZ12.out.symm)
  have H18 := hidden (H14.out.calm K15)
  have V19 := hidden (V11.out.calm K15)
  clear K15 H14 V11
  clear SZ12
  generalize w10.alloc (.cells #[.int .i64 0] 2) = w17 at *
  have C20 := hidden (value_Null w17)
  unfold V.val V.null at C20
  refine C20.out.mono ?_
  rintro e w21 ⟨rfl, hK⟩
  have IN1 := hidden (IN.out.keeps hK (fun _ _ _ _ h => h))
  have H22 := hidden (H18.out.calm hK)
  have V23 := hidden (V19.out.calm hK)
  clear C20 hK IN H18 V19
  (try go_wp2_with fail)
  have K24 := (Keeps.refl (fun _ => False) w21).alloc (.cells #[.int .i64 0, .int .i64 0, .string ⟨#[]⟩] 29)
  have VL0 := hidden (show Vals (w21.alloc (.cells #[.int .i64 0, .int .i64 0, .string ⟨#[]⟩] 29)) (some ⟨w21.heap.size, 0, none⟩) [V.null] from Vals.lit w21 [V.null] _ rfl)
  have IN2 := hidden (IN1.out.keeps K24 (fun _ _ _ _ h => h))
  clear IN1
  have H26 := hidden (H22.out.calm K24)
  have V27 := hidden (V23.out.calm K24)
  clear K24 H22 V23
  generalize w21.heap.size = vb28 at *
  generalize w21.alloc (.cells #[.int .i64 0, .int .i64 0, .string ⟨#[]⟩] 29) = w25 at *
  have C29 := hidden (heap_Alloc_native 0 ⟨#[]⟩ H26.out.heap H26.out.ok (by decide) VL0.out IN2.out)
  clear VL0 IN2
  refine C29.out.mono ?_
  rintro e w30 ⟨at', pat, F31, HH32, st33, rfl, hM⟩
  have N34 := hidden (show HH32[at']? = some (some (pat, natCl 0 ⟨#[]⟩)) from hM.new.at_)
  have S35 := hidden (show st33.live = 1 ∧ st33.limit = 50 from ⟨by rw [hM.live]; decide, by rw [hM.limit]⟩)
  have H36 := hidden (H26.out.made hM (fun k h => h.elim))
  have V37 := hidden (V27.out.step hM.keeps hM.fr)
  clear C29 hM S4 H26 V27
  have C38 := hidden (heap_Ref at' w30)
  (try unfold V.val at C38)
  (try unfold V.null at C38)
  (try dsimp only [rV, iV] at C38)
  (try go_wp2_with fail)
  refine C38.out.mono ?_
  rintro e w39 ⟨rfl, hK⟩
  have H40 := hidden (H36.out.calm hK)
  have V41 := hidden (V37.out.calm hK)
  clear C38 hK H36 V37
  obtain ⟨s0, s1, s2, s3, s4, s5⟩ := V41.out.var.cells
  have sz := blk_lt V41.out.var
  (try dsimp only at s0 s1 s2)
  (try go_wp2_with fail)
  clear s0 s1 s2 s3 s4 s5 sz
  have kv := (Keeps.refl (fun k => k = v9) w39).var (r := v9) (fun _ => rfl) (.int .i64 4) (.int .i64 at') (.string ⟨#[]⟩)
  have V43 := hidden (show Vr F31 (((w39.setCell ⟨v9, 0, none⟩ (.int .i64 4)).setCell ⟨v9, 1, none⟩ (.int .i64 at')).setCell ⟨v9, 2, none⟩ (.string ⟨#[]⟩)) v9 ⟨4, at', ⟨#[]⟩⟩ from ⟨V41.out.var.set ⟨4, at', ⟨#[]⟩⟩, V41.out.off⟩)
  have H44 := hidden (H40.out.other kv (fun k h1 h2 => V41.out.off (h2 ▸ h1)) (fun k h1 => h1 ▸ GE13.out))
  clear kv V41 H40
  generalize ((w39.setCell ⟨v9, 0, none⟩ (.int .i64 4)).setCell ⟨v9, 1, none⟩ (.int .i64 at')).setCell ⟨v9, 2, none⟩ (.string ⟨#[]⟩) = w42 at *
  have C45 := hidden (heap_NewTable_nil _ _ _ _ _ H44.out.heap H44.out.ok (by rw [S35.out.1, S35.out.2]; decide))
  (try unfold V.val at C45)
  (try unfold V.null at C45)
  (try dsimp only [rV, iV] at C45)
  (try go_wp2_with fail)
  refine C45.out.mono ?_
  rintro e w46 ⟨t, pt, tt, F47, HH48, st49, rfl, hM⟩
  have N50 := hidden (hM.new.old N34.out)
  have E51 := hidden (hM.new.ne N34.out)
  have N52 := hidden (show HH48[t]? = some (some (pt, tableCl tt [] 0)) from hM.new.at_)
  have S53 := hidden (show st49.live = 2 ∧ st49.limit = 50 from ⟨by rw [hM.live, S35.out.1]; decide, by rw [hM.limit, S35.out.2]⟩)
  have H54 := hidden (H44.out.made hM (fun k h => h.elim))
  have V55 := hidden (V43.out.step hM.keeps hM.fr)
  clear C45 hM N34 S35 H44 V43
  (try go_wp2_with fail)
  have V59 := hidden (show Vr F47 (w46.alloc (.cells #[.int .i64 4, .int .i64 t, .string ⟨#[]⟩] 29)) w46.heap.size ⟨4, t, ⟨#[]⟩⟩ from Vr.new ⟨4, t, ⟨#[]⟩⟩ H54.out.heap.inw)
  have SZ60 := hidden (show (w46.alloc (.cells #[.int .i64 4, .int .i64 t, .string ⟨#[]⟩] 29)).heap.size = w46.heap.size + 1 from by simp)
  have GE61 := hidden (show w.heap.size ≤ w46.heap.size from H54.out.K.size)
  have K56 := (Keeps.refl (fun _ => False) w46).alloc (.cells #[.int .i64 4, .int .i64 t, .string ⟨#[]⟩] 29)
  have H62 := hidden (H54.out.calm K56)
  have V63 := hidden (V55.out.calm K56)
  clear K56 H54 V55
  generalize w46.heap.size = v57 at *
  generalize w46.alloc (.cells #[.int .i64 4, .int .i64 t, .string ⟨#[]⟩] 29) = w58 at *
  have C64 := hidden (heap_NewTable_nil _ _ _ _ _ H62.out.heap H62.out.ok (by rw [S53.out.1, S53.out.2]; decide))
  (try unfold V.val at C64)
  (try unfold V.null at C64)
  (try dsimp only [rV, iV] at C64)
  (try go_wp2_with fail)
  refine C64.out.mono ?_
  rintro e w65 ⟨d, pd, td, F66, HH67, st68, rfl, hM⟩
  have N69 := hidden (hM.new.old N50.out)
  have E70 := hidden (hM.new.ne N50.out)
  have N71 := hidden (hM.new.old N52.out)
  have E72 := hidden (hM.new.ne N52.out)
  have N73 := hidden (show HH67[d]? = some (some (pd, tableCl td [] 0)) from hM.new.at_)
  have S74 := hidden (show st68.live = 3 ∧ st68.limit = 50 from ⟨by rw [hM.live, S53.out.1]; decide, by rw [hM.limit, S53.out.2]⟩)
  have H75 := hidden (H62.out.made hM (fun k h => h.elim))
  have V76 := hidden (V63.out.step hM.keeps hM.fr)
  have V77 := hidden (V59.out.step hM.keeps hM.fr)
  clear C64 hM N50 N52 S53 H62 V63 V59
  (try go_wp2_with fail)
  have V81 := hidden (show Vr F66 (w65.alloc (.cells #[.int .i64 4, .int .i64 d, .string ⟨#[]⟩] 29)) w65.heap.size ⟨4, d, ⟨#[]⟩⟩ from Vr.new ⟨4, d, ⟨#[]⟩⟩ H75.out.heap.inw)
  have SZ82 := hidden (show (w65.alloc (.cells #[.int .i64 4, .int .i64 d, .string ⟨#[]⟩] 29)).heap.size = w65.heap.size + 1 from by simp)
  have GE83 := hidden (show w.heap.size ≤ w65.heap.size from H75.out.K.size)
  have K78 := (Keeps.refl (fun _ => False) w65).alloc (.cells #[.int .i64 4, .int .i64 d, .string ⟨#[]⟩] 29)
  have H84 := hidden (H75.out.calm K78)
  have V85 := hidden (V76.out.calm K78)
  have V86 := hidden (V77.out.calm K78)
  clear K78 H75 V76 V77
  generalize w65.heap.size = v79 at *
  generalize w65.alloc (.cells #[.int .i64 4, .int .i64 d, .string ⟨#[]⟩] 29) = w80 at *
  have C87 := hidden (heap_NewTable_nil _ _ _ _ _ H84.out.heap H84.out.ok (by rw [S74.out.1, S74.out.2]; decide))
  (try unfold V.val at C87)
  (try unfold V.null at C87)
  (try dsimp only [rV, iV] at C87)
  (try go_wp2_with fail)
  refine C87.out.mono ?_
  rintro e w88 ⟨u, pu, tu, F89, HH90, st91, rfl, hM⟩
  have N92 := hidden (hM.new.old N69.out)
  have E93 := hidden (hM.new.ne N69.out)
  have N94 := hidden (hM.new.old N71.out)
  have E95 := hidden (hM.new.ne N71.out)
  have N96 := hidden (hM.new.old N73.out)
  have E97 := hidden (hM.new.ne N73.out)
  have N98 := hidden (show HH90[u]? = some (some (pu, tableCl tu [] 0)) from hM.new.at_)
  have S99 := hidden (show st91.live = 4 ∧ st91.limit = 50 from ⟨by rw [hM.live, S74.out.1]; decide, by rw [hM.limit, S74.out.2]⟩)
  have H100 := hidden (H84.out.made hM (fun k h => h.elim))
  have V101 := hidden (V85.out.step hM.keeps hM.fr)
  have V102 := hidden (V86.out.step hM.keeps hM.fr)
  have V103 := hidden (V81.out.step hM.keeps hM.fr)
  clear C87 hM N69 N71 N73 S74 H84 V85 V86 V81
  (try go_wp2_with fail)
  have V107 := hidden (show Vr F89 (w88.alloc (.cells #[.int .i64 4, .int .i64 u, .string ⟨#[]⟩] 29)) w88.heap.size ⟨4, u, ⟨#[]⟩⟩ from Vr.new ⟨4, u, ⟨#[]⟩⟩ H100.out.heap.inw)
  have SZ108 := hidden (show (w88.alloc (.cells #[.int .i64 4, .int .i64 u, .string ⟨#[]⟩] 29)).heap.size = w88.heap.size + 1 from by simp)
  have GE109 := hidden (show w.heap.size ≤ w88.heap.size from H100.out.K.size)
  have K104 := (Keeps.refl (fun _ => False) w88).alloc (.cells #[.int .i64 4, .int .i64 u, .string ⟨#[]⟩] 29)
  have H110 := hidden (H100.out.calm K104)
  have V111 := hidden (V101.out.calm K104)
  have V112 := hidden (V102.out.calm K104)
  have V113 := hidden (V103.out.calm K104)
  clear K104 H100 V101 V102 V103
  generalize w88.heap.size = v105 at *
  generalize w88.alloc (.cells #[.int .i64 4, .int .i64 u, .string ⟨#[]⟩] 29) = w106 at *
  have C114 := hidden (value_Null w106)
  (try unfold V.val at C114)
  (try unfold V.null at C114)
  (try dsimp only [rV, iV] at C114)
  (try go_wp2_with fail)
  refine C114.out.mono ?_
  rintro e w115 ⟨rfl, hK⟩
  have H116 := hidden (H110.out.calm hK)
  have V117 := hidden (V111.out.calm hK)
  have V118 := hidden (V112.out.calm hK)
  have V119 := hidden (V113.out.calm hK)
  have V120 := hidden (V107.out.calm hK)
  clear C114 hK H110 V111 V112 V113 V107
  have C121 := hidden (lay_New_null H116.out.heap H116.out.ok (by rw [S99.out.1, S99.out.2]; decide))
  (try unfold V.val at C121)
  (try unfold V.null at C121)
  (try dsimp only [rV, iV] at C121)
  (try go_wp2_with fail)
  refine C121.out.mono ?_
  rintro e w122 ⟨c, pc, tc, F123, HH124, st125, rfl, hM⟩
  have N126 := hidden (hM.new.old N92.out)
  have E127 := hidden (hM.new.ne N92.out)
  have N128 := hidden (hM.new.old N94.out)
  have E129 := hidden (hM.new.ne N94.out)
  have N130 := hidden (hM.new.old N96.out)
  have E131 := hidden (hM.new.ne N96.out)
  have N132 := hidden (hM.new.old N98.out)
  have E133 := hidden (hM.new.ne N98.out)
  have N134 := hidden (show HH124[c]? = some (some (pc, classCl tc [] 0 V.null)) from hM.new.at_)
  have S135 := hidden (show st125.live = 5 ∧ st125.limit = 50 from ⟨by rw [hM.live, S99.out.1]; decide, by rw [hM.limit, S99.out.2]⟩)
  have H136 := hidden (H116.out.made hM (fun k h => h.elim))
  have V137 := hidden (V117.out.step hM.keeps hM.fr)
  have V138 := hidden (V118.out.step hM.keeps hM.fr)
  have V139 := hidden (V119.out.step hM.keeps hM.fr)
  have V140 := hidden (V120.out.step hM.keeps hM.fr)
  clear C121 hM N92 N94 N96 N98 S99 H116 V117 V118 V119 V120
  obtain ⟨l1410, l1411, l1412, l141z⟩ := V138.out.cells
  (try dsimp only [rV, iV, V.null] at l1410 l1411 l1412)
  obtain ⟨l1420, l1421, l1422, l142z⟩ := V139.out.cells
  (try dsimp only [rV, iV, V.null] at l1420 l1421 l1422)
  (try go_wp2_with fail)
  clear l1410 l1411 l1412 l141z l1420 l1421 l1422 l142z
  have V146 := hidden (show Vr F123 (w122.alloc (.cells #[.int .i64 4, .int .i64 c, .string ⟨#[]⟩] 29)) w122.heap.size ⟨4, c, ⟨#[]⟩⟩ from Vr.new ⟨4, c, ⟨#[]⟩⟩ H136.out.heap.inw)
  have SZ147 := hidden (show (w122.alloc (.cells #[.int .i64 4, .int .i64 c, .string ⟨#[]⟩] 29)).heap.size = w122.heap.size + 1 from by simp)
  have GE148 := hidden (show w.heap.size ≤ w122.heap.size from H136.out.K.size)
  have K143 := (Keeps.refl (fun _ => False) w122).alloc (.cells #[.int .i64 4, .int .i64 c, .string ⟨#[]⟩] 29)
  have H149 := hidden (H136.out.calm K143)
  have V150 := hidden (V137.out.calm K143)
  have V151 := hidden (V138.out.calm K143)
  have V152 := hidden (V139.out.calm K143)
  have V153 := hidden (V140.out.calm K143)
  clear K143 H136 V137 V138 V139 V140
  generalize w122.heap.size = v144 at *
  generalize w122.alloc (.cells #[.int .i64 4, .int .i64 c, .string ⟨#[]⟩] 29) = w145 at *
  have C154 := hidden (slot_SetDelegate_ok H149.out.heap N128.out rfl (b := V.null) (bs := []) rfl (dt := ⟨4, d, ⟨#[]⟩⟩) (l := [rV d]) (.cons N130.out rfl rfl (.nil rfl)) (by simp) (by have := E72.out; simp [rV]; omega))
  (try unfold V.val at C154)
  (try unfold V.null at C154)
  (try dsimp only [rV, iV] at C154)
  (try go_wp2_with fail)
  refine C154.out.mono ?_
  rintro e w155 ⟨F156, rfl, g1, g2, g3⟩
  have N158 := hidden (show (HH124.set t (some (pt, { tableCl tt [] 0 with vals := [⟨4, d, ⟨#[]⟩⟩] })))[at']? = some (some (pat, natCl 0 ⟨#[]⟩)) from set_old N126.out E51.out)
  have N159 := hidden (show (HH124.set t (some (pt, { tableCl tt [] 0 with vals := [⟨4, d, ⟨#[]⟩⟩] })))[t]? = some (some (pt, { tableCl tt [] 0 with vals := [⟨4, d, ⟨#[]⟩⟩] })) from set_self N128.out)
  have N160 := hidden (show (HH124.set t (some (pt, { tableCl tt [] 0 with vals := [⟨4, d, ⟨#[]⟩⟩] })))[d]? = some (some (pd, tableCl td [] 0)) from set_old N130.out (Ne.symm E72.out))
  have N161 := hidden (show (HH124.set t (some (pt, { tableCl tt [] 0 with vals := [⟨4, d, ⟨#[]⟩⟩] })))[u]? = some (some (pu, tableCl tu [] 0)) from set_old N132.out (Ne.symm E95.out))
  have N162 := hidden (show (HH124.set t (some (pt, { tableCl tt [] 0 with vals := [⟨4, d, ⟨#[]⟩⟩] })))[c]? = some (some (pc, classCl tc [] 0 V.null)) from set_old N134.out (Ne.symm E129.out))
  have H163 := hidden (show Hd w hb F156 (HH124.set t (some (pt, { tableCl tt [] 0 with vals := [⟨4, d, ⟨#[]⟩⟩] }))) st125 w155 from H149.out.turn2 N128.out g1 g2 g3)
  have V164 := hidden (V150.out.step g2 g3)
  have V165 := hidden (V151.out.step g2 g3)
  have V166 := hidden (V152.out.step g2 g3)
  have V167 := hidden (V153.out.step g2 g3)
  have V168 := hidden (V146.out.step g2 g3)
  clear C154 g1 g2 g3 N126 N128 N130 N132 N134 H149 V150 V151 V152 V153 V146
  generalize HH124.set t (some (pt, { tableCl tt [] 0 with vals := [⟨4, d, ⟨#[]⟩⟩] })) = HH157 at *
  have C169 := hidden (slot_SetDelegate_ok H163.out.heap N160.out rfl (b := V.null) (bs := []) rfl (dt := ⟨4, u, ⟨#[]⟩⟩) (l := [rV u]) (.cons N161.out rfl rfl (.nil rfl)) (by simp) (by have := E97.out; simp [rV]; omega))
  (try unfold V.val at C169)
  (try unfold V.null at C169)
  (try dsimp only [rV, iV] at C169)
  obtain ⟨l1700, l1701, l1702, l170z⟩ := V166.out.cells
  (try dsimp only [rV, iV, V.null] at l1700 l1701 l1702)
  obtain ⟨l1710, l1711, l1712, l171z⟩ := V167.out.cells
  (try dsimp only [rV, iV, V.null] at l1710 l1711 l1712)
  (try go_wp2_with fail)
  refine C169.out.mono ?_
  rintro e w172 ⟨F173, rfl, g1, g2, g3⟩
  have N175 := hidden (show (HH157.set d (some (pd, { tableCl td [] 0 with vals := [⟨4, u, ⟨#[]⟩⟩] })))[at']? = some (some (pat, natCl 0 ⟨#[]⟩)) from set_old N158.out E70.out)
  have N176 := hidden (show (HH157.set d (some (pd, { tableCl td [] 0 with vals := [⟨4, u, ⟨#[]⟩⟩] })))[t]? = some (some (pt, { tableCl tt [] 0 with vals := [⟨4, d, ⟨#[]⟩⟩] })) from set_old N159.out E72.out)
  have N177 := hidden (show (HH157.set d (some (pd, { tableCl td [] 0 with vals := [⟨4, u, ⟨#[]⟩⟩] })))[d]? = some (some (pd, { tableCl td [] 0 with vals := [⟨4, u, ⟨#[]⟩⟩] })) from set_self N160.out)
  have N178 := hidden (show (HH157.set d (some (pd, { tableCl td [] 0 with vals := [⟨4, u, ⟨#[]⟩⟩] })))[u]? = some (some (pu, tableCl tu [] 0)) from set_old N161.out (Ne.symm E97.out))
  have N179 := hidden (show (HH157.set d (some (pd, { tableCl td [] 0 with vals := [⟨4, u, ⟨#[]⟩⟩] })))[c]? = some (some (pc, classCl tc [] 0 V.null)) from set_old N162.out (Ne.symm E131.out))
  have H180 := hidden (show Hd w hb F173 (HH157.set d (some (pd, { tableCl td [] 0 with vals := [⟨4, u, ⟨#[]⟩⟩] }))) st125 w172 from H163.out.turn2 N160.out g1 g2 g3)
  have V181 := hidden (V164.out.step g2 g3)
  have V182 := hidden (V165.out.step g2 g3)
  have V183 := hidden (V166.out.step g2 g3)
  have V184 := hidden (V167.out.step g2 g3)
  have V185 := hidden (V168.out.step g2 g3)
  clear l1700 l1701 l1702 l170z l1710 l1711 l1712 l171z C169 g1 g2 g3 N158 N159 N160 N161 N162 H163 V164 V165 V166 V167 V168
  generalize HH157.set d (some (pd, { tableCl td [] 0 with vals := [⟨4, u, ⟨#[]⟩⟩] })) = HH174 at *
  have C186 := hidden (value_Str name w172)
  (try unfold V.val at C186)
  (try unfold V.null at C186)
  (try dsimp only [rV, iV] at C186)
  (try go_wp2_with fail)
  refine C186.out.mono ?_
  rintro e w187 ⟨rfl, hK⟩
  have H188 := hidden (H180.out.calm hK)
  have V189 := hidden (V181.out.calm hK)
  have V190 := hidden (V182.out.calm hK)
  have V191 := hidden (V183.out.calm hK)
  have V192 := hidden (V184.out.calm hK)
  have V193 := hidden (V185.out.calm hK)
  clear C186 hK H180 V181 V182 V183 V184 V185
  obtain ⟨l1940, l1941, l1942, l194z⟩ := V191.out.cells
  (try dsimp only [rV, iV, V.null] at l1940 l1941 l1942)
  obtain ⟨l1950, l1951, l1952, l195z⟩ := V189.out.cells
  (try dsimp only [rV, iV, V.null] at l1950 l1951 l1952)
  (try go_wp2_with fail)
  clear l1940 l1941 l1942 l194z l1950 l1951 l1952 l195z
  have V199 := hidden (show Vr F173 (w187.alloc (.cells #[.int .i64 3, .int .i64 0, .string name] 29)) w187.heap.size ⟨3, 0, name⟩ from Vr.new ⟨3, 0, name⟩ H188.out.heap.inw)
  have SZ200 := hidden (show (w187.alloc (.cells #[.int .i64 3, .int .i64 0, .string name] 29)).heap.size = w187.heap.size + 1 from by simp)
  have GE201 := hidden (show w.heap.size ≤ w187.heap.size from H188.out.K.size)
  have K196 := (Keeps.refl (fun _ => False) w187).alloc (.cells #[.int .i64 3, .int .i64 0, .string name] 29)
  have H202 := hidden (H188.out.calm K196)
  have V203 := hidden (V189.out.calm K196)
  have V204 := hidden (V190.out.calm K196)
  have V205 := hidden (V191.out.calm K196)
  have V206 := hidden (V192.out.calm K196)
  have V207 := hidden (V193.out.calm K196)
  clear K196 H188 V189 V190 V191 V192 V193
  generalize w187.heap.size = v197 at *
  generalize w187.alloc (.cells #[.int .i64 3, .int .i64 0, .string name] 29) = w198 at *
  have C208 := hidden (slot_New H202.out.heap N177.out (.inl rfl) rfl (by decide) ⟨#[]⟩ ⟨3, 0, name⟩ ⟨4, at', ⟨#[]⟩⟩ (by simp) (by simp only; omega) (by simp))
  (try unfold V.val at C208)
  (try unfold V.null at C208)
  (try dsimp only [rV, iV] at C208)
  (try go_wp2_with fail)
  refine C208.out.mono ?_
  rintro e w209 ⟨F210, rfl, g1, g2, g3⟩
  have N212 := hidden (show (tabH HH174 d pd ({ tableCl td [] 0 with vals := [⟨4, u, ⟨#[]⟩⟩] }) td (putE [] 0 ⟨3, 0, name⟩ ⟨4, at', ⟨#[]⟩⟩))[at']? = some (some (pat, natCl 0 ⟨#[]⟩)) from set_old N175.out E70.out)
  have N213 := hidden (show (tabH HH174 d pd ({ tableCl td [] 0 with vals := [⟨4, u, ⟨#[]⟩⟩] }) td (putE [] 0 ⟨3, 0, name⟩ ⟨4, at', ⟨#[]⟩⟩))[t]? = some (some (pt, { tableCl tt [] 0 with vals := [⟨4, d, ⟨#[]⟩⟩] })) from set_old N176.out E72.out)
  have N214 := hidden (show (tabH HH174 d pd ({ tableCl td [] 0 with vals := [⟨4, u, ⟨#[]⟩⟩] }) td (putE [] 0 ⟨3, 0, name⟩ ⟨4, at', ⟨#[]⟩⟩))[d]? = some (some (pd, { tableCl td [⟨⟨3, 0, name⟩, ⟨4, at', ⟨#[]⟩⟩, 1, false⟩] 1 with vals := [⟨4, u, ⟨#[]⟩⟩] })) from tabH_at N177.out)
  have N215 := hidden (show (tabH HH174 d pd ({ tableCl td [] 0 with vals := [⟨4, u, ⟨#[]⟩⟩] }) td (putE [] 0 ⟨3, 0, name⟩ ⟨4, at', ⟨#[]⟩⟩))[u]? = some (some (pu, tableCl tu [] 0)) from set_old N178.out (Ne.symm E97.out))
  have N216 := hidden (show (tabH HH174 d pd ({ tableCl td [] 0 with vals := [⟨4, u, ⟨#[]⟩⟩] }) td (putE [] 0 ⟨3, 0, name⟩ ⟨4, at', ⟨#[]⟩⟩))[c]? = some (some (pc, classCl tc [] 0 V.null)) from set_old N179.out (Ne.symm E131.out))
  have H217 := hidden (show Hd w hb F210 (tabH HH174 d pd ({ tableCl td [] 0 with vals := [⟨4, u, ⟨#[]⟩⟩] }) td (putE [] 0 ⟨3, 0, name⟩ ⟨4, at', ⟨#[]⟩⟩)) st125 w209 from H202.out.turn2 N177.out g1 g2 g3)
  have V218 := hidden (V203.out.step g2 g3)
  have V219 := hidden (V204.out.step g2 g3)
  have V220 := hidden (V205.out.step g2 g3)
  have V221 := hidden (V206.out.step g2 g3)
  have V222 := hidden (V207.out.step g2 g3)
  have V223 := hidden (V199.out.step g2 g3)
  clear C208 g1 g2 g3 N175 N176 N177 N178 N179 H202 V203 V204 V205 V206 V207 V199
  generalize tabH HH174 d pd ({ tableCl td [] 0 with vals := [⟨4, u, ⟨#[]⟩⟩] }) td (putE [] 0 ⟨3, 0, name⟩ ⟨4, at', ⟨#[]⟩⟩) = HH211 at *
  have C224 := hidden (lay_Make H217.out.heap H217.out.ok (by rw [S135.out.1, S135.out.2]; decide) N216.out rfl rfl (by decide))
  generalize (fieldsE HH211 []).1 = fl0 at C224
  generalize (fieldsE HH211 []).2 = fl1 at C224
  (try unfold V.val at C224)
  (try unfold V.null at C224)
  (try dsimp only [rV, iV] at C224)
  obtain ⟨l2250, l2251, l2252, l225z⟩ := V222.out.cells
  (try dsimp only [rV, iV, V.null] at l2250 l2251 l2252)
  (try go_wp2_with fail)
  refine C224.out.mono ?_
  rintro e w226 ⟨i, pi, ti, F227, HH228, st229, rfl, hM⟩
  have N230 := hidden (hM.new.old N212.out)
  have E231 := hidden (hM.new.ne N212.out)
  have N232 := hidden (hM.new.old N213.out)
  have E233 := hidden (hM.new.ne N213.out)
  have N234 := hidden (hM.new.old N214.out)
  have E235 := hidden (hM.new.ne N214.out)
  have N236 := hidden (hM.new.old N215.out)
  have E237 := hidden (hM.new.ne N215.out)
  have N238 := hidden (hM.new.old N216.out)
  have E239 := hidden (hM.new.ne N216.out)
  have N240 := hidden (show HH228[i]? = some (some (pi, instCl ti fl0 fl1 ⟨4, c, ⟨#[]⟩⟩)) from hM.new.at_)
  have S241 := hidden (show st229.live = 6 ∧ st229.limit = 50 from ⟨by rw [hM.live, S135.out.1]; decide, by rw [hM.limit, S135.out.2]⟩)
  have H242 := hidden (H217.out.made hM (fun k h => h.elim))
  have V243 := hidden (V218.out.step hM.keeps hM.fr)
  have V244 := hidden (V219.out.step hM.keeps hM.fr)
  have V245 := hidden (V220.out.step hM.keeps hM.fr)
  have V246 := hidden (V221.out.step hM.keeps hM.fr)
  have V247 := hidden (V222.out.step hM.keeps hM.fr)
  have V248 := hidden (V223.out.step hM.keeps hM.fr)
  clear l2250 l2251 l2252 l225z C224 hM N212 N213 N214 N215 N216 S135 H217 V218 V219 V220 V221 V222 V223
  obtain ⟨l2490, l2491, l2492, l249z⟩ := V244.out.cells
  (try dsimp only [rV, iV, V.null] at l2490 l2491 l2492)
  (try go_wp2_with fail)
  clear l2490 l2491 l2492 l249z
  have V253 := hidden (show Vr F227 (w226.alloc (.cells #[.int .i64 4, .int .i64 i, .string ⟨#[]⟩] 29)) w226.heap.size ⟨4, i, ⟨#[]⟩⟩ from Vr.new ⟨4, i, ⟨#[]⟩⟩ H242.out.heap.inw)
  have SZ254 := hidden (show (w226.alloc (.cells #[.int .i64 4, .int .i64 i, .string ⟨#[]⟩] 29)).heap.size = w226.heap.size + 1 from by simp)
  have GE255 := hidden (show w.heap.size ≤ w226.heap.size from H242.out.K.size)
  have K250 := (Keeps.refl (fun _ => False) w226).alloc (.cells #[.int .i64 4, .int .i64 i, .string ⟨#[]⟩] 29)
  have H256 := hidden (H242.out.calm K250)
  have V257 := hidden (V243.out.calm K250)
  have V258 := hidden (V244.out.calm K250)
  have V259 := hidden (V245.out.calm K250)
  have V260 := hidden (V246.out.calm K250)
  have V261 := hidden (V247.out.calm K250)
  have V262 := hidden (V248.out.calm K250)
  clear K250 H242 V243 V244 V245 V246 V247 V248
  generalize w226.heap.size = v251 at *
  generalize w226.alloc (.cells #[.int .i64 4, .int .i64 i, .string ⟨#[]⟩] 29) = w252 at *
  have C263 := hidden (meta_Find_tableB H256.out.heap N232.out rfl (bs := []) rfl N234.out rfl (ls := [[⟨⟨3, 0, name⟩, ⟨4, at', ⟨#[]⟩⟩, 1, false⟩], []]) (.cons N234.out rfl rfl (by decide) rfl (.cons N236.out rfl rfl (by decide) rfl (.nil rfl))) (by simp) name (by omega) (x := ⟨4, at', ⟨#[]⟩⟩) (e0 := 0) (b0 := true) (by simp [tabR, getR]) (by rw [methB_nat N230.out]; rfl))
  (try unfold V.val at C263)
  (try unfold V.null at C263)
  (try dsimp only [rV, iV] at C263)
  (try go_wp2_with fail)
  refine C263.out.mono ?_
  rintro e w264 ⟨rfl, hK⟩
  have H265 := hidden (H256.out.calm hK)
  have V266 := hidden (V257.out.calm hK)
  have V267 := hidden (V258.out.calm hK)
  have V268 := hidden (V259.out.calm hK)
  have V269 := hidden (V260.out.calm hK)
  have V270 := hidden (V261.out.calm hK)
  have V271 := hidden (V262.out.calm hK)
  have V272 := hidden (V253.out.calm hK)
  clear C263 hK H256 V257 V258 V259 V260 V261 V262 V253
  obtain ⟨l2730, l2731, l2732, l273z⟩ := V272.out.cells
  (try dsimp only [rV, iV, V.null] at l2730 l2731 l2732)
  (try go_wp2_with fail)
  clear l2730 l2731 l2732 l273z
  have V277 := hidden (show Vr F227 (w264.alloc (.cells #[.int .i64 4, .int .i64 at', .string ⟨#[]⟩] 29)) w264.heap.size ⟨4, at', ⟨#[]⟩⟩ from Vr.new ⟨4, at', ⟨#[]⟩⟩ H265.out.heap.inw)
  have SZ278 := hidden (show (w264.alloc (.cells #[.int .i64 4, .int .i64 at', .string ⟨#[]⟩] 29)).heap.size = w264.heap.size + 1 from by simp)
  have GE279 := hidden (show w.heap.size ≤ w264.heap.size from H265.out.K.size)
  have K274 := (Keeps.refl (fun _ => False) w264).alloc (.cells #[.int .i64 4, .int .i64 at', .string ⟨#[]⟩] 29)
  have H280 := hidden (H265.out.calm K274)
  have V281 := hidden (V266.out.calm K274)
  have V282 := hidden (V267.out.calm K274)
  have V283 := hidden (V268.out.calm K274)
  have V284 := hidden (V269.out.calm K274)
  have V285 := hidden (V270.out.calm K274)
  have V286 := hidden (V271.out.calm K274)
  have V287 := hidden (V272.out.calm K274)
  clear K274 H265 V266 V267 V268 V269 V270 V271 V272
  generalize w264.heap.size = v275 at *
  generalize w264.alloc (.cells #[.int .i64 4, .int .i64 at', .string ⟨#[]⟩] 29) = w276 at *
  have C288 := hidden (meta_Find_instB H280.out.heap N240.out rfl (bs := []) rfl N238.out rfl rfl (by decide) name (by omega) (x := V.null) (e0 := 3) (b0 := false) (by simp [getR]) (by simp))
  (try unfold V.val at C288)
  (try unfold V.null at C288)
  (try dsimp only [rV, iV] at C288)
  (try go_wp2_with fail)
  refine C288.out.mono ?_
  rintro e w289 ⟨rfl, hK⟩
  have H290 := hidden (H280.out.calm hK)
  have V291 := hidden (V281.out.calm hK)
  have V292 := hidden (V282.out.calm hK)
  have V293 := hidden (V283.out.calm hK)
  have V294 := hidden (V284.out.calm hK)
  have V295 := hidden (V285.out.calm hK)
  have V296 := hidden (V286.out.calm hK)
  have V297 := hidden (V287.out.calm hK)
  have V298 := hidden (V277.out.calm hK)
  clear C288 hK H280 V281 V282 V283 V284 V285 V286 V287 V277
  obtain ⟨l2990, l2991, l2992, l299z⟩ := V295.out.cells
  (try dsimp only [rV, iV, V.null] at l2990 l2991 l2992)
  (try go_wp2_with fail)
  clear l2990 l2991 l2992 l299z
  have V303 := hidden (show Vr F227 (w289.alloc (.cells #[.int .i64 0, .int .i64 0, .string ⟨#[]⟩] 29)) w289.heap.size ⟨0, 0, ⟨#[]⟩⟩ from Vr.new ⟨0, 0, ⟨#[]⟩⟩ H290.out.heap.inw)
  have SZ304 := hidden (show (w289.alloc (.cells #[.int .i64 0, .int .i64 0, .string ⟨#[]⟩] 29)).heap.size = w289.heap.size + 1 from by simp)
  have GE305 := hidden (show w.heap.size ≤ w289.heap.size from H290.out.K.size)
  have K300 := (Keeps.refl (fun _ => False) w289).alloc (.cells #[.int .i64 0, .int .i64 0, .string ⟨#[]⟩] 29)
  have H306 := hidden (H290.out.calm K300)
  have V307 := hidden (V291.out.calm K300)
  have V308 := hidden (V292.out.calm K300)
  have V309 := hidden (V293.out.calm K300)
  have V310 := hidden (V294.out.calm K300)
  have V311 := hidden (V295.out.calm K300)
  have V312 := hidden (V296.out.calm K300)
  have V313 := hidden (V297.out.calm K300)
  have V314 := hidden (V298.out.calm K300)
  clear K300 H290 V291 V292 V293 V294 V295 V296 V297 V298
  generalize w289.heap.size = v301 at *
  generalize w289.alloc (.cells #[.int .i64 0, .int .i64 0, .string ⟨#[]⟩] 29) = w302 at *
  have C315 := hidden (meta_Find_not H306.out.heap ⟨4, c, ⟨#[]⟩⟩ (not_class N238.out rfl).1 (not_class N238.out rfl).2 name)
  (try unfold V.val at C315)
  (try unfold V.null at C315)
  (try dsimp only [rV, iV] at C315)
  (try go_wp2_with fail)
  refine C315.out.mono ?_
  rintro e w316 ⟨rfl, hK⟩
  have H317 := hidden (H306.out.calm hK)
  have V318 := hidden (V307.out.calm hK)
  have V319 := hidden (V308.out.calm hK)
  have V320 := hidden (V309.out.calm hK)
  have V321 := hidden (V310.out.calm hK)
  have V322 := hidden (V311.out.calm hK)
  have V323 := hidden (V312.out.calm hK)
  have V324 := hidden (V313.out.calm hK)
  have V325 := hidden (V314.out.calm hK)
  have V326 := hidden (V303.out.calm hK)
  clear C315 hK H306 V307 V308 V309 V310 V311 V312 V313 V314 V303
  (try go_wp2_with fail)
  have V330 := hidden (show Vr F227 (w316.alloc (.cells #[.int .i64 0, .int .i64 0, .string ⟨#[]⟩] 29)) w316.heap.size ⟨0, 0, ⟨#[]⟩⟩ from Vr.new ⟨0, 0, ⟨#[]⟩⟩ H317.out.heap.inw)
  have SZ331 := hidden (show (w316.alloc (.cells #[.int .i64 0, .int .i64 0, .string ⟨#[]⟩] 29)).heap.size = w316.heap.size + 1 from by simp)
  have GE332 := hidden (show w.heap.size ≤ w316.heap.size from H317.out.K.size)
  have K327 := (Keeps.refl (fun _ => False) w316).alloc (.cells #[.int .i64 0, .int .i64 0, .string ⟨#[]⟩] 29)
  have H333 := hidden (H317.out.calm K327)
  have V334 := hidden (V318.out.calm K327)
  have V335 := hidden (V319.out.calm K327)
  have V336 := hidden (V320.out.calm K327)
  have V337 := hidden (V321.out.calm K327)
  have V338 := hidden (V322.out.calm K327)
  have V339 := hidden (V323.out.calm K327)
  have V340 := hidden (V324.out.calm K327)
  have V341 := hidden (V325.out.calm K327)
  have V342 := hidden (V326.out.calm K327)
  clear K327 H317 V318 V319 V320 V321 V322 V323 V324 V325 V326
  generalize w316.heap.size = v328 at *
  generalize w316.alloc (.cells #[.int .i64 0, .int .i64 0, .string ⟨#[]⟩] 29) = w329 at *
  have C343 := hidden (value_Int 1 w329)
  (try unfold V.val at C343)
  (try unfold V.null at C343)
  (try dsimp only [rV, iV] at C343)
  (try go_wp2_with fail)
  refine C343.out.mono ?_
  rintro e w344 ⟨rfl, hK⟩
  have H345 := hidden (H333.out.calm hK)
  have V346 := hidden (V334.out.calm hK)
  have V347 := hidden (V335.out.calm hK)
  have V348 := hidden (V336.out.calm hK)
  have V349 := hidden (V337.out.calm hK)
  have V350 := hidden (V338.out.calm hK)
  have V351 := hidden (V339.out.calm hK)
  have V352 := hidden (V340.out.calm hK)
  have V353 := hidden (V341.out.calm hK)
  have V354 := hidden (V342.out.calm hK)
  have V355 := hidden (V330.out.calm hK)
  clear C343 hK H333 V334 V335 V336 V337 V338 V339 V340 V341 V342 V330
  have C356 := hidden (meta_Find_not H345.out.heap ⟨2, 1, ⟨#[]⟩⟩ (not_val (by decide) 2) (not_val (by decide) 4) name)
  (try unfold V.val at C356)
  (try unfold V.null at C356)
  (try dsimp only [rV, iV] at C356)
  (try go_wp2_with fail)
  refine C356.out.mono ?_
  rintro e w357 ⟨rfl, hK⟩
  have H358 := hidden (H345.out.calm hK)
  have V359 := hidden (V346.out.calm hK)
  have V360 := hidden (V347.out.calm hK)
  have V361 := hidden (V348.out.calm hK)
  have V362 := hidden (V349.out.calm hK)
  have V363 := hidden (V350.out.calm hK)
  have V364 := hidden (V351.out.calm hK)
  have V365 := hidden (V352.out.calm hK)
  have V366 := hidden (V353.out.calm hK)
  have V367 := hidden (V354.out.calm hK)
  have V368 := hidden (V355.out.calm hK)
  clear C356 hK H345 V346 V347 V348 V349 V350 V351 V352 V353 V354 V355
  obtain ⟨l3690, l3691, l3692, l369z⟩ := V366.out.cells
  (try dsimp only [rV, iV, V.null] at l3690 l3691 l3692)
  obtain ⟨l3700, l3701, l3702, l370z⟩ := V367.out.cells
  (try dsimp only [rV, iV, V.null] at l3700 l3701 l3702)
  obtain ⟨l3710, l3711, l3712, l371z⟩ := V359.out.cells
  (try dsimp only [rV, iV, V.null] at l3710 l3711 l3712)
  (try go_wp2_with fail)
  clear l3690 l3691 l3692 l369z l3700 l3701 l3702 l370z l3710 l3711 l3712 l371z
  have V375 := hidden (show Vr F227 (w357.alloc (.cells #[.int .i64 0, .int .i64 0, .string ⟨#[]⟩] 29)) w357.heap.size ⟨0, 0, ⟨#[]⟩⟩ from Vr.new ⟨0, 0, ⟨#[]⟩⟩ H358.out.heap.inw)
  have SZ376 := hidden (show (w357.alloc (.cells #[.int .i64 0, .int .i64 0, .string ⟨#[]⟩] 29)).heap.size = w357.heap.size + 1 from by simp)
  have GE377 := hidden (show w.heap.size ≤ w357.heap.size from H358.out.K.size)
  have K372 := (Keeps.refl (fun _ => False) w357).alloc (.cells #[.int .i64 0, .int .i64 0, .string ⟨#[]⟩] 29)
  have H378 := hidden (H358.out.calm K372)
  have V379 := hidden (V359.out.calm K372)
  have V380 := hidden (V360.out.calm K372)
  have V381 := hidden (V361.out.calm K372)
  have V382 := hidden (V362.out.calm K372)
  have V383 := hidden (V363.out.calm K372)
  have V384 := hidden (V364.out.calm K372)
  have V385 := hidden (V365.out.calm K372)
  have V386 := hidden (V366.out.calm K372)
  have V387 := hidden (V367.out.calm K372)
  have V388 := hidden (V368.out.calm K372)
  clear K372 H358 V359 V360 V361 V362 V363 V364 V365 V366 V367 V368
  generalize w357.heap.size = v373 at *
  generalize w357.alloc (.cells #[.int .i64 0, .int .i64 0, .string ⟨#[]⟩] 29) = w374 at *
  obtain ⟨l3890, l3891, l3892, l389z⟩ := V386.out.cells
  (try dsimp only [rV, iV, V.null] at l3890 l3891 l3892)
  obtain ⟨l3900, l3901, l3902, l390z⟩ := V387.out.cells
  (try dsimp only [rV, iV, V.null] at l3900 l3901 l3902)
  obtain ⟨l3910, l3911, l3912, l391z⟩ := V379.out.cells
  (try dsimp only [rV, iV, V.null] at l3910 l3911 l3912)
  (try go_wp2_with fail)
  exact hR.out _ _ ⟨rfl, H378.out.K.below (Nat.le_refl _) (fun _ h => h)⟩
end Go.Proofs.Ytmefdniocgcckaa
