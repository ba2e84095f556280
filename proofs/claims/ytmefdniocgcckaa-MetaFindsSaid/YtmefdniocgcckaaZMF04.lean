/- dreylaw18.MetaFinds: where = wh, called = False. -/
import Derived.Test.YtmefdniocgcckaaZHead18
import Derived.Test.YtmefdniocgcckaaGrpI
import Derived.Test.YtmefdniocgcckaaGrpF
set_option linter.unusedSimpArgs false
set_option linter.unusedVariables false
namespace Go.Proofs.Ytmefdniocgcckaa
open Go.RowKit
set_option maxRecDepth 100000
set_option linter.unusedSimpArgs false

set_option maxHeartbeats 16000000 in
theorem metaFinds_04 (w : World) (name : ByteArray) (hn : ¬ (50 : Int) < name.size) (wh : Int) (h0 : wh ≠ 0) (h1 : wh ≠ 1) (h2 : wh ≠ 2) (h3 : wh ≠ 3) : Calls Try.prog 4 #[.string name, .int .i64 wh, .bool false] w fun e w' => e = .returned (.bool true) ∧ Below w.heap.size w w' := by
  have g0 : (wh == 0) = false := by simpa using h0
  have g1 : (wh == 1) = false := by simpa using h1
  have g2 : (wh == 2) = false := by simpa using h2
  have g3 : (wh == 3) = false := by simpa using h3
  refine post_gen fun R hR => ?_
  go_enter Try.func4, Try.ntmps4
  (try go_wp2_with fail)
  refine (asks18_true w).mono ?_
  rintro e w1 ⟨rfl, hB⟩
  have HB := hidden (Keeps.of_below hB)
  clear hB
  (try go_wp2_with fail)
  refine (heap_New w1 50).mono ?_
  rintro e w2 ⟨hb, F0, rfl, hH, hK, hF⟩
  have H3 := hidden (show Hd w hb F0 [] ⟨[], 0, 50, 0, 0⟩ w2 from ⟨hH, HOk.new 50, fun k h => (hF k h).elim (fun h => h.elim) (fun h => Nat.le_trans HB.out.size h), HB.out.trans hK (fun _ _ h => h.elim)⟩)
  have S4 := hidden (show (⟨[], 0, 50, 0, 0⟩ : HSt).live = 0 ∧ (⟨[], 0, 50, 0, 0⟩ : HSt).limit = 50 from ⟨rfl, rfl⟩)
  clear hH hK hF
  clear HB
  have C5 := hidden (value_Int 5 w2)
  (try unfold V.val at C5)
  (try unfold V.null at C5)
  (try dsimp only [rV, iV] at C5)
  (try go_wp2_with fail)
  refine C5.out.mono ?_
  rintro e w6 ⟨rfl, hK⟩
  have H7 := hidden (H3.out.calm hK)
  clear C5 hK H3
  (try go_wp2_with fail)
  have V11 := hidden (show Vr F0 (w6.alloc (.cells #[.int .i64 2, .int .i64 5, .string ⟨#[]⟩] 29)) w6.heap.size ⟨2, 5, ⟨#[]⟩⟩ from Vr.new ⟨2, 5, ⟨#[]⟩⟩ H7.out.heap.inw)
  have SZ12 := hidden (show (w6.alloc (.cells #[.int .i64 2, .int .i64 5, .string ⟨#[]⟩] 29)).heap.size = w6.heap.size + 1 from by simp)
  have GE13 := hidden (show w.heap.size ≤ w6.heap.size from H7.out.K.size)
  have K8 := (Keeps.refl (fun _ => False) w6).alloc (.cells #[.int .i64 2, .int .i64 5, .string ⟨#[]⟩] 29)
  have H14 := hidden (H7.out.calm K8)
  clear K8 H7
  generalize w6.heap.size = v9 at *
  generalize w6.alloc (.cells #[.int .i64 2, .int .i64 5, .string ⟨#[]⟩] 29) = w10 at *
  have C15 := hidden (heap_NewTable_nil _ _ _ _ _ H14.out.heap H14.out.ok (by decide))
  (try unfold V.val at C15)
  (try unfold V.null at C15)
  (try dsimp only [rV, iV] at C15)
  (try go_wp2_with fail)
  refine C15.out.mono ?_
  rintro e w16 ⟨t, pt, tt, F17, HH18, st19, rfl, hM⟩
  have N20 := hidden (show HH18[t]? = some (some (pt, tableCl tt [] 0)) from hM.new.at_)
  have S21 := hidden (show st19.live = 1 ∧ st19.limit = 50 from ⟨by rw [hM.live]; decide, by rw [hM.limit]⟩)
  have H22 := hidden (H14.out.made hM (fun k h => h.elim))
  have V23 := hidden (V11.out.step hM.keeps hM.fr)
  clear C15 hM S4 H14 V11
  (try go_wp2_with fail)
  have V27 := hidden (show Vr F17 (w16.alloc (.cells #[.int .i64 4, .int .i64 t, .string ⟨#[]⟩] 29)) w16.heap.size ⟨4, t, ⟨#[]⟩⟩ from Vr.new ⟨4, t, ⟨#[]⟩⟩ H22.out.heap.inw)
  have SZ28 := hidden (show (w16.alloc (.cells #[.int .i64 4, .int .i64 t, .string ⟨#[]⟩] 29)).heap.size = w16.heap.size + 1 from by simp)
  have GE29 := hidden (show w.heap.size ≤ w16.heap.size from H22.out.K.size)
  have K24 := (Keeps.refl (fun _ => False) w16).alloc (.cells #[.int .i64 4, .int .i64 t, .string ⟨#[]⟩] 29)
  have H30 := hidden (H22.out.calm K24)
  have V31 := hidden (V23.out.calm K24)
  clear K24 H22 V23
  generalize w16.heap.size = v25 at *
  generalize w16.alloc (.cells #[.int .i64 4, .int .i64 t, .string ⟨#[]⟩] 29) = w26 at *
  have C32 := hidden (heap_NewTable_nil _ _ _ _ _ H30.out.heap H30.out.ok (by rw [S21.out.1, S21.out.2]; decide))
  (try unfold V.val at C32)
  (try unfold V.null at C32)
  (try dsimp only [rV, iV] at C32)
  (try go_wp2_with fail)
  refine C32.out.mono ?_
  rintro e w33 ⟨d, pd, td, F34, HH35, st36, rfl, hM⟩
  have N37 := hidden (hM.new.old N20.out)
  have E38 := hidden (hM.new.ne N20.out)
  have N39 := hidden (show HH35[d]? = some (some (pd, tableCl td [] 0)) from hM.new.at_)
  have S40 := hidden (show st36.live = 2 ∧ st36.limit = 50 from ⟨by rw [hM.live, S21.out.1]; decide, by rw [hM.limit, S21.out.2]⟩)
  have H41 := hidden (H30.out.made hM (fun k h => h.elim))
  have V42 := hidden (V31.out.step hM.keeps hM.fr)
  have V43 := hidden (V27.out.step hM.keeps hM.fr)
  clear C32 hM N20 S21 H30 V31 V27
  (try go_wp2_with fail)
  have V47 := hidden (show Vr F34 (w33.alloc (.cells #[.int .i64 4, .int .i64 d, .string ⟨#[]⟩] 29)) w33.heap.size ⟨4, d, ⟨#[]⟩⟩ from Vr.new ⟨4, d, ⟨#[]⟩⟩ H41.out.heap.inw)
  have SZ48 := hidden (show (w33.alloc (.cells #[.int .i64 4, .int .i64 d, .string ⟨#[]⟩] 29)).heap.size = w33.heap.size + 1 from by simp)
  have GE49 := hidden (show w.heap.size ≤ w33.heap.size from H41.out.K.size)
  have K44 := (Keeps.refl (fun _ => False) w33).alloc (.cells #[.int .i64 4, .int .i64 d, .string ⟨#[]⟩] 29)
  have H50 := hidden (H41.out.calm K44)
  have V51 := hidden (V42.out.calm K44)
  have V52 := hidden (V43.out.calm K44)
  clear K44 H41 V42 V43
  generalize w33.heap.size = v45 at *
  generalize w33.alloc (.cells #[.int .i64 4, .int .i64 d, .string ⟨#[]⟩] 29) = w46 at *
  have C53 := hidden (heap_NewTable_nil _ _ _ _ _ H50.out.heap H50.out.ok (by rw [S40.out.1, S40.out.2]; decide))
  (try unfold V.val at C53)
  (try unfold V.null at C53)
  (try dsimp only [rV, iV] at C53)
  (try go_wp2_with fail)
  refine C53.out.mono ?_
  rintro e w54 ⟨u, pu, tu, F55, HH56, st57, rfl, hM⟩
  have N58 := hidden (hM.new.old N37.out)
  have E59 := hidden (hM.new.ne N37.out)
  have N60 := hidden (hM.new.old N39.out)
  have E61 := hidden (hM.new.ne N39.out)
  have N62 := hidden (show HH56[u]? = some (some (pu, tableCl tu [] 0)) from hM.new.at_)
  have S63 := hidden (show st57.live = 3 ∧ st57.limit = 50 from ⟨by rw [hM.live, S40.out.1]; decide, by rw [hM.limit, S40.out.2]⟩)
  have H64 := hidden (H50.out.made hM (fun k h => h.elim))
  have V65 := hidden (V51.out.step hM.keeps hM.fr)
  have V66 := hidden (V52.out.step hM.keeps hM.fr)
  have V67 := hidden (V47.out.step hM.keeps hM.fr)
  clear C53 hM N37 N39 S40 H50 V51 V52 V47
  (try go_wp2_with fail)
  have V71 := hidden (show Vr F55 (w54.alloc (.cells #[.int .i64 4, .int .i64 u, .string ⟨#[]⟩] 29)) w54.heap.size ⟨4, u, ⟨#[]⟩⟩ from Vr.new ⟨4, u, ⟨#[]⟩⟩ H64.out.heap.inw)
  have SZ72 := hidden (show (w54.alloc (.cells #[.int .i64 4, .int .i64 u, .string ⟨#[]⟩] 29)).heap.size = w54.heap.size + 1 from by simp)
  have GE73 := hidden (show w.heap.size ≤ w54.heap.size from H64.out.K.size)
  have K68 := (Keeps.refl (fun _ => False) w54).alloc (.cells #[.int .i64 4, .int .i64 u, .string ⟨#[]⟩] 29)
  have H74 := hidden (H64.out.calm K68)
  have V75 := hidden (V65.out.calm K68)
  have V76 := hidden (V66.out.calm K68)
  have V77 := hidden (V67.out.calm K68)
  clear K68 H64 V65 V66 V67
  generalize w54.heap.size = v69 at *
  generalize w54.alloc (.cells #[.int .i64 4, .int .i64 u, .string ⟨#[]⟩] 29) = w70 at *
  have C78 := hidden (value_Null w70)
  (try unfold V.val at C78)
  (try unfold V.null at C78)
  (try dsimp only [rV, iV] at C78)
  (try go_wp2_with fail)
  refine C78.out.mono ?_
  rintro e w79 ⟨rfl, hK⟩
  have H80 := hidden (H74.out.calm hK)
  have V81 := hidden (V75.out.calm hK)
  have V82 := hidden (V76.out.calm hK)
  have V83 := hidden (V77.out.calm hK)
  have V84 := hidden (V71.out.calm hK)
  clear C78 hK H74 V75 V76 V77 V71
  have C85 := hidden (lay_New_null H80.out.heap H80.out.ok (by rw [S63.out.1, S63.out.2]; decide))
  (try unfold V.val at C85)
  (try unfold V.null at C85)
  (try dsimp only [rV, iV] at C85)
  (try go_wp2_with fail)
  refine C85.out.mono ?_
  rintro e w86 ⟨c, pc, tc, F87, HH88, st89, rfl, hM⟩
  have N90 := hidden (hM.new.old N58.out)
  have E91 := hidden (hM.new.ne N58.out)
  have N92 := hidden (hM.new.old N60.out)
  have E93 := hidden (hM.new.ne N60.out)
  have N94 := hidden (hM.new.old N62.out)
  have E95 := hidden (hM.new.ne N62.out)
  have N96 := hidden (show HH88[c]? = some (some (pc, classCl tc [] 0 V.null)) from hM.new.at_)
  have S97 := hidden (show st89.live = 4 ∧ st89.limit = 50 from ⟨by rw [hM.live, S63.out.1]; decide, by rw [hM.limit, S63.out.2]⟩)
  have H98 := hidden (H80.out.made hM (fun k h => h.elim))
  have V99 := hidden (V81.out.step hM.keeps hM.fr)
  have V100 := hidden (V82.out.step hM.keeps hM.fr)
  have V101 := hidden (V83.out.step hM.keeps hM.fr)
  have V102 := hidden (V84.out.step hM.keeps hM.fr)
  clear C85 hM N58 N60 N62 S63 H80 V81 V82 V83 V84
  obtain ⟨l1030, l1031, l1032, l103z⟩ := V100.out.cells
  (try dsimp only [rV, iV, V.null] at l1030 l1031 l1032)
  obtain ⟨l1040, l1041, l1042, l104z⟩ := V101.out.cells
  (try dsimp only [rV, iV, V.null] at l1040 l1041 l1042)
  (try go_wp2_with fail)
  clear l1030 l1031 l1032 l103z l1040 l1041 l1042 l104z
  have V108 := hidden (show Vr F87 (w86.alloc (.cells #[.int .i64 4, .int .i64 c, .string ⟨#[]⟩] 29)) w86.heap.size ⟨4, c, ⟨#[]⟩⟩ from Vr.new ⟨4, c, ⟨#[]⟩⟩ H98.out.heap.inw)
  have SZ109 := hidden (show (w86.alloc (.cells #[.int .i64 4, .int .i64 c, .string ⟨#[]⟩] 29)).heap.size = w86.heap.size + 1 from by simp)
  have GE110 := hidden (show w.heap.size ≤ w86.heap.size from H98.out.K.size)
  have K105 := (Keeps.refl (fun _ => False) w86).alloc (.cells #[.int .i64 4, .int .i64 c, .string ⟨#[]⟩] 29)
  have H111 := hidden (H98.out.calm K105)
  have V112 := hidden (V99.out.calm K105)
  have V113 := hidden (V100.out.calm K105)
  have V114 := hidden (V101.out.calm K105)
  have V115 := hidden (V102.out.calm K105)
  clear K105 H98 V99 V100 V101 V102
  generalize w86.heap.size = v106 at *
  generalize w86.alloc (.cells #[.int .i64 4, .int .i64 c, .string ⟨#[]⟩] 29) = w107 at *
  have C116 := hidden (slot_SetDelegate_ok H111.out.heap N90.out rfl (b := V.null) (bs := []) rfl (dt := ⟨4, d, ⟨#[]⟩⟩) (l := [rV d]) (.cons N92.out rfl rfl (.nil rfl)) (by simp) (by have := E38.out; simp [rV]; omega))
  (try unfold V.val at C116)
  (try unfold V.null at C116)
  (try dsimp only [rV, iV] at C116)
  (try go_wp2_with fail)
  refine C116.out.mono ?_
  rintro e w117 ⟨F118, rfl, g1, g2, g3⟩
  have N120 := hidden (show (HH88.set t (some (pt, { tableCl tt [] 0 with vals := [⟨4, d, ⟨#[]⟩⟩] })))[t]? = some (some (pt, { tableCl tt [] 0 with vals := [⟨4, d, ⟨#[]⟩⟩] })) from set_self N90.out)
  have N121 := hidden (show (HH88.set t (some (pt, { tableCl tt [] 0 with vals := [⟨4, d, ⟨#[]⟩⟩] })))[d]? = some (some (pd, tableCl td [] 0)) from set_old N92.out (Ne.symm E38.out))
  have N122 := hidden (show (HH88.set t (some (pt, { tableCl tt [] 0 with vals := [⟨4, d, ⟨#[]⟩⟩] })))[u]? = some (some (pu, tableCl tu [] 0)) from set_old N94.out (Ne.symm E59.out))
  have N123 := hidden (show (HH88.set t (some (pt, { tableCl tt [] 0 with vals := [⟨4, d, ⟨#[]⟩⟩] })))[c]? = some (some (pc, classCl tc [] 0 V.null)) from set_old N96.out (Ne.symm E91.out))
  have H124 := hidden (show Hd w hb F118 (HH88.set t (some (pt, { tableCl tt [] 0 with vals := [⟨4, d, ⟨#[]⟩⟩] }))) st89 w117 from H111.out.turn2 N90.out g1 g2 g3)
  have V125 := hidden (V112.out.step g2 g3)
  have V126 := hidden (V113.out.step g2 g3)
  have V127 := hidden (V114.out.step g2 g3)
  have V128 := hidden (V115.out.step g2 g3)
  have V129 := hidden (V108.out.step g2 g3)
  clear C116 g1 g2 g3 N90 N92 N94 N96 H111 V112 V113 V114 V115 V108
  generalize HH88.set t (some (pt, { tableCl tt [] 0 with vals := [⟨4, d, ⟨#[]⟩⟩] })) = HH119 at *
  have C130 := hidden (slot_SetDelegate_ok H124.out.heap N121.out rfl (b := V.null) (bs := []) rfl (dt := ⟨4, u, ⟨#[]⟩⟩) (l := [rV u]) (.cons N122.out rfl rfl (.nil rfl)) (by simp) (by have := E61.out; simp [rV]; omega))
  (try unfold V.val at C130)
  (try unfold V.null at C130)
  (try dsimp only [rV, iV] at C130)
  obtain ⟨l1310, l1311, l1312, l131z⟩ := V127.out.cells
  (try dsimp only [rV, iV, V.null] at l1310 l1311 l1312)
  obtain ⟨l1320, l1321, l1322, l132z⟩ := V128.out.cells
  (try dsimp only [rV, iV, V.null] at l1320 l1321 l1322)
  (try go_wp2_with fail)
  refine C130.out.mono ?_
  rintro e w133 ⟨F134, rfl, g1, g2, g3⟩
  have N136 := hidden (show (HH119.set d (some (pd, { tableCl td [] 0 with vals := [⟨4, u, ⟨#[]⟩⟩] })))[t]? = some (some (pt, { tableCl tt [] 0 with vals := [⟨4, d, ⟨#[]⟩⟩] })) from set_old N120.out E38.out)
  have N137 := hidden (show (HH119.set d (some (pd, { tableCl td [] 0 with vals := [⟨4, u, ⟨#[]⟩⟩] })))[d]? = some (some (pd, { tableCl td [] 0 with vals := [⟨4, u, ⟨#[]⟩⟩] })) from set_self N121.out)
  have N138 := hidden (show (HH119.set d (some (pd, { tableCl td [] 0 with vals := [⟨4, u, ⟨#[]⟩⟩] })))[u]? = some (some (pu, tableCl tu [] 0)) from set_old N122.out (Ne.symm E61.out))
  have N139 := hidden (show (HH119.set d (some (pd, { tableCl td [] 0 with vals := [⟨4, u, ⟨#[]⟩⟩] })))[c]? = some (some (pc, classCl tc [] 0 V.null)) from set_old N123.out (Ne.symm E93.out))
  have H140 := hidden (show Hd w hb F134 (HH119.set d (some (pd, { tableCl td [] 0 with vals := [⟨4, u, ⟨#[]⟩⟩] }))) st89 w133 from H124.out.turn2 N121.out g1 g2 g3)
  have V141 := hidden (V125.out.step g2 g3)
  have V142 := hidden (V126.out.step g2 g3)
  have V143 := hidden (V127.out.step g2 g3)
  have V144 := hidden (V128.out.step g2 g3)
  have V145 := hidden (V129.out.step g2 g3)
  clear l1310 l1311 l1312 l131z l1320 l1321 l1322 l132z C130 g1 g2 g3 N120 N121 N122 N123 H124 V125 V126 V127 V128 V129
  generalize HH119.set d (some (pd, { tableCl td [] 0 with vals := [⟨4, u, ⟨#[]⟩⟩] })) = HH135 at *
  have C146 := hidden (value_Str name w133)
  (try unfold V.val at C146)
  (try unfold V.null at C146)
  (try dsimp only [rV, iV] at C146)
  (try go_wp2_with fail)
  refine C146.out.mono ?_
  rintro e w147 ⟨rfl, hK⟩
  have H148 := hidden (H140.out.calm hK)
  have V149 := hidden (V141.out.calm hK)
  have V150 := hidden (V142.out.calm hK)
  have V151 := hidden (V143.out.calm hK)
  have V152 := hidden (V144.out.calm hK)
  have V153 := hidden (V145.out.calm hK)
  clear C146 hK H140 V141 V142 V143 V144 V145
  obtain ⟨l1540, l1541, l1542, l154z⟩ := V153.out.cells
  (try dsimp only [rV, iV, V.null] at l1540 l1541 l1542)
  (try go_wp2_with fail)
  clear l1540 l1541 l1542 l154z
  have V158 := hidden (show Vr F134 (w147.alloc (.cells #[.int .i64 3, .int .i64 0, .string name] 29)) w147.heap.size ⟨3, 0, name⟩ from Vr.new ⟨3, 0, name⟩ H148.out.heap.inw)
  have SZ159 := hidden (show (w147.alloc (.cells #[.int .i64 3, .int .i64 0, .string name] 29)).heap.size = w147.heap.size + 1 from by simp)
  have GE160 := hidden (show w.heap.size ≤ w147.heap.size from H148.out.K.size)
  have K155 := (Keeps.refl (fun _ => False) w147).alloc (.cells #[.int .i64 3, .int .i64 0, .string name] 29)
  have H161 := hidden (H148.out.calm K155)
  have V162 := hidden (V149.out.calm K155)
  have V163 := hidden (V150.out.calm K155)
  have V164 := hidden (V151.out.calm K155)
  have V165 := hidden (V152.out.calm K155)
  have V166 := hidden (V153.out.calm K155)
  clear K155 H148 V149 V150 V151 V152 V153
  generalize w147.heap.size = v156 at *
  generalize w147.alloc (.cells #[.int .i64 3, .int .i64 0, .string name] 29) = w157 at *
  have C167 := hidden (lay_Make H161.out.heap H161.out.ok (by rw [S97.out.1, S97.out.2]; decide) N139.out rfl rfl (by decide))
  generalize (fieldsE HH135 []).1 = fl0 at C167
  generalize (fieldsE HH135 []).2 = fl1 at C167
  (try unfold V.val at C167)
  (try unfold V.null at C167)
  (try dsimp only [rV, iV] at C167)
  (try go_wp2_with fail)
  refine C167.out.mono ?_
  rintro e w168 ⟨i, pi, ti, F169, HH170, st171, rfl, hM⟩
  have N172 := hidden (hM.new.old N136.out)
  have E173 := hidden (hM.new.ne N136.out)
  have N174 := hidden (hM.new.old N137.out)
  have E175 := hidden (hM.new.ne N137.out)
  have N176 := hidden (hM.new.old N138.out)
  have E177 := hidden (hM.new.ne N138.out)
  have N178 := hidden (hM.new.old N139.out)
  have E179 := hidden (hM.new.ne N139.out)
  have N180 := hidden (show HH170[i]? = some (some (pi, instCl ti fl0 fl1 ⟨4, c, ⟨#[]⟩⟩)) from hM.new.at_)
  have S181 := hidden (show st171.live = 5 ∧ st171.limit = 50 from ⟨by rw [hM.live, S97.out.1]; decide, by rw [hM.limit, S97.out.2]⟩)
  have H182 := hidden (H161.out.made hM (fun k h => h.elim))
  have V183 := hidden (V162.out.step hM.keeps hM.fr)
  have V184 := hidden (V163.out.step hM.keeps hM.fr)
  have V185 := hidden (V164.out.step hM.keeps hM.fr)
  have V186 := hidden (V165.out.step hM.keeps hM.fr)
  have V187 := hidden (V166.out.step hM.keeps hM.fr)
  have V188 := hidden (V158.out.step hM.keeps hM.fr)
  clear C167 hM N136 N137 N138 N139 S97 H161 V162 V163 V164 V165 V166 V158
  obtain ⟨l1890, l1891, l1892, l189z⟩ := V184.out.cells
  (try dsimp only [rV, iV, V.null] at l1890 l1891 l1892)
  (try go_wp2_with fail)
  clear l1890 l1891 l1892 l189z
  have V193 := hidden (show Vr F169 (w168.alloc (.cells #[.int .i64 4, .int .i64 i, .string ⟨#[]⟩] 29)) w168.heap.size ⟨4, i, ⟨#[]⟩⟩ from Vr.new ⟨4, i, ⟨#[]⟩⟩ H182.out.heap.inw)
  have SZ194 := hidden (show (w168.alloc (.cells #[.int .i64 4, .int .i64 i, .string ⟨#[]⟩] 29)).heap.size = w168.heap.size + 1 from by simp)
  have GE195 := hidden (show w.heap.size ≤ w168.heap.size from H182.out.K.size)
  have K190 := (Keeps.refl (fun _ => False) w168).alloc (.cells #[.int .i64 4, .int .i64 i, .string ⟨#[]⟩] 29)
  have H196 := hidden (H182.out.calm K190)
  have V197 := hidden (V183.out.calm K190)
  have V198 := hidden (V184.out.calm K190)
  have V199 := hidden (V185.out.calm K190)
  have V200 := hidden (V186.out.calm K190)
  have V201 := hidden (V187.out.calm K190)
  have V202 := hidden (V188.out.calm K190)
  clear K190 H182 V183 V184 V185 V186 V187 V188
  generalize w168.heap.size = v191 at *
  generalize w168.alloc (.cells #[.int .i64 4, .int .i64 i, .string ⟨#[]⟩] 29) = w192 at *
  have C203 := hidden (meta_Find_tableB H196.out.heap N172.out rfl (bs := []) rfl N174.out rfl (ls := [[], []]) (.cons N174.out rfl rfl (by decide) rfl (.cons N176.out rfl rfl (by decide) rfl (.nil rfl))) (by simp) name (by omega) (x := V.null) (e0 := 3) (b0 := false) (by simp [tabR, getR]) (by simp))
  (try unfold V.val at C203)
  (try unfold V.null at C203)
  (try dsimp only [rV, iV] at C203)
  (try go_wp2_with fail)
  refine C203.out.mono ?_
  rintro e w204 ⟨rfl, hK⟩
  have H205 := hidden (H196.out.calm hK)
  have V206 := hidden (V197.out.calm hK)
  have V207 := hidden (V198.out.calm hK)
  have V208 := hidden (V199.out.calm hK)
  have V209 := hidden (V200.out.calm hK)
  have V210 := hidden (V201.out.calm hK)
  have V211 := hidden (V202.out.calm hK)
  have V212 := hidden (V193.out.calm hK)
  clear C203 hK H196 V197 V198 V199 V200 V201 V202 V193
  obtain ⟨l2130, l2131, l2132, l213z⟩ := V212.out.cells
  (try dsimp only [rV, iV, V.null] at l2130 l2131 l2132)
  (try go_wp2_with fail)
  clear l2130 l2131 l2132 l213z
  have V217 := hidden (show Vr F169 (w204.alloc (.cells #[.int .i64 0, .int .i64 0, .string ⟨#[]⟩] 29)) w204.heap.size ⟨0, 0, ⟨#[]⟩⟩ from Vr.new ⟨0, 0, ⟨#[]⟩⟩ H205.out.heap.inw)
  have SZ218 := hidden (show (w204.alloc (.cells #[.int .i64 0, .int .i64 0, .string ⟨#[]⟩] 29)).heap.size = w204.heap.size + 1 from by simp)
  have GE219 := hidden (show w.heap.size ≤ w204.heap.size from H205.out.K.size)
  have K214 := (Keeps.refl (fun _ => False) w204).alloc (.cells #[.int .i64 0, .int .i64 0, .string ⟨#[]⟩] 29)
  have H220 := hidden (H205.out.calm K214)
  have V221 := hidden (V206.out.calm K214)
  have V222 := hidden (V207.out.calm K214)
  have V223 := hidden (V208.out.calm K214)
  have V224 := hidden (V209.out.calm K214)
  have V225 := hidden (V210.out.calm K214)
  have V226 := hidden (V211.out.calm K214)
  have V227 := hidden (V212.out.calm K214)
  clear K214 H205 V206 V207 V208 V209 V210 V211 V212
  generalize w204.heap.size = v215 at *
  generalize w204.alloc (.cells #[.int .i64 0, .int .i64 0, .string ⟨#[]⟩] 29) = w216 at *
  have C228 := hidden (meta_Find_instB H220.out.heap N180.out rfl (bs := []) rfl N178.out rfl rfl (by decide) name (by omega) (x := V.null) (e0 := 3) (b0 := false) (by simp [getR]) (by simp))
  (try unfold V.val at C228)
  (try unfold V.null at C228)
  (try dsimp only [rV, iV] at C228)
  (try go_wp2_with fail)
  refine C228.out.mono ?_
  rintro e w229 ⟨rfl, hK⟩
  have H230 := hidden (H220.out.calm hK)
  have V231 := hidden (V221.out.calm hK)
  have V232 := hidden (V222.out.calm hK)
  have V233 := hidden (V223.out.calm hK)
  have V234 := hidden (V224.out.calm hK)
  have V235 := hidden (V225.out.calm hK)
  have V236 := hidden (V226.out.calm hK)
  have V237 := hidden (V227.out.calm hK)
  have V238 := hidden (V217.out.calm hK)
  clear C228 hK H220 V221 V222 V223 V224 V225 V226 V227 V217
  obtain ⟨l2390, l2391, l2392, l239z⟩ := V235.out.cells
  (try dsimp only [rV, iV, V.null] at l2390 l2391 l2392)
  (try go_wp2_with fail)
  clear l2390 l2391 l2392 l239z
  have V243 := hidden (show Vr F169 (w229.alloc (.cells #[.int .i64 0, .int .i64 0, .string ⟨#[]⟩] 29)) w229.heap.size ⟨0, 0, ⟨#[]⟩⟩ from Vr.new ⟨0, 0, ⟨#[]⟩⟩ H230.out.heap.inw)
  have SZ244 := hidden (show (w229.alloc (.cells #[.int .i64 0, .int .i64 0, .string ⟨#[]⟩] 29)).heap.size = w229.heap.size + 1 from by simp)
  have GE245 := hidden (show w.heap.size ≤ w229.heap.size from H230.out.K.size)
  have K240 := (Keeps.refl (fun _ => False) w229).alloc (.cells #[.int .i64 0, .int .i64 0, .string ⟨#[]⟩] 29)
  have H246 := hidden (H230.out.calm K240)
  have V247 := hidden (V231.out.calm K240)
  have V248 := hidden (V232.out.calm K240)
  have V249 := hidden (V233.out.calm K240)
  have V250 := hidden (V234.out.calm K240)
  have V251 := hidden (V235.out.calm K240)
  have V252 := hidden (V236.out.calm K240)
  have V253 := hidden (V237.out.calm K240)
  have V254 := hidden (V238.out.calm K240)
  clear K240 H230 V231 V232 V233 V234 V235 V236 V237 V238
  generalize w229.heap.size = v241 at *
  generalize w229.alloc (.cells #[.int .i64 0, .int .i64 0, .string ⟨#[]⟩] 29) = w242 at *
  have C255 := hidden (meta_Find_not H246.out.heap ⟨4, c, ⟨#[]⟩⟩ (not_class N178.out rfl).1 (not_class N178.out rfl).2 name)
  (try unfold V.val at C255)
  (try unfold V.null at C255)
  (try dsimp only [rV, iV] at C255)
  (try go_wp2_with fail)
  refine C255.out.mono ?_
  rintro e w256 ⟨rfl, hK⟩
  have H257 := hidden (H246.out.calm hK)
  have V258 := hidden (V247.out.calm hK)
  have V259 := hidden (V248.out.calm hK)
  have V260 := hidden (V249.out.calm hK)
  have V261 := hidden (V250.out.calm hK)
  have V262 := hidden (V251.out.calm hK)
  have V263 := hidden (V252.out.calm hK)
  have V264 := hidden (V253.out.calm hK)
  have V265 := hidden (V254.out.calm hK)
  have V266 := hidden (V243.out.calm hK)
  clear C255 hK H246 V247 V248 V249 V250 V251 V252 V253 V254 V243
  (try go_wp2_with fail)
  have V270 := hidden (show Vr F169 (w256.alloc (.cells #[.int .i64 0, .int .i64 0, .string ⟨#[]⟩] 29)) w256.heap.size ⟨0, 0, ⟨#[]⟩⟩ from Vr.new ⟨0, 0, ⟨#[]⟩⟩ H257.out.heap.inw)
  have SZ271 := hidden (show (w256.alloc (.cells #[.int .i64 0, .int .i64 0, .string ⟨#[]⟩] 29)).heap.size = w256.heap.size + 1 from by simp)
  have GE272 := hidden (show w.heap.size ≤ w256.heap.size from H257.out.K.size)
  have K267 := (Keeps.refl (fun _ => False) w256).alloc (.cells #[.int .i64 0, .int .i64 0, .string ⟨#[]⟩] 29)
  have H273 := hidden (H257.out.calm K267)
  have V274 := hidden (V258.out.calm K267)
  have V275 := hidden (V259.out.calm K267)
  have V276 := hidden (V260.out.calm K267)
  have V277 := hidden (V261.out.calm K267)
  have V278 := hidden (V262.out.calm K267)
  have V279 := hidden (V263.out.calm K267)
  have V280 := hidden (V264.out.calm K267)
  have V281 := hidden (V265.out.calm K267)
  have V282 := hidden (V266.out.calm K267)
  clear K267 H257 V258 V259 V260 V261 V262 V263 V264 V265 V266
  generalize w256.heap.size = v268 at *
  generalize w256.alloc (.cells #[.int .i64 0, .int .i64 0, .string ⟨#[]⟩] 29) = w269 at *
  have C283 := hidden (value_Int 1 w269)
  (try unfold V.val at C283)
  (try unfold V.null at C283)
  (try dsimp only [rV, iV] at C283)
  (try go_wp2_with fail)
  refine C283.out.mono ?_
  rintro e w284 ⟨rfl, hK⟩
  have H285 := hidden (H273.out.calm hK)
  have V286 := hidden (V274.out.calm hK)
  have V287 := hidden (V275.out.calm hK)
  have V288 := hidden (V276.out.calm hK)
  have V289 := hidden (V277.out.calm hK)
  have V290 := hidden (V278.out.calm hK)
  have V291 := hidden (V279.out.calm hK)
  have V292 := hidden (V280.out.calm hK)
  have V293 := hidden (V281.out.calm hK)
  have V294 := hidden (V282.out.calm hK)
  have V295 := hidden (V270.out.calm hK)
  clear C283 hK H273 V274 V275 V276 V277 V278 V279 V280 V281 V282 V270
  have C296 := hidden (meta_Find_not H285.out.heap ⟨2, 1, ⟨#[]⟩⟩ (not_val (by decide) 2) (not_val (by decide) 4) name)
  (try unfold V.val at C296)
  (try unfold V.null at C296)
  (try dsimp only [rV, iV] at C296)
  (try go_wp2_with fail)
  refine C296.out.mono ?_
  rintro e w297 ⟨rfl, hK⟩
  have H298 := hidden (H285.out.calm hK)
  have V299 := hidden (V286.out.calm hK)
  have V300 := hidden (V287.out.calm hK)
  have V301 := hidden (V288.out.calm hK)
  have V302 := hidden (V289.out.calm hK)
  have V303 := hidden (V290.out.calm hK)
  have V304 := hidden (V291.out.calm hK)
  have V305 := hidden (V292.out.calm hK)
  have V306 := hidden (V293.out.calm hK)
  have V307 := hidden (V294.out.calm hK)
  have V308 := hidden (V295.out.calm hK)
  clear C296 hK H285 V286 V287 V288 V289 V290 V291 V292 V293 V294 V295
  obtain ⟨l3090, l3091, l3092, l309z⟩ := V306.out.cells
  (try dsimp only [rV, iV, V.null] at l3090 l3091 l3092)
  obtain ⟨l3100, l3101, l3102, l310z⟩ := V307.out.cells
  (try dsimp only [rV, iV, V.null] at l3100 l3101 l3102)
  obtain ⟨l3110, l3111, l3112, l311z⟩ := V299.out.cells
  (try dsimp only [rV, iV, V.null] at l3110 l3111 l3112)
  (try go_wp2_with fail)
  clear l3090 l3091 l3092 l309z l3100 l3101 l3102 l310z l3110 l3111 l3112 l311z
  have V315 := hidden (show Vr F169 (w297.alloc (.cells #[.int .i64 0, .int .i64 0, .string ⟨#[]⟩] 29)) w297.heap.size ⟨0, 0, ⟨#[]⟩⟩ from Vr.new ⟨0, 0, ⟨#[]⟩⟩ H298.out.heap.inw)
  have SZ316 := hidden (show (w297.alloc (.cells #[.int .i64 0, .int .i64 0, .string ⟨#[]⟩] 29)).heap.size = w297.heap.size + 1 from by simp)
  have GE317 := hidden (show w.heap.size ≤ w297.heap.size from H298.out.K.size)
  have K312 := (Keeps.refl (fun _ => False) w297).alloc (.cells #[.int .i64 0, .int .i64 0, .string ⟨#[]⟩] 29)
  have H318 := hidden (H298.out.calm K312)
  have V319 := hidden (V299.out.calm K312)
  have V320 := hidden (V300.out.calm K312)
  have V321 := hidden (V301.out.calm K312)
  have V322 := hidden (V302.out.calm K312)
  have V323 := hidden (V303.out.calm K312)
  have V324 := hidden (V304.out.calm K312)
  have V325 := hidden (V305.out.calm K312)
  have V326 := hidden (V306.out.calm K312)
  have V327 := hidden (V307.out.calm K312)
  have V328 := hidden (V308.out.calm K312)
  clear K312 H298 V299 V300 V301 V302 V303 V304 V305 V306 V307 V308
  generalize w297.heap.size = v313 at *
  generalize w297.alloc (.cells #[.int .i64 0, .int .i64 0, .string ⟨#[]⟩] 29) = w314 at *
  obtain ⟨l3290, l3291, l3292, l329z⟩ := V326.out.cells
  (try dsimp only [rV, iV, V.null] at l3290 l3291 l3292)
  obtain ⟨l3300, l3301, l3302, l330z⟩ := V327.out.cells
  (try dsimp only [rV, iV, V.null] at l3300 l3301 l3302)
  obtain ⟨l3310, l3311, l3312, l331z⟩ := V319.out.cells
  (try dsimp only [rV, iV, V.null] at l3310 l3311 l3312)
  (try go_wp2_with fail)
  exact hR.out _ _ ⟨rfl, H318.out.K.below (Nat.le_refl _) (fun _ h => h)⟩
end Go.Proofs.Ytmefdniocgcckaa
