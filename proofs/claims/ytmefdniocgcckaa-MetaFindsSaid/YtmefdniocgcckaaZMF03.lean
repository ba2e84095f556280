/- dreylaw18.MetaFinds: where = 3, called = False. -/
import Derived.Test.YtmefdniocgcckaaZHead18
import Derived.Test.YtmefdniocgcckaaGrpI
import Derived.Test.YtmefdniocgcckaaGrpF
set_option linter.unusedSimpArgs false
set_option linter.unusedVariables false
namespace Go.Proofs.Ytmefdniocgcckaa
open Go.RowKit
set_option maxRecDepth 100000
set_option linter.unusedSimpArgs false

set_option maxHeartbeats 16000000 in
theorem metaFinds_03 (w : World) (name : ByteArray) (hn : ¬ (50 : Int) < name.size) : Calls Try.prog 4 #[.string name, .int .i64 3, .bool false] w fun e w' => e = .returned (.bool true) ∧ Below w.heap.size w w' := by
  refine post_gen fun R hR => ?_
  go_enter Try.func4, Try.ntmps4
  (try go_wp2_with fail)
  refine (asks18_true w).mono ?_
  rintro e w1 ⟨rfl, hB⟩
  have HB := hidden (Keeps.of_below hB)
  clear hB
  (try go_wp2_with fail)
  refine (heap_New w1 50).mono ?_
  rintro e w2 ⟨hb, F0, rfl, hH, hK, hF⟩
  have H3 := hidden (show Hd w hb F0 [] ⟨[], 0, 50, 0, 0⟩ w2 from ⟨hH, HOk.new 50, fun k h => (hF k h).elim (fun h => h.elim) (fun h => Nat.le_trans HB.out.size h), HB.out.trans hK (fun _ _ h => h.elim)⟩)
  have S4 := hidden (show (⟨[], 0, 50, 0, 0⟩ : HSt).live = 0 ∧ (⟨[], 0, 50, 0, 0⟩ : HSt).limit = 50 from ⟨rfl, rfl⟩)
  clear hH hK hF
  clear HB
  have C5 := hidden (value_Int 5 w2)
  (try unfold V.val at C5)
  (try unfold V.null at C5)
  (try dsimp only [rV, iV] at C5)
  (try go_wp2_with fail)
  refine C5.out.mono ?_
  rintro e w6 ⟨rfl, hK⟩
  have H7 := hidden (H3.out.calm hK)
  clear C5 hK H3
  (try go_wp2_with fail)
  have V11 := hidden (show Vr F0 (w6.alloc (.cells #[.int .i64 2, .int .i64 5, .string ⟨#[]⟩] 29)) w6.heap.size ⟨2, 5, ⟨#[]⟩⟩ from Vr.new ⟨2, 5, ⟨#[]⟩⟩ H7.out.heap.inw)
  have SZ12 := hidden (show (w6.alloc (.cells #[.int .i64 2, .int .i64 5, .string ⟨#[]⟩] 29)).heap.size = w6.heap.size + 1 from by simp)
  have GE13 := hidden (show w.heap.size ≤ w6.heap.size from H7.out.K.size)
  have K8 := (Keeps.refl (fun _ => False) w6).alloc (.cells #[.int .i64 2, .int .i64 5, .string ⟨#[]⟩] 29)
  have H14 := hidden (H7.out.calm K8)
  clear K8 H7
  generalize w6.heap.size = v9 at *
  generalize w6.alloc (.cells #[.int .i64 2, .int .i64 5, .string ⟨#[]⟩] 29) = w10 at *
  have C15 := hidden (heap_NewTable_nil _ _ _ _ _ H14.out.heap H14.out.ok (by decide))
  (try unfold V.val at C15)
  (try unfold V.null at C15)
  (try dsimp only [rV, iV] at C15)
  (try go_wp2_with fail)
  refine C15.out.mono ?_
  rintro e w16 ⟨t, pt, tt, F17, HH18, st19, rfl, hM⟩
  have N20 := hidden (show HH18[t]? = some (some (pt, tableCl tt [] 0)) from hM.new.at_)
  have S21 := hidden (show st19.live = 1 ∧ st19.limit = 50 from ⟨by rw [hM.live]; decide, by rw [hM.limit]⟩)
  have H22 := hidden (H14.out.made hM (fun k h => h.elim))
  have V23 := hidden (V11.out.step hM.keeps hM.fr)
  clear C15 hM S4 H14 V11
  (try go_wp2_with fail)
  have V27 := hidden (show Vr F17 (w16.alloc (.cells #[.int .i64 4, .int .i64 t, .string ⟨#[]⟩] 29)) w16.heap.size ⟨4, t, ⟨#[]⟩⟩ from Vr.new ⟨4, t, ⟨#[]⟩⟩ H22.out.heap.inw)
  have SZ28 := hidden (show (w16.alloc (.cells #[.int .i64 4, .int .i64 t, .string ⟨#[]⟩] 29)).heap.size = w16.heap.size + 1 from by simp)
  have GE29 := hidden (show w.heap.size ≤ w16.heap.size from H22.out.K.size)
  have K24 := (Keeps.refl (fun _ => False) w16).alloc (.cells #[.int .i64 4, .int .i64 t, .string ⟨#[]⟩] 29)
  have H30 := hidden (H22.out.calm K24)
  have V31 := hidden (V23.out.calm K24)
  clear K24 H22 V23
  generalize w16.heap.size = v25 at *
  generalize w16.alloc (.cells #[.int .i64 4, .int .i64 t, .string ⟨#[]⟩] 29) = w26 at *
  have C32 := hidden (heap_NewTable_nil _ _ _ _ _ H30.out.heap H30.out.ok (by rw [S21.out.1, S21.out.2]; decide))
  (try unfold V.val at C32)
  (try unfold V.null at C32)
  (try dsimp only [rV, iV] at C32)
  (try go_wp2_with fail)
  refine C32.out.mono ?_
  rintro e w33 ⟨d, pd, td, F34, HH35, st36, rfl, hM⟩
  have N37 := hidden (hM.new.old N20.out)
  have E38 := hidden (hM.new.ne N20.out)
  have N39 := hidden (show HH35[d]? = some (some (pd, tableCl td [] 0)) from hM.new.at_)
  have S40 := hidden (show st36.live = 2 ∧ st36.limit = 50 from ⟨by rw [hM.live, S21.out.1]; decide, by rw [hM.limit, S21.out.2]⟩)
  have H41 := hidden (H30.out.made hM (fun k h => h.elim))
  have V42 := hidden (V31.out.step hM.keeps hM.fr)
  have V43 := hidden (V27.out.step hM.keeps hM.fr)
  clear C32 hM N20 S21 H30 V31 V27
  (try go_wp2_with fail)
  have V47 := hidden (show Vr F34 (w33.alloc (.cells #[.int .i64 4, .int .i64 d, .string ⟨#[]⟩] 29)) w33.heap.size ⟨4, d, ⟨#[]⟩⟩ from Vr.new ⟨4, d, ⟨#[]⟩⟩ H41.out.heap.inw)
  have SZ48 := hidden (show (w33.alloc (.cells #[.int .i64 4, .int .i64 d, .string ⟨#[]⟩] 29)).heap.size = w33.heap.size + 1 from by simp)
  have GE49 := hidden (show w.heap.size ≤ w33.heap.size from H41.out.K.size)
  have K44 := (Keeps.refl (fun _ => False) w33).alloc (.cells #[.int .i64 4, .int .i64 d, .string ⟨#[]⟩] 29)
  have H50 := hidden (H41.out.calm K44)
  have V51 := hidden (V42.out.calm K44)
  have V52 := hidden (V43.out.calm K44)
  clear K44 H41 V42 V43
  generalize w33.heap.size = v45 at *
  generalize w33.alloc (.cells #[.int .i64 4, .int .i64 d, .string ⟨#[]⟩] 29) = w46 at *
  have C53 := hidden (heap_NewTable_nil _ _ _ _ _ H50.out.heap H50.out.ok (by rw [S40.out.1, S40.out.2]; decide))
  (try unfold V.val at C53)
  (try unfold V.null at C53)
  (try dsimp only [rV, iV] at C53)
  (try go_wp2_with fail)
  refine C53.out.mono ?_
  rintro e w54 ⟨u, pu, tu, F55, HH56, st57, rfl, hM⟩
  have N58 := hidden (hM.new.old N37.out)
  have E59 := hidden (hM.new.ne N37.out)
  have N60 := hidden (hM.new.old N39.out)
  have E61 := hidden (hM.new.ne N39.out)
  have N62 := hidden (show HH56[u]? = some (some (pu, tableCl tu [] 0)) from hM.new.at_)
  have S63 := hidden (show st57.live = 3 ∧ st57.limit = 50 from ⟨by rw [hM.live, S40.out.1]; decide, by rw [hM.limit, S40.out.2]⟩)
  have H64 := hidden (H50.out.made hM (fun k h => h.elim))
  have V65 := hidden (V51.out.step hM.keeps hM.fr)
  have V66 := hidden (V52.out.step hM.keeps hM.fr)
  have V67 := hidden (V47.out.step hM.keeps hM.fr)
  clear C53 hM N37 N39 S40 H50 V51 V52 V47
  (try go_wp2_with fail)
  have V71 := hidden (show Vr F55 (w54.alloc (.cells #[.int .i64 4, .int .i64 u, .string ⟨#[]⟩] 29)) w54.heap.size ⟨4, u, ⟨#[]⟩⟩ from Vr.new ⟨4, u, ⟨#[]⟩⟩ H64.out.heap.inw)
  have SZ72 := hidden (show (w54.alloc (.cells #[.int .i64 4, .int .i64 u, .string ⟨#[]⟩] 29)).heap.size = w54.heap.size + 1 from by simp)
  have GE73 := hidden (show w.heap.size ≤ w54.heap.size from H64.out.K.size)
  have K68 := (Keeps.refl (fun _ => False) w54).alloc (.cells #[.int .i64 4, .int .i64 u, .string ⟨#[]⟩] 29)
  have H74 := hidden (H64.out.calm K68)
  have V75 := hidden (V65.out.calm K68)
  have V76 := hidden (V66.out.calm K68)
  have V77 := hidden (V67.out.calm K68)
  clear K68 H64 V65 V66 V67
  generalize w54.heap.size = v69 at *
  generalize w54.alloc (.cells #[.int .i64 4, .int .i64 u, .string ⟨#[]⟩] 29) = w70 at *
  have C78 := hidden (value_Null w70)
  (try unfold V.val at C78)
  (try unfold V.null at C78)
  (try dsimp only [rV, iV] at C78)
  (try go_wp2_with fail)
  refine C78.out.mono ?_
  rintro e w79 ⟨rfl, hK⟩
  have H80 := hidden (H74.out.calm hK)
  have V81 := hidden (V75.out.calm hK)
  have V82 := hidden (V76.out.calm hK)
  have V83 := hidden (V77.out.calm hK)
  have V84 := hidden (V71.out.calm hK)
  clear C78 hK H74 V75 V76 V77 V71
  have C85 := hidden (lay_New_null H80.out.heap H80.out.ok (by rw [S63.out.1, S63.out.2]; decide))
  (try unfold V.val at C85)
  (try unfold V.null at C85)
  (try dsimp only [rV, iV] at C85)
  (try go_wp2_with fail)
  refine C85.out.mono ?_
  rintro e w86 ⟨c, pc, tc, F87, HH88, st89, rfl, hM⟩
  have N90 := hidden (hM.new.old N58.out)
  have E91 := hidden (hM.new.ne N58.out)
  have N92 := hidden (hM.new.old N60.out)
  have E93 := hidden (hM.new.ne N60.out)
  have N94 := hidden (hM.new.old N62.out)
  have E95 := hidden (hM.new.ne N62.out)
  have N96 := hidden (show HH88[c]? = some (some (pc, classCl tc [] 0 V.null)) from hM.new.at_)
  have S97 := hidden (show st89.live = 4 ∧ st89.limit = 50 from ⟨by rw [hM.live, S63.out.1]; decide, by rw [hM.limit, S63.out.2]⟩)
  have H98 := hidden (H80.out.made hM (fun k h => h.elim))
  have V99 := hidden (V81.out.step hM.keeps hM.fr)
  have V100 := hidden (V82.out.step hM.keeps hM.fr)
  have V101 := hidden (V83.out.step hM.keeps hM.fr)
  have V102 := hidden (V84.out.step hM.keeps hM.fr)
  clear C85 hM N58 N60 N62 S63 H80 V81 V82 V83 V84
  obtain ⟨l1030, l1031, l1032, l103z⟩ := V100.out.cells
  (try dsimp only [rV, iV, V.null] at l1030 l1031 l1032)
  obtain ⟨l1040, l1041, l1042, l104z⟩ := V101.out.cells
  (try dsimp only [rV, iV, V.null] at l1040 l1041 l1042)
  (try go_wp2_with fail)
  clear l1030 l1031 l1032 l103z l1040 l1041 l1042 l104z
  have V108 := hidden (show Vr F87 (w86.alloc (.cells #[.int .i64 4, .int .i64 c, .string ⟨#[]⟩] 29)) w86.heap.size ⟨4, c, ⟨#[]⟩⟩ from Vr.new ⟨4, c, ⟨#[]⟩⟩ H98.out.heap.inw)
  have SZ109 := hidden (show (w86.alloc (.cells #[.int .i64 4, .int .i64 c, .string ⟨#[]⟩] 29)).heap.size = w86.heap.size + 1 from by simp)
  have GE110 := hidden (show w.heap.size ≤ w86.heap.size from H98.out.K.size)
  have K105 := (Keeps.refl (fun _ => False) w86).alloc (.cells #[.int .i64 4, .int .i64 c, .string ⟨#[]⟩] 29)
  have H111 := hidden (H98.out.calm K105)
  have V112 := hidden (V99.out.calm K105)
  have V113 := hidden (V100.out.calm K105)
  have V114 := hidden (V101.out.calm K105)
  have V115 := hidden (V102.out.calm K105)
  clear K105 H98 V99 V100 V101 V102
  generalize w86.heap.size = v106 at *
  generalize w86.alloc (.cells #[.int .i64 4, .int .i64 c, .string ⟨#[]⟩] 29) = w107 at *
  have C116 := hidden (slot_SetDelegate_ok H111.out.heap N90.out rfl (b := V.null) (bs := []) rfl (dt := ⟨4, d, ⟨#[]⟩⟩) (l := [rV d]) (.cons N92.out rfl rfl (.nil rfl)) (by simp) (by have := E38.out; simp [rV]; omega))
  (try unfold V.val at C116)
  (try unfold V.null at C116)
  (try dsimp only [rV, iV] at C116)
  (try go_wp2_with fail)
  refine C116.out.mono ?_
  rintro e w117 ⟨F118, rfl, g1, g2, g3⟩
  have N120 := hidden (show (HH88.set t (some (pt, { tableCl tt [] 0 with vals := [⟨4, d, ⟨#[]⟩⟩] })))[t]? = some (some (pt, { tableCl tt [] 0 with vals := [⟨4, d, ⟨#[]⟩⟩] })) from set_self N90.out)
  have N121 := hidden (show (HH88.set t (some (pt, { tableCl tt [] 0 with vals := [⟨4, d, ⟨#[]⟩⟩] })))[d]? = some (some (pd, tableCl td [] 0)) from set_old N92.out (Ne.symm E38.out))
  have N122 := hidden (show (HH88.set t (some (pt, { tableCl tt [] 0 with vals := [⟨4, d, ⟨#[]⟩⟩] })))[u]? = some (some (pu, tableCl tu [] 0)) from set_old N94.out (Ne.symm E59.out))
  have N123 := hidden (show (HH88.set t (some (pt, { tableCl tt [] 0 with vals := [⟨4, d, ⟨#[]⟩⟩] })))[c]? = some (some (pc, classCl tc [] 0 V.null)) from set_old N96.out (Ne.symm E91.out))
  have H124 := hidden (show Hd w hb F118 (HH88.set t (some (pt, { tableCl tt [] 0 with vals := [⟨4, d, ⟨#[]⟩⟩] }))) st89 w117 from H111.out.turn2 N90.out g1 g2 g3)
  have V125 := hidden (V112.out.step g2 g3)
  have V126 := hidden (V113.out.step g2 g3)
  have V127 := hidden (V114.out.step g2 g3)
  have V128 := hidden (V115.out.step g2 g3)
  have V129 := hidden (V108.out.step g2 g3)
  clear C116 g1 g2 g3 N90 N92 N94 N96 H111 V112 V113 V114 V115 V108
  generalize HH88.set t (some (pt, { tableCl tt [] 0 with vals := [⟨4, d, ⟨#[]⟩⟩] })) = HH119 at *
  have C130 := hidden (slot_SetDelegate_ok H124.out.heap N121.out rfl (b := V.null) (bs := []) rfl (dt := ⟨4, u, ⟨#[]⟩⟩) (l := [rV u]) (.cons N122.out rfl rfl (.nil rfl)) (by simp) (by have := E61.out; simp [rV]; omega))
  (try unfold V.val at C130)
  (try unfold V.null at C130)
  (try dsimp only [rV, iV] at C130)
  obtain ⟨l1310, l1311, l1312, l131z⟩ := V127.out.cells
  (try dsimp only [rV, iV, V.null] at l1310 l1311 l1312)
  obtain ⟨l1320, l1321, l1322, l132z⟩ := V128.out.cells
  (try dsimp only [rV, iV, V.null] at l1320 l1321 l1322)
  (try go_wp2_with fail)
  refine C130.out.mono ?_
  rintro e w133 ⟨F134, rfl, g1, g2, g3⟩
  have N136 := hidden (show (HH119.set d (some (pd, { tableCl td [] 0 with vals := [⟨4, u, ⟨#[]⟩⟩] })))[t]? = some (some (pt, { tableCl tt [] 0 with vals := [⟨4, d, ⟨#[]⟩⟩] })) from set_old N120.out E38.out)
  have N137 := hidden (show (HH119.set d (some (pd, { tableCl td [] 0 with vals := [⟨4, u, ⟨#[]⟩⟩] })))[d]? = some (some (pd, { tableCl td [] 0 with vals := [⟨4, u, ⟨#[]⟩⟩] })) from set_self N121.out)
  have N138 := hidden (show (HH119.set d (some (pd, { tableCl td [] 0 with vals := [⟨4, u, ⟨#[]⟩⟩] })))[u]? = some (some (pu, tableCl tu [] 0)) from set_old N122.out (Ne.symm E61.out))
  have N139 := hidden (show (HH119.set d (some (pd, { tableCl td [] 0 with vals := [⟨4, u, ⟨#[]⟩⟩] })))[c]? = some (some (pc, classCl tc [] 0 V.null)) from set_old N123.out (Ne.symm E93.out))
  have H140 := hidden (show Hd w hb F134 (HH119.set d (some (pd, { tableCl td [] 0 with vals := [⟨4, u, ⟨#[]⟩⟩] }))) st89 w133 from H124.out.turn2 N121.out g1 g2 g3)
  have V141 := hidden (V125.out.step g2 g3)
  have V142 := hidden (V126.out.step g2 g3)
  have V143 := hidden (V127.out.step g2 g3)
  have V144 := hidden (V128.out.step g2 g3)
  have V145 := hidden (V129.out.step g2 g3)
  clear l1310 l1311 l1312 l131z l1320 l1321 l1322 l132z C130 g1 g2 g3 N120 N121 N122 N123 H124 V125 V126 V127 V128 V129
  generalize HH119.set d (some (pd, { tableCl td [] 0 with vals := [⟨4, u, ⟨#[]⟩⟩] })) = HH135 at *
  have C146 := hidden (value_Str name w133)
  (try unfold V.val at C146)
  (try unfold V.null at C146)
  (try dsimp only [rV, iV] at C146)
  (try go_wp2_with fail)
  refine C146.out.mono ?_
  rintro e w147 ⟨rfl, hK⟩
  have H148 := hidden (H140.out.calm hK)
  have V149 := hidden (V141.out.calm hK)
  have V150 := hidden (V142.out.calm hK)
  have V151 := hidden (V143.out.calm hK)
  have V152 := hidden (V144.out.calm hK)
  have V153 := hidden (V145.out.calm hK)
  clear C146 hK H140 V141 V142 V143 V144 V145
  obtain ⟨l1540, l1541, l1542, l154z⟩ := V153.out.cells
  (try dsimp only [rV, iV, V.null] at l1540 l1541 l1542)
  obtain ⟨l1550, l1551, l1552, l155z⟩ := V149.out.cells
  (try dsimp only [rV, iV, V.null] at l1550 l1551 l1552)
  (try go_wp2_with fail)
  clear l1540 l1541 l1542 l154z l1550 l1551 l1552 l155z
  have V159 := hidden (show Vr F134 (w147.alloc (.cells #[.int .i64 3, .int .i64 0, .string name] 29)) w147.heap.size ⟨3, 0, name⟩ from Vr.new ⟨3, 0, name⟩ H148.out.heap.inw)
  have SZ160 := hidden (show (w147.alloc (.cells #[.int .i64 3, .int .i64 0, .string name] 29)).heap.size = w147.heap.size + 1 from by simp)
  have GE161 := hidden (show w.heap.size ≤ w147.heap.size from H148.out.K.size)
  have K156 := (Keeps.refl (fun _ => False) w147).alloc (.cells #[.int .i64 3, .int .i64 0, .string name] 29)
  have H162 := hidden (H148.out.calm K156)
  have V163 := hidden (V149.out.calm K156)
  have V164 := hidden (V150.out.calm K156)
  have V165 := hidden (V151.out.calm K156)
  have V166 := hidden (V152.out.calm K156)
  have V167 := hidden (V153.out.calm K156)
  clear K156 H148 V149 V150 V151 V152 V153
  generalize w147.heap.size = v157 at *
  generalize w147.alloc (.cells #[.int .i64 3, .int .i64 0, .string name] 29) = w158 at *
  have C168 := hidden (lay_Member H162.out.heap N139.out rfl rfl (by decide) ⟨#[]⟩ ⟨3, 0, name⟩ ⟨2, 5, ⟨#[]⟩⟩ (by simp) (by simp only; omega) (by simp))
  (try unfold V.val at C168)
  (try unfold V.null at C168)
  (try dsimp only [rV, iV] at C168)
  (try go_wp2_with fail)
  refine C168.out.mono ?_
  rintro e w169 ⟨F170, rfl, g1, g2, g3⟩
  have N172 := hidden (show (tabH HH135 c pc (classCl tc [] 0 V.null) tc (putE [] 0 ⟨3, 0, name⟩ ⟨2, 5, ⟨#[]⟩⟩))[t]? = some (some (pt, { tableCl tt [] 0 with vals := [⟨4, d, ⟨#[]⟩⟩] })) from set_old N136.out E91.out)
  have N173 := hidden (show (tabH HH135 c pc (classCl tc [] 0 V.null) tc (putE [] 0 ⟨3, 0, name⟩ ⟨2, 5, ⟨#[]⟩⟩))[d]? = some (some (pd, { tableCl td [] 0 with vals := [⟨4, u, ⟨#[]⟩⟩] })) from set_old N137.out E93.out)
  have N174 := hidden (show (tabH HH135 c pc (classCl tc [] 0 V.null) tc (putE [] 0 ⟨3, 0, name⟩ ⟨2, 5, ⟨#[]⟩⟩))[u]? = some (some (pu, tableCl tu [] 0)) from set_old N138.out E95.out)
  have N175 := hidden (show (tabH HH135 c pc (classCl tc [] 0 V.null) tc (putE [] 0 ⟨3, 0, name⟩ ⟨2, 5, ⟨#[]⟩⟩))[c]? = some (some (pc, classCl tc [⟨⟨3, 0, name⟩, ⟨2, 5, ⟨#[]⟩⟩, 1, false⟩] 1 V.null)) from tabH_at N139.out)
  have H176 := hidden (show Hd w hb F170 (tabH HH135 c pc (classCl tc [] 0 V.null) tc (putE [] 0 ⟨3, 0, name⟩ ⟨2, 5, ⟨#[]⟩⟩)) st89 w169 from H162.out.turn2 N139.out g1 g2 g3)
  have V177 := hidden (V163.out.step g2 g3)
  have V178 := hidden (V164.out.step g2 g3)
  have V179 := hidden (V165.out.step g2 g3)
  have V180 := hidden (V166.out.step g2 g3)
  have V181 := hidden (V167.out.step g2 g3)
  have V182 := hidden (V159.out.step g2 g3)
  clear C168 g1 g2 g3 N136 N137 N138 N139 H162 V163 V164 V165 V166 V167 V159
  generalize tabH HH135 c pc (classCl tc [] 0 V.null) tc (putE [] 0 ⟨3, 0, name⟩ ⟨2, 5, ⟨#[]⟩⟩) = HH171 at *
  have C183 := hidden (lay_Make H176.out.heap H176.out.ok (by rw [S97.out.1, S97.out.2]; decide) N175.out rfl rfl (by decide))
  generalize (fieldsE HH171 [⟨⟨3, 0, name⟩, ⟨2, 5, ⟨#[]⟩⟩, 1, false⟩]).1 = fl0 at C183
  generalize (fieldsE HH171 [⟨⟨3, 0, name⟩, ⟨2, 5, ⟨#[]⟩⟩, 1, false⟩]).2 = fl1 at C183
  (try unfold V.val at C183)
  (try unfold V.null at C183)
  (try dsimp only [rV, iV] at C183)
  obtain ⟨l1840, l1841, l1842, l184z⟩ := V181.out.cells
  (try dsimp only [rV, iV, V.null] at l1840 l1841 l1842)
  (try go_wp2_with fail)
  refine C183.out.mono ?_
  rintro e w185 ⟨i, pi, ti, F186, HH187, st188, rfl, hM⟩
  have N189 := hidden (hM.new.old N172.out)
  have E190 := hidden (hM.new.ne N172.out)
  have N191 := hidden (hM.new.old N173.out)
  have E192 := hidden (hM.new.ne N173.out)
  have N193 := hidden (hM.new.old N174.out)
  have E194 := hidden (hM.new.ne N174.out)
  have N195 := hidden (hM.new.old N175.out)
  have E196 := hidden (hM.new.ne N175.out)
  have N197 := hidden (show HH187[i]? = some (some (pi, instCl ti fl0 fl1 ⟨4, c, ⟨#[]⟩⟩)) from hM.new.at_)
  have S198 := hidden (show st188.live = 5 ∧ st188.limit = 50 from ⟨by rw [hM.live, S97.out.1]; decide, by rw [hM.limit, S97.out.2]⟩)
  have H199 := hidden (H176.out.made hM (fun k h => h.elim))
  have V200 := hidden (V177.out.step hM.keeps hM.fr)
  have V201 := hidden (V178.out.step hM.keeps hM.fr)
  have V202 := hidden (V179.out.step hM.keeps hM.fr)
  have V203 := hidden (V180.out.step hM.keeps hM.fr)
  have V204 := hidden (V181.out.step hM.keeps hM.fr)
  have V205 := hidden (V182.out.step hM.keeps hM.fr)
  clear l1840 l1841 l1842 l184z C183 hM N172 N173 N174 N175 S97 H176 V177 V178 V179 V180 V181 V182
  obtain ⟨l2060, l2061, l2062, l206z⟩ := V201.out.cells
  (try dsimp only [rV, iV, V.null] at l2060 l2061 l2062)
  (try go_wp2_with fail)
  clear l2060 l2061 l2062 l206z
  have V210 := hidden (show Vr F186 (w185.alloc (.cells #[.int .i64 4, .int .i64 i, .string ⟨#[]⟩] 29)) w185.heap.size ⟨4, i, ⟨#[]⟩⟩ from Vr.new ⟨4, i, ⟨#[]⟩⟩ H199.out.heap.inw)
  have SZ211 := hidden (show (w185.alloc (.cells #[.int .i64 4, .int .i64 i, .string ⟨#[]⟩] 29)).heap.size = w185.heap.size + 1 from by simp)
  have GE212 := hidden (show w.heap.size ≤ w185.heap.size from H199.out.K.size)
  have K207 := (Keeps.refl (fun _ => False) w185).alloc (.cells #[.int .i64 4, .int .i64 i, .string ⟨#[]⟩] 29)
  have H213 := hidden (H199.out.calm K207)
  have V214 := hidden (V200.out.calm K207)
  have V215 := hidden (V201.out.calm K207)
  have V216 := hidden (V202.out.calm K207)
  have V217 := hidden (V203.out.calm K207)
  have V218 := hidden (V204.out.calm K207)
  have V219 := hidden (V205.out.calm K207)
  clear K207 H199 V200 V201 V202 V203 V204 V205
  generalize w185.heap.size = v208 at *
  generalize w185.alloc (.cells #[.int .i64 4, .int .i64 i, .string ⟨#[]⟩] 29) = w209 at *
  have C220 := hidden (meta_Find_tableB H213.out.heap N189.out rfl (bs := []) rfl N191.out rfl (ls := [[], []]) (.cons N191.out rfl rfl (by decide) rfl (.cons N193.out rfl rfl (by decide) rfl (.nil rfl))) (by simp) name (by omega) (x := V.null) (e0 := 3) (b0 := false) (by simp [tabR, getR]) (by simp))
  (try unfold V.val at C220)
  (try unfold V.null at C220)
  (try dsimp only [rV, iV] at C220)
  (try go_wp2_with fail)
  refine C220.out.mono ?_
  rintro e w221 ⟨rfl, hK⟩
  have H222 := hidden (H213.out.calm hK)
  have V223 := hidden (V214.out.calm hK)
  have V224 := hidden (V215.out.calm hK)
  have V225 := hidden (V216.out.calm hK)
  have V226 := hidden (V217.out.calm hK)
  have V227 := hidden (V218.out.calm hK)
  have V228 := hidden (V219.out.calm hK)
  have V229 := hidden (V210.out.calm hK)
  clear C220 hK H213 V214 V215 V216 V217 V218 V219 V210
  obtain ⟨l2300, l2301, l2302, l230z⟩ := V229.out.cells
  (try dsimp only [rV, iV, V.null] at l2300 l2301 l2302)
  (try go_wp2_with fail)
  clear l2300 l2301 l2302 l230z
  have V234 := hidden (show Vr F186 (w221.alloc (.cells #[.int .i64 0, .int .i64 0, .string ⟨#[]⟩] 29)) w221.heap.size ⟨0, 0, ⟨#[]⟩⟩ from Vr.new ⟨0, 0, ⟨#[]⟩⟩ H222.out.heap.inw)
  have SZ235 := hidden (show (w221.alloc (.cells #[.int .i64 0, .int .i64 0, .string ⟨#[]⟩] 29)).heap.size = w221.heap.size + 1 from by simp)
  have GE236 := hidden (show w.heap.size ≤ w221.heap.size from H222.out.K.size)
  have K231 := (Keeps.refl (fun _ => False) w221).alloc (.cells #[.int .i64 0, .int .i64 0, .string ⟨#[]⟩] 29)
  have H237 := hidden (H222.out.calm K231)
  have V238 := hidden (V223.out.calm K231)
  have V239 := hidden (V224.out.calm K231)
  have V240 := hidden (V225.out.calm K231)
  have V241 := hidden (V226.out.calm K231)
  have V242 := hidden (V227.out.calm K231)
  have V243 := hidden (V228.out.calm K231)
  have V244 := hidden (V229.out.calm K231)
  clear K231 H222 V223 V224 V225 V226 V227 V228 V229
  generalize w221.heap.size = v232 at *
  generalize w221.alloc (.cells #[.int .i64 0, .int .i64 0, .string ⟨#[]⟩] 29) = w233 at *
  have C245 := hidden (meta_Find_instB H237.out.heap N197.out rfl (bs := []) rfl N195.out rfl rfl (by decide) name (by omega) (x := ⟨2, 5, ⟨#[]⟩⟩) (e0 := 0) (b0 := false) (by simp [getR]) (by rw [methB_val (by decide)]; rfl))
  (try unfold V.val at C245)
  (try unfold V.null at C245)
  (try dsimp only [rV, iV] at C245)
  (try go_wp2_with fail)
  refine C245.out.mono ?_
  rintro e w246 ⟨rfl, hK⟩
  have H247 := hidden (H237.out.calm hK)
  have V248 := hidden (V238.out.calm hK)
  have V249 := hidden (V239.out.calm hK)
  have V250 := hidden (V240.out.calm hK)
  have V251 := hidden (V241.out.calm hK)
  have V252 := hidden (V242.out.calm hK)
  have V253 := hidden (V243.out.calm hK)
  have V254 := hidden (V244.out.calm hK)
  have V255 := hidden (V234.out.calm hK)
  clear C245 hK H237 V238 V239 V240 V241 V242 V243 V244 V234
  obtain ⟨l2560, l2561, l2562, l256z⟩ := V252.out.cells
  (try dsimp only [rV, iV, V.null] at l2560 l2561 l2562)
  (try go_wp2_with fail)
  clear l2560 l2561 l2562 l256z
  have V260 := hidden (show Vr F186 (w246.alloc (.cells #[.int .i64 2, .int .i64 5, .string ⟨#[]⟩] 29)) w246.heap.size ⟨2, 5, ⟨#[]⟩⟩ from Vr.new ⟨2, 5, ⟨#[]⟩⟩ H247.out.heap.inw)
  have SZ261 := hidden (show (w246.alloc (.cells #[.int .i64 2, .int .i64 5, .string ⟨#[]⟩] 29)).heap.size = w246.heap.size + 1 from by simp)
  have GE262 := hidden (show w.heap.size ≤ w246.heap.size from H247.out.K.size)
  have K257 := (Keeps.refl (fun _ => False) w246).alloc (.cells #[.int .i64 2, .int .i64 5, .string ⟨#[]⟩] 29)
  have H263 := hidden (H247.out.calm K257)
  have V264 := hidden (V248.out.calm K257)
  have V265 := hidden (V249.out.calm K257)
  have V266 := hidden (V250.out.calm K257)
  have V267 := hidden (V251.out.calm K257)
  have V268 := hidden (V252.out.calm K257)
  have V269 := hidden (V253.out.calm K257)
  have V270 := hidden (V254.out.calm K257)
  have V271 := hidden (V255.out.calm K257)
  clear K257 H247 V248 V249 V250 V251 V252 V253 V254 V255
  generalize w246.heap.size = v258 at *
  generalize w246.alloc (.cells #[.int .i64 2, .int .i64 5, .string ⟨#[]⟩] 29) = w259 at *
  have C272 := hidden (meta_Find_not H263.out.heap ⟨4, c, ⟨#[]⟩⟩ (not_class N195.out rfl).1 (not_class N195.out rfl).2 name)
  (try unfold V.val at C272)
  (try unfold V.null at C272)
  (try dsimp only [rV, iV] at C272)
  (try go_wp2_with fail)
  refine C272.out.mono ?_
  rintro e w273 ⟨rfl, hK⟩
  have H274 := hidden (H263.out.calm hK)
  have V275 := hidden (V264.out.calm hK)
  have V276 := hidden (V265.out.calm hK)
  have V277 := hidden (V266.out.calm hK)
  have V278 := hidden (V267.out.calm hK)
  have V279 := hidden (V268.out.calm hK)
  have V280 := hidden (V269.out.calm hK)
  have V281 := hidden (V270.out.calm hK)
  have V282 := hidden (V271.out.calm hK)
  have V283 := hidden (V260.out.calm hK)
  clear C272 hK H263 V264 V265 V266 V267 V268 V269 V270 V271 V260
  (try go_wp2_with fail)
  have V287 := hidden (show Vr F186 (w273.alloc (.cells #[.int .i64 0, .int .i64 0, .string ⟨#[]⟩] 29)) w273.heap.size ⟨0, 0, ⟨#[]⟩⟩ from Vr.new ⟨0, 0, ⟨#[]⟩⟩ H274.out.heap.inw)
  have SZ288 := hidden (show (w273.alloc (.cells #[.int .i64 0, .int .i64 0, .string ⟨#[]⟩] 29)).heap.size = w273.heap.size + 1 from by simp)
  have GE289 := hidden (show w.heap.size ≤ w273.heap.size from H274.out.K.size)
  have K284 := (Keeps.refl (fun _ => False) w273).alloc (.cells #[.int .i64 0, .int .i64 0, .string ⟨#[]⟩] 29)
  have H290 := hidden (H274.out.calm K284)
  have V291 := hidden (V275.out.calm K284)
  have V292 := hidden (V276.out.calm K284)
  have V293 := hidden (V277.out.calm K284)
  have V294 := hidden (V278.out.calm K284)
  have V295 := hidden (V279.out.calm K284)
  have V296 := hidden (V280.out.calm K284)
  have V297 := hidden (V281.out.calm K284)
  have V298 := hidden (V282.out.calm K284)
  have V299 := hidden (V283.out.calm K284)
  clear K284 H274 V275 V276 V277 V278 V279 V280 V281 V282 V283
  generalize w273.heap.size = v285 at *
  generalize w273.alloc (.cells #[.int .i64 0, .int .i64 0, .string ⟨#[]⟩] 29) = w286 at *
  have C300 := hidden (value_Int 1 w286)
  (try unfold V.val at C300)
  (try unfold V.null at C300)
  (try dsimp only [rV, iV] at C300)
  (try go_wp2_with fail)
  refine C300.out.mono ?_
  rintro e w301 ⟨rfl, hK⟩
  have H302 := hidden (H290.out.calm hK)
  have V303 := hidden (V291.out.calm hK)
  have V304 := hidden (V292.out.calm hK)
  have V305 := hidden (V293.out.calm hK)
  have V306 := hidden (V294.out.calm hK)
  have V307 := hidden (V295.out.calm hK)
  have V308 := hidden (V296.out.calm hK)
  have V309 := hidden (V297.out.calm hK)
  have V310 := hidden (V298.out.calm hK)
  have V311 := hidden (V299.out.calm hK)
  have V312 := hidden (V287.out.calm hK)
  clear C300 hK H290 V291 V292 V293 V294 V295 V296 V297 V298 V299 V287
  have C313 := hidden (meta_Find_not H302.out.heap ⟨2, 1, ⟨#[]⟩⟩ (not_val (by decide) 2) (not_val (by decide) 4) name)
  (try unfold V.val at C313)
  (try unfold V.null at C313)
  (try dsimp only [rV, iV] at C313)
  (try go_wp2_with fail)
  refine C313.out.mono ?_
  rintro e w314 ⟨rfl, hK⟩
  have H315 := hidden (H302.out.calm hK)
  have V316 := hidden (V303.out.calm hK)
  have V317 := hidden (V304.out.calm hK)
  have V318 := hidden (V305.out.calm hK)
  have V319 := hidden (V306.out.calm hK)
  have V320 := hidden (V307.out.calm hK)
  have V321 := hidden (V308.out.calm hK)
  have V322 := hidden (V309.out.calm hK)
  have V323 := hidden (V310.out.calm hK)
  have V324 := hidden (V311.out.calm hK)
  have V325 := hidden (V312.out.calm hK)
  clear C313 hK H302 V303 V304 V305 V306 V307 V308 V309 V310 V311 V312
  obtain ⟨l3260, l3261, l3262, l326z⟩ := V323.out.cells
  (try dsimp only [rV, iV, V.null] at l3260 l3261 l3262)
  obtain ⟨l3270, l3271, l3272, l327z⟩ := V324.out.cells
  (try dsimp only [rV, iV, V.null] at l3270 l3271 l3272)
  obtain ⟨l3280, l3281, l3282, l328z⟩ := V316.out.cells
  (try dsimp only [rV, iV, V.null] at l3280 l3281 l3282)
  (try go_wp2_with fail)
  clear l3260 l3261 l3262 l326z l3270 l3271 l3272 l327z l3280 l3281 l3282 l328z
  have V332 := hidden (show Vr F186 (w314.alloc (.cells #[.int .i64 0, .int .i64 0, .string ⟨#[]⟩] 29)) w314.heap.size ⟨0, 0, ⟨#[]⟩⟩ from Vr.new ⟨0, 0, ⟨#[]⟩⟩ H315.out.heap.inw)
  have SZ333 := hidden (show (w314.alloc (.cells #[.int .i64 0, .int .i64 0, .string ⟨#[]⟩] 29)).heap.size = w314.heap.size + 1 from by simp)
  have GE334 := hidden (show w.heap.size ≤ w314.heap.size from H315.out.K.size)
  have K329 := (Keeps.refl (fun _ => False) w314).alloc (.cells #[.int .i64 0, .int .i64 0, .string ⟨#[]⟩] 29)
  have H335 := hidden (H315.out.calm K329)
  have V336 := hidden (V316.out.calm K329)
  have V337 := hidden (V317.out.calm K329)
  have V338 := hidden (V318.out.calm K329)
  have V339 := hidden (V319.out.calm K329)
  have V340 := hidden (V320.out.calm K329)
  have V341 := hidden (V321.out.calm K329)
  have V342 := hidden (V322.out.calm K329)
  have V343 := hidden (V323.out.calm K329)
  have V344 := hidden (V324.out.calm K329)
  have V345 := hidden (V325.out.calm K329)
  clear K329 H315 V316 V317 V318 V319 V320 V321 V322 V323 V324 V325
  generalize w314.heap.size = v330 at *
  generalize w314.alloc (.cells #[.int .i64 0, .int .i64 0, .string ⟨#[]⟩] 29) = w331 at *
  obtain ⟨l3460, l3461, l3462, l346z⟩ := V343.out.cells
  (try dsimp only [rV, iV, V.null] at l3460 l3461 l3462)
  obtain ⟨l3470, l3471, l3472, l347z⟩ := V344.out.cells
  (try dsimp only [rV, iV, V.null] at l3470 l3471 l3472)
  obtain ⟨l3480, l3481, l3482, l348z⟩ := V336.out.cells
  (try dsimp only [rV, iV, V.null] at l3480 l3481 l3482)
  (try go_wp2_with fail)
  exact hR.out _ _ ⟨rfl, H335.out.K.below (Nat.le_refl _) (fun _ h => h)⟩
end Go.Proofs.Ytmefdniocgcckaa
