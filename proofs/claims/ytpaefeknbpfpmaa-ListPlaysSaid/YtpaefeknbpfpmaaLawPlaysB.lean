/- The walk of the statement ListPlays: kinds 0, 1, 2, 7. -/
import Derived.Test.YtpaefeknbpfpmaaLawPlaysA
namespace Go.Proofs.Ytpaefeknbpfpmaa
open Go.RowKit
set_option maxRecDepth 100000
set_option maxHeartbeats 16000000 in
theorem plays_k0 : plays_G.1 0 := by
  intro w c xs hl HWF R hR w1 HB hB hlen qq_0 w2 Av cv Fv HVv HK2 hB2 w3 HK3 hB3 qq_1 w4 b LF HK4 hB4 ST0 qq_2 qq_3 wr u2 u6 u7 u8 u9 u10 u11 u12 u13 u14 qq_4 qq_5 qq_6 qq_7 qq_8 qq_9 qq_10 qq_11 qq_12 qq_13 qq_14 qq_15 qq_16 qq_17 qq_18 qq_19 qq_20 qq_21 qq_22 qq_23 qq_24 qq_25 qq_26 qq_27 qq_28 qq_29 qq_30 qq_31 qq_32 qq_33 qq_34 qq_35 qq_36 qq_37 qq_38 qq_39 qq_40 qq_41 qq_42 qq_43 qq_44 qq_45 qq_46 qq_47 qq_48 qq_49 qq_50 qq_51 qq_52 qq_53 qq_54 qq_55 qq_56 qq_57 qq_58 qq_59 qq_60 qq_61 qq_62 qq_63 qq_64 qq_65 qq_66 qq_67 qq_68 qq_69 qq_70 qq_71 qq_72 qq_73 qq_74 qq_75 qq_76 qq_77 qq_78 qq_79 qq_80 qq_81 qq_82 qq_83 qq_84 qq_85 qq_86 qq_87 qq_88 qq_89 qq_90 qq_91 qq_92 qq_93 qq_94 qq_95 qq_96 qq_97 qq_98 qq_99 qq_100 qq_101 qq_102 qq_103 qq_104 qq_105 qq_106 qq_107 qq_108 qq_109 qq_110 qq_111 qq_112 qq_113 qq_114 qq_115 qq_116 qq_117 qq_118 qq_119 qq_120 qq_121 qq_122 qq_123 qq_124 qq_125 qq_126 qq_127 qq_128 qq_129 qq_130 qq_131 qq_132 qq_133 qq_134 qq_135 qq_136 qq_137 qq_138 qq_139 qq_140 qq_141 qq_142 qq_143 qq_144 qq_145 qq_146 qq_147 qq_148 qq_149 qq_150 qq_151 qq_152 qq_153 qq_154 qq_155 qq_156 qq_157 qq_158 qq_159 qq_160 qq_161 qq_162 qq_163 qq_164 qq_165 qq_166 qq_167 qq_168 qq_169 qq_170 qq_171 qq_172 qq_173 qq_174 qq_175 qq_176 qq_177 qq_178 qq_179 qq_180 qq_181 qq_182 qq_183 qq_184 qq_185 qq_186 qq_187 qq_188 qq_189 qq_190 qq_191 qq_192 qq_193 qq_194 qq_195 qq_196 k ys A2 c2 F G hk hys ST hlt rb ro HV0 HV HV2 HV3 HV4 hr hout hcap oa vk vn vt h0 h1 h2 h3 h4 hox hpos qq_197 qq_198 qq_199 qq_200 qq_201 u30 u31 u32 u33 u34 u35 u36 u37 u38 u39 u40 u41 u42 u43 u44 u45 u46 u47 u48 u49 u50 u51 u52 u53 u54 u55 u56 u57 u58 u59 u60 u61 u62 u63 u64 u65 u66 u67 u68 u69 u70 u71 u72 u73 u74 u75 u76 u77 u78 u79 u80 u81 u82 u83 u84 u85 u86 u87 u88 u89 u90 u91 u92 u93 u94 u95 u96 u97 u98 u99 u100 u101 u102 u103 u104 u105 u106 u107 u108 u109 u110 u111 u112 u113 u114 u115 u116 u117 u118 u119 u120 u121 u122 u123 u124 u125 u126 u127 u128 u129 u130 u131 u132 u133 u134 u135 u136 u137 u138 u139 u140 u141 u142 u143 u144 u145 u146 u147 u148 u149 u150 u151 u152 u153 u154 u155 u156 u157 u158 u159 u160 u161 u162 u163 u164 u165 u166 u167 u168 u169 u170 u171 u172 u173 u174 u175 u176 u177 u178 u179 u180 u181 u182 u183 u184 u185 u186 u187 u188 u189 u190 u191 u192 u193 u194 u195 u196 u197 u198 u199 u200 u201 u202 u203 u204 u205 u206 u207 u208 u209 u210 u211 u212 u213 u214 u215 u216 u217 u218 u219 u220 u221 u222
  go_wp2_with fail
  refine (list_Push_ok _ F b ys [⟨vk, vn, vt⟩, ⟨vk, vn, vt⟩] _ 2 (ST.out.li.none (((Keeps.refl _ wr).alloc _).alloc _)) (Vals.lit _ [⟨vk, vn, vt⟩, ⟨vk, vn, vt⟩] _ (by simp)) (by simp; omega)).mono ?_
  rintro e w2 ⟨F', rfl, hl, hk, hf⟩
  have ST2 := hidden ((ST.out.none (((Keeps.refl _ wr).alloc _).alloc _)).list hk hf hl)
  have BX2 := hidden (show w2.heap[wr.heap.size]? = some (.cells #[.int .i64 0, .int .i64 oa, .int .i64 vk, .int .i64 vn, .string vt] 88 (0, 0)) from hk.heap (blk_alloc (blk_new wr _) _) (fun e => hout.out.1 e))
  try clear x0 x1 x2 x3 x4 hbx
  have x0 := blk_cell BX2.out 0
  have x1 := blk_cell BX2.out 1
  have x2 := blk_cell BX2.out 2
  have x3 := blk_cell BX2.out 3
  have x4 := blk_cell BX2.out 4
  simp only [List.getElem?_toArray, List.getElem?_cons_zero, List.getElem?_cons_succ] at x0 x1 x2 x3 x4
  have hbx := blk_lt BX2.out
  clear hk hl hf
  go_wp2_with (at_builtin; refine app_list rfl G _ _ _ _ _ _ 3 32 rfl Try.underlying60 info_val rfl (by decide) _ _ _ rfl (ST2.out.row.alloc _) _ rfl 2 _ (lit_src2 w2 ⟨vk, vn, vt⟩ rfl) (by omega) (by omega) ?_; intro A3 c3 w3 hR3 hK3; have HR3 := hidden hR3; have HK3 := hidden hK3; clear hR3 hK3)
  have ST3 := hidden ((ST2.out.none ((Keeps.refl _ w2).alloc _)).grew (zs := ys ++ [⟨vk, vn, vt⟩, ⟨vk, vn, vt⟩]) (news := [⟨vk, vn, vt⟩, ⟨vk, vn, vt⟩]) HK3.out (by simp) rfl HR3.out (Nat.le_refl _))
  refine (same_true _ _ b (ys ++ [⟨vk, vn, vt⟩, ⟨vk, vn, vt⟩]) _ _ _ ST3.out.li (Vals.own ST3.out.row.1) (by first | rfl | simp) (by first | (simp; done) | (simp; omega) | omega)).mono ?_
  rintro e w9 ⟨rfl, hK⟩
  have ST9 := hidden (ST3.out.none hK)
  clear hK
  go_wp2_with fail
  go_roundw
  case rel => exact ⟨k + 1, (ys ++ [⟨vk, vn, vt⟩, ⟨vk, vn, vt⟩]), _, _, _, _, hlt, by go_num, by simp, ST9.out, by first | (simp; done) | (simp; omega) | omega⟩
  case measure => simp [intOf]; omega
set_option maxHeartbeats 16000000 in
theorem plays_k1 : plays_G.1 1 := by
  intro w c xs hl HWF R hR w1 HB hB hlen qq_0 w2 Av cv Fv HVv HK2 hB2 w3 HK3 hB3 qq_1 w4 b LF HK4 hB4 ST0 qq_2 qq_3 wr u2 u6 u7 u8 u9 u10 u11 u12 u13 u14 qq_4 qq_5 qq_6 qq_7 qq_8 qq_9 qq_10 qq_11 qq_12 qq_13 qq_14 qq_15 qq_16 qq_17 qq_18 qq_19 qq_20 qq_21 qq_22 qq_23 qq_24 qq_25 qq_26 qq_27 qq_28 qq_29 qq_30 qq_31 qq_32 qq_33 qq_34 qq_35 qq_36 qq_37 qq_38 qq_39 qq_40 qq_41 qq_42 qq_43 qq_44 qq_45 qq_46 qq_47 qq_48 qq_49 qq_50 qq_51 qq_52 qq_53 qq_54 qq_55 qq_56 qq_57 qq_58 qq_59 qq_60 qq_61 qq_62 qq_63 qq_64 qq_65 qq_66 qq_67 qq_68 qq_69 qq_70 qq_71 qq_72 qq_73 qq_74 qq_75 qq_76 qq_77 qq_78 qq_79 qq_80 qq_81 qq_82 qq_83 qq_84 qq_85 qq_86 qq_87 qq_88 qq_89 qq_90 qq_91 qq_92 qq_93 qq_94 qq_95 qq_96 qq_97 qq_98 qq_99 qq_100 qq_101 qq_102 qq_103 qq_104 qq_105 qq_106 qq_107 qq_108 qq_109 qq_110 qq_111 qq_112 qq_113 qq_114 qq_115 qq_116 qq_117 qq_118 qq_119 qq_120 qq_121 qq_122 qq_123 qq_124 qq_125 qq_126 qq_127 qq_128 qq_129 qq_130 qq_131 qq_132 qq_133 qq_134 qq_135 qq_136 qq_137 qq_138 qq_139 qq_140 qq_141 qq_142 qq_143 qq_144 qq_145 qq_146 qq_147 qq_148 qq_149 qq_150 qq_151 qq_152 qq_153 qq_154 qq_155 qq_156 qq_157 qq_158 qq_159 qq_160 qq_161 qq_162 qq_163 qq_164 qq_165 qq_166 qq_167 qq_168 qq_169 qq_170 qq_171 qq_172 qq_173 qq_174 qq_175 qq_176 qq_177 qq_178 qq_179 qq_180 qq_181 qq_182 qq_183 qq_184 qq_185 qq_186 qq_187 qq_188 qq_189 qq_190 qq_191 qq_192 qq_193 qq_194 qq_195 qq_196 k ys A2 c2 F G hk hys ST hlt rb ro HV0 HV HV2 HV3 HV4 hr hout hcap oa vk vn vt h0 h1 h2 h3 h4 hox hpos qq_197 qq_198 qq_199 qq_200 qq_201 u30 u31 u32 u33 u34 u35 u36 u37 u38 u39 u40 u41 u42 u43 u44 u45 u46 u47 u48 u49 u50 u51 u52 u53 u54 u55 u56 u57 u58 u59 u60 u61 u62 u63 u64 u65 u66 u67 u68 u69 u70 u71 u72 u73 u74 u75 u76 u77 u78 u79 u80 u81 u82 u83 u84 u85 u86 u87 u88 u89 u90 u91 u92 u93 u94 u95 u96 u97 u98 u99 u100 u101 u102 u103 u104 u105 u106 u107 u108 u109 u110 u111 u112 u113 u114 u115 u116 u117 u118 u119 u120 u121 u122 u123 u124 u125 u126 u127 u128 u129 u130 u131 u132 u133 u134 u135 u136 u137 u138 u139 u140 u141 u142 u143 u144 u145 u146 u147 u148 u149 u150 u151 u152 u153 u154 u155 u156 u157 u158 u159 u160 u161 u162 u163 u164 u165 u166 u167 u168 u169 u170 u171 u172 u173 u174 u175 u176 u177 u178 u179 u180 u181 u182 u183 u184 u185 u186 u187 u188 u189 u190 u191 u192 u193 u194 u195 u196 u197 u198 u199 u200 u201 u202 u203 u204 u205 u206 u207 u208 u209 u210 u211 u212 u213 u214 u215 u216 u217 u218 u219 u220 u221 u222
  rcases List.eq_nil_or_concat ys with hyn | ⟨zs, x, hyn⟩
  · subst hyn
    go_wp2_with fail
    refine (list_Pop_none _ F b (ST.out.li.none (((Keeps.refl _ wr).alloc _).alloc _))).mono ?_
    rintro e w2 ⟨rfl, hK⟩
    have hvv : IsVar w2 (wr.heap.size + 1) V.null := hK.heap (new2 wr _ _) (fun h => h)
    have HK2 := hidden ((((Keeps.refl _ wr).alloc _).alloc _).trans hK (fun _ _ h => h))
    obtain ⟨v0, v1, v2, v3, v4, v5⟩ := hvv.cells
    simp only [V.null] at v0 v1 v2 v3 v4 v5
    have hvz := blk_lt hvv
    clear hK
    unfold V.val V.null
    go_wp2_with fail
    have ST3 := hidden (ST.out.none (HK2.out.var (r := wr.heap.size + 1) (fun h => by omega) (.int .i64 0) (.int .i64 0) (.string ⟨#[]⟩)))
    refine (same_true _ _ b [] _ _ _ ST3.out.li (Vals.own ST3.out.row.1) (by first | rfl | simp) (by first | (simp; done) | (simp; omega) | omega)).mono ?_
    rintro e w9 ⟨rfl, hK⟩
    have ST9 := hidden (ST3.out.none hK)
    clear hK
    go_wp2_with fail
    go_roundw
    case rel => exact ⟨k + 1, [], _, _, _, _, hlt, by go_num, by simp, ST9.out, by first | (simp; done) | (simp; omega) | omega⟩
    case measure => simp [intOf]; omega
  · rw [List.concat_eq_append] at hyn
    subst hyn
    have hn : (zs ++ [x]).length = zs.length + 1 := by simp
    have hw1 : IntKind.i64.wrap ((zs.length : Int) + 1 - 1) = zs.length := by rw [IntKind.wrap_i64]; omega
    have hw2 : ((zs.length : Int) + 1 == 0) = false := by simp; omega
    have hout1 := hidden (show ¬ F (wr.heap.size + 1) ∧ ¬ G (wr.heap.size + 1) from ⟨fun h => by have := ST.out.li.inw _ h; omega, fun h => by have := ST.out.inG _ h; omega⟩)
    rw [hn]
    go_wp2_with fail
    refine (list_Pop_some _ F b zs x (ST.out.li.none (((Keeps.refl _ wr).alloc _).alloc _)) (by rw [hn] at hys; omega)).mono ?_
    rintro e w2 ⟨rfl, hl, hK⟩
    have hvv : IsVar w2 (wr.heap.size + 1) V.null := hK.heap (new2 wr _ _) (fun h => hout1.out.1 h)
    have ST2 := hidden ((ST.out.none (((Keeps.refl _ wr).alloc _).alloc _)).list hK (Fresh.refl F _) hl)
    obtain ⟨qb, qo, rfl, q0, q1, q2⟩ := Vals.own ST2.out.row.1 zs.length x (by simp)
    have hqb : qb < wr.heap.size := ST.out.inG qb (ST.out.row.2 qb rfl)
    have hqw : qb < w2.heap.size := World.block_lt_of_cell? w2 _ q0
    obtain ⟨v0, v1, v2, v3, v4, v5⟩ := hvv.cells
    simp only [V.null] at v0 v1 v2 v3 v4 v5
    have hvz := blk_lt hvv
    rw [hn] at hcap
    clear hK hl
    obtain ⟨xk, xn, xt⟩ := x
    simp only at q0 q1 q2
    unfold V.val
    go_wp2_with fail
    go_quiet (fail)
    go_wp2_with fail
    have ST3 := hidden (((ST2.out.away ((Keeps.refl (fun k => k = wr.heap.size + 1) w2).var (r := wr.heap.size + 1) (fun _ => rfl) (.int .i64 xk) (.int .i64 xn) (.string xt)) (fun k h e => hout1.out.1 (e ▸ h)) (fun k h e => hout1.out.2 (e ▸ h)) (fun k e => by have := ST.out.K.size; omega)).none ((Keeps.refl _ _).drewN nq)).cut (zs := zs) zs.length zs.length (by simp) rfl (by simp))
    refine (same_true _ _ b zs _ _ _ ST3.out.li (Vals.own ST3.out.row.1) (by first | rfl | simp) (by first | (simp; done) | (simp; omega) | omega)).mono ?_
    rintro e w9 ⟨rfl, hK⟩
    have ST9 := hidden (ST3.out.none hK)
    clear hK
    go_wp2_with fail
    go_roundw
    case rel => exact ⟨k + 1, zs, _, _, _, _, hlt, by go_num, by simp, ST9.out, by first | (simp; done) | (simp; omega) | omega⟩
    case measure => simp [intOf]; omega
set_option maxHeartbeats 16000000 in
theorem plays_k2 : plays_G.1 2 := by
  intro w c xs hl HWF R hR w1 HB hB hlen qq_0 w2 Av cv Fv HVv HK2 hB2 w3 HK3 hB3 qq_1 w4 b LF HK4 hB4 ST0 qq_2 qq_3 wr u2 u6 u7 u8 u9 u10 u11 u12 u13 u14 qq_4 qq_5 qq_6 qq_7 qq_8 qq_9 qq_10 qq_11 qq_12 qq_13 qq_14 qq_15 qq_16 qq_17 qq_18 qq_19 qq_20 qq_21 qq_22 qq_23 qq_24 qq_25 qq_26 qq_27 qq_28 qq_29 qq_30 qq_31 qq_32 qq_33 qq_34 qq_35 qq_36 qq_37 qq_38 qq_39 qq_40 qq_41 qq_42 qq_43 qq_44 qq_45 qq_46 qq_47 qq_48 qq_49 qq_50 qq_51 qq_52 qq_53 qq_54 qq_55 qq_56 qq_57 qq_58 qq_59 qq_60 qq_61 qq_62 qq_63 qq_64 qq_65 qq_66 qq_67 qq_68 qq_69 qq_70 qq_71 qq_72 qq_73 qq_74 qq_75 qq_76 qq_77 qq_78 qq_79 qq_80 qq_81 qq_82 qq_83 qq_84 qq_85 qq_86 qq_87 qq_88 qq_89 qq_90 qq_91 qq_92 qq_93 qq_94 qq_95 qq_96 qq_97 qq_98 qq_99 qq_100 qq_101 qq_102 qq_103 qq_104 qq_105 qq_106 qq_107 qq_108 qq_109 qq_110 qq_111 qq_112 qq_113 qq_114 qq_115 qq_116 qq_117 qq_118 qq_119 qq_120 qq_121 qq_122 qq_123 qq_124 qq_125 qq_126 qq_127 qq_128 qq_129 qq_130 qq_131 qq_132 qq_133 qq_134 qq_135 qq_136 qq_137 qq_138 qq_139 qq_140 qq_141 qq_142 qq_143 qq_144 qq_145 qq_146 qq_147 qq_148 qq_149 qq_150 qq_151 qq_152 qq_153 qq_154 qq_155 qq_156 qq_157 qq_158 qq_159 qq_160 qq_161 qq_162 qq_163 qq_164 qq_165 qq_166 qq_167 qq_168 qq_169 qq_170 qq_171 qq_172 qq_173 qq_174 qq_175 qq_176 qq_177 qq_178 qq_179 qq_180 qq_181 qq_182 qq_183 qq_184 qq_185 qq_186 qq_187 qq_188 qq_189 qq_190 qq_191 qq_192 qq_193 qq_194 qq_195 qq_196 k ys A2 c2 F G hk hys ST hlt rb ro HV0 HV HV2 HV3 HV4 hr hout hcap oa vk vn vt h0 h1 h2 h3 h4 hox hpos qq_197 qq_198 qq_199 qq_200 qq_201 u30 u31 u32 u33 u34 u35 u36 u37 u38 u39 u40 u41 u42 u43 u44 u45 u46 u47 u48 u49 u50 u51 u52 u53 u54 u55 u56 u57 u58 u59 u60 u61 u62 u63 u64 u65 u66 u67 u68 u69 u70 u71 u72 u73 u74 u75 u76 u77 u78 u79 u80 u81 u82 u83 u84 u85 u86 u87 u88 u89 u90 u91 u92 u93 u94 u95 u96 u97 u98 u99 u100 u101 u102 u103 u104 u105 u106 u107 u108 u109 u110 u111 u112 u113 u114 u115 u116 u117 u118 u119 u120 u121 u122 u123 u124 u125 u126 u127 u128 u129 u130 u131 u132 u133 u134 u135 u136 u137 u138 u139 u140 u141 u142 u143 u144 u145 u146 u147 u148 u149 u150 u151 u152 u153 u154 u155 u156 u157 u158 u159 u160 u161 u162 u163 u164 u165 u166 u167 u168 u169 u170 u171 u172 u173 u174 u175 u176 u177 u178 u179 u180 u181 u182 u183 u184 u185 u186 u187 u188 u189 u190 u191 u192 u193 u194 u195 u196 u197 u198 u199 u200 u201 u202 u203 u204 u205 u206 u207 u208 u209 u210 u211 u212 u213 u214 u215 u216 u217 u218 u219 u220 u221 u222
  by_cases hB : 0 ≤ oa ∧ oa < (ys.length : Int)
  · have hB2 : decide (0 ≤ oa ∧ oa < (ys.length : Int)) = true := decide_eq_true hB
    rw [hB2]
    clear hB2
    obtain ⟨i, rfl⟩ : ∃ i : Nat, oa = i := ⟨oa.toNat, by omega⟩
    have hi : i < ys.length := by omega
    clear hB
    go_wp2_with fail
    refine (list_Set_some _ F b ys i ⟨vk, vn, vt⟩ (ST.out.li.none ((Keeps.refl _ wr).alloc _)) hi).mono ?_
    rintro e w2 ⟨rfl, hl, hk⟩
    have ST2 := hidden ((ST.out.none ((Keeps.refl _ wr).alloc _)).list hk (Fresh.refl F _) hl)
    have BX2 := hidden (show w2.heap[wr.heap.size]? = some (.cells #[.int .i64 2, .int .i64 i, .int .i64 vk, .int .i64 vn, .string vt] 88 (0, 0)) from hk.heap (blk_new wr _) (fun e => hout.out.1 e))
    try clear x0 x1 x2 x3 x4 hbx
    have x0 := blk_cell BX2.out 0
    have x1 := blk_cell BX2.out 1
    have x2 := blk_cell BX2.out 2
    have x3 := blk_cell BX2.out 3
    have x4 := blk_cell BX2.out 4
    simp only [List.getElem?_toArray, List.getElem?_cons_zero, List.getElem?_cons_succ] at x0 x1 x2 x3 x4
    have hbx := blk_lt BX2.out
    clear hk hl
    obtain ⟨g, rfl, hg, hgw, q0, q1, q2, f0, f1, f2⟩ := ST2.out.row.open3 hi
    have hHi := hidden hi
    go_wp2_with fail
    have ST3 := hidden (ST2.out.want (zs := ys.set i ⟨vk, vn, vt⟩) (((SameBut.refl g w2).put3 i ⟨vk, vn, vt⟩).keeps.mono (fun k _ e => e ▸ hg)) (Fresh.refl G _) (ST2.out.inG.keeps ((SameBut.refl g w2).put3 i ⟨vk, vn, vt⟩).keeps) (by simpa using ST2.out.row.put3 hHi.out ⟨vk, vn, vt⟩))
    refine (same_true _ _ b (ys.set i ⟨vk, vn, vt⟩) _ _ _ ST3.out.li (Vals.own ST3.out.row.1) (by first | rfl | simp) (by first | (simp; done) | (simp; omega) | omega)).mono ?_
    rintro e w9 ⟨rfl, hK⟩
    have ST9 := hidden (ST3.out.none hK)
    clear hK
    go_wp2_with fail
    go_roundw
    case rel => exact ⟨k + 1, (ys.set i ⟨vk, vn, vt⟩), _, _, _, _, hlt, by go_num, by simp, ST9.out, by first | (simp; done) | (simp; omega) | omega⟩
    case measure => simp [intOf]; omega
  · have hB2 : decide (0 ≤ oa ∧ oa < (ys.length : Int)) = false := decide_eq_false hB
    rw [hB2]
    clear hB2
    go_wp2_with fail
    refine (list_Set_none _ F b ys oa ⟨vk, vn, vt⟩ (ST.out.li.none ((Keeps.refl _ wr).alloc _)) (by omega)).mono ?_
    rintro e w2 ⟨rfl, hk⟩
    have ST3 := hidden (ST.out.none (((Keeps.refl _ wr).alloc _).trans hk (fun _ _ h => h)))
    clear hk
    go_wp2_with fail
    refine (same_true _ _ b ys _ _ _ ST3.out.li (Vals.own ST3.out.row.1) (by first | rfl | simp) (by first | (simp; done) | (simp; omega) | omega)).mono ?_
    rintro e w9 ⟨rfl, hK⟩
    have ST9 := hidden (ST3.out.none hK)
    clear hK
    go_wp2_with fail
    go_roundw
    case rel => exact ⟨k + 1, ys, _, _, _, _, hlt, by go_num, by simp, ST9.out, by first | (simp; done) | (simp; omega) | omega⟩
    case measure => simp [intOf]; omega
set_option maxHeartbeats 16000000 in
theorem plays_k7 : plays_G.1 7 := by
  intro w c xs hl HWF R hR w1 HB hB hlen qq_0 w2 Av cv Fv HVv HK2 hB2 w3 HK3 hB3 qq_1 w4 b LF HK4 hB4 ST0 qq_2 qq_3 wr u2 u6 u7 u8 u9 u10 u11 u12 u13 u14 qq_4 qq_5 qq_6 qq_7 qq_8 qq_9 qq_10 qq_11 qq_12 qq_13 qq_14 qq_15 qq_16 qq_17 qq_18 qq_19 qq_20 qq_21 qq_22 qq_23 qq_24 qq_25 qq_26 qq_27 qq_28 qq_29 qq_30 qq_31 qq_32 qq_33 qq_34 qq_35 qq_36 qq_37 qq_38 qq_39 qq_40 qq_41 qq_42 qq_43 qq_44 qq_45 qq_46 qq_47 qq_48 qq_49 qq_50 qq_51 qq_52 qq_53 qq_54 qq_55 qq_56 qq_57 qq_58 qq_59 qq_60 qq_61 qq_62 qq_63 qq_64 qq_65 qq_66 qq_67 qq_68 qq_69 qq_70 qq_71 qq_72 qq_73 qq_74 qq_75 qq_76 qq_77 qq_78 qq_79 qq_80 qq_81 qq_82 qq_83 qq_84 qq_85 qq_86 qq_87 qq_88 qq_89 qq_90 qq_91 qq_92 qq_93 qq_94 qq_95 qq_96 qq_97 qq_98 qq_99 qq_100 qq_101 qq_102 qq_103 qq_104 qq_105 qq_106 qq_107 qq_108 qq_109 qq_110 qq_111 qq_112 qq_113 qq_114 qq_115 qq_116 qq_117 qq_118 qq_119 qq_120 qq_121 qq_122 qq_123 qq_124 qq_125 qq_126 qq_127 qq_128 qq_129 qq_130 qq_131 qq_132 qq_133 qq_134 qq_135 qq_136 qq_137 qq_138 qq_139 qq_140 qq_141 qq_142 qq_143 qq_144 qq_145 qq_146 qq_147 qq_148 qq_149 qq_150 qq_151 qq_152 qq_153 qq_154 qq_155 qq_156 qq_157 qq_158 qq_159 qq_160 qq_161 qq_162 qq_163 qq_164 qq_165 qq_166 qq_167 qq_168 qq_169 qq_170 qq_171 qq_172 qq_173 qq_174 qq_175 qq_176 qq_177 qq_178 qq_179 qq_180 qq_181 qq_182 qq_183 qq_184 qq_185 qq_186 qq_187 qq_188 qq_189 qq_190 qq_191 qq_192 qq_193 qq_194 qq_195 qq_196 k ys A2 c2 F G hk hys ST hlt rb ro HV0 HV HV2 HV3 HV4 hr hout hcap oa vk vn vt h0 h1 h2 h3 h4 hox hpos qq_197 qq_198 qq_199 qq_200 qq_201 u30 u31 u32 u33 u34 u35 u36 u37 u38 u39 u40 u41 u42 u43 u44 u45 u46 u47 u48 u49 u50 u51 u52 u53 u54 u55 u56 u57 u58 u59 u60 u61 u62 u63 u64 u65 u66 u67 u68 u69 u70 u71 u72 u73 u74 u75 u76 u77 u78 u79 u80 u81 u82 u83 u84 u85 u86 u87 u88 u89 u90 u91 u92 u93 u94 u95 u96 u97 u98 u99 u100 u101 u102 u103 u104 u105 u106 u107 u108 u109 u110 u111 u112 u113 u114 u115 u116 u117 u118 u119 u120 u121 u122 u123 u124 u125 u126 u127 u128 u129 u130 u131 u132 u133 u134 u135 u136 u137 u138 u139 u140 u141 u142 u143 u144 u145 u146 u147 u148 u149 u150 u151 u152 u153 u154 u155 u156 u157 u158 u159 u160 u161 u162 u163 u164 u165 u166 u167 u168 u169 u170 u171 u172 u173 u174 u175 u176 u177 u178 u179 u180 u181 u182 u183 u184 u185 u186 u187 u188 u189 u190 u191 u192 u193 u194 u195 u196 u197 u198 u199 u200 u201 u202 u203 u204 u205 u206 u207 u208 u209 u210 u211 u212 u213 u214 u215 u216 u217 u218 u219 u220 u221 u222
  go_wp2_with fail
  refine (list_Clear _ F b ys (ST.out.li.none ((Keeps.refl _ wr).alloc _))).mono ?_
  rintro e w2 ⟨rfl, hl, hk⟩
  have ST2 := hidden ((ST.out.none ((Keeps.refl _ wr).alloc _)).list hk (Fresh.refl F _) hl)
  clear hk hl
  go_wp2_with fail
  have ST3 := hidden (ST2.out.want (G' := fun _ => False) (A' := none) (c' := 0) (zs := []) (Keeps.refl _ _) (fun k h => h.elim) (fun k h => h.elim) (Row.nil _ _ _ _))
  refine (same_true _ _ b [] _ _ _ ST3.out.li (Vals.own ST3.out.row.1) (by first | rfl | simp) (by first | (simp; done) | (simp; omega) | omega)).mono ?_
  rintro e w9 ⟨rfl, hK⟩
  have ST9 := hidden (ST3.out.none hK)
  clear hK
  go_wp2_with fail
  go_roundw
  case rel => exact ⟨k + 1, [], _, _, _, _, hlt, by go_num, by simp, ST9.out, by first | (simp; done) | (simp; omega) | omega⟩
  case measure => simp [intOf]; omega
end Go.Proofs.Ytpaefeknbpfpmaa
