/- The walk of the statement ListPlays: kinds 5, 6, 8. -/
import Derived.Test.YtpaefeknbpfpmaaLawPlaysA
namespace Go.Proofs.Ytpaefeknbpfpmaa
open Go.RowKit
set_option maxRecDepth 100000
set_option maxHeartbeats 16000000 in
theorem plays_k5 : plays_G.1 5 := by
  intro w c xs hl HWF R hR w1 HB hB hlen qq_0 w2 Av cv Fv HVv HK2 hB2 w3 HK3 hB3 qq_1 w4 b LF HK4 hB4 ST0 qq_2 qq_3 wr u2 u6 u7 u8 u9 u10 u11 u12 u13 u14 qq_4 qq_5 qq_6 qq_7 qq_8 qq_9 qq_10 qq_11 qq_12 qq_13 qq_14 qq_15 qq_16 qq_17 qq_18 qq_19 qq_20 qq_21 qq_22 qq_23 qq_24 qq_25 qq_26 qq_27 qq_28 qq_29 qq_30 qq_31 qq_32 qq_33 qq_34 qq_35 qq_36 qq_37 qq_38 qq_39 qq_40 qq_41 qq_42 qq_43 qq_44 qq_45 qq_46 qq_47 qq_48 qq_49 qq_50 qq_51 qq_52 qq_53 qq_54 qq_55 qq_56 qq_57 qq_58 qq_59 qq_60 qq_61 qq_62 qq_63 qq_64 qq_65 qq_66 qq_67 qq_68 qq_69 qq_70 qq_71 qq_72 qq_73 qq_74 qq_75 qq_76 qq_77 qq_78 qq_79 qq_80 qq_81 qq_82 qq_83 qq_84 qq_85 qq_86 qq_87 qq_88 qq_89 qq_90 qq_91 qq_92 qq_93 qq_94 qq_95 qq_96 qq_97 qq_98 qq_99 qq_100 qq_101 qq_102 qq_103 qq_104 qq_105 qq_106 qq_107 qq_108 qq_109 qq_110 qq_111 qq_112 qq_113 qq_114 qq_115 qq_116 qq_117 qq_118 qq_119 qq_120 qq_121 qq_122 qq_123 qq_124 qq_125 qq_126 qq_127 qq_128 qq_129 qq_130 qq_131 qq_132 qq_133 qq_134 qq_135 qq_136 qq_137 qq_138 qq_139 qq_140 qq_141 qq_142 qq_143 qq_144 qq_145 qq_146 qq_147 qq_148 qq_149 qq_150 qq_151 qq_152 qq_153 qq_154 qq_155 qq_156 qq_157 qq_158 qq_159 qq_160 qq_161 qq_162 qq_163 qq_164 qq_165 qq_166 qq_167 qq_168 qq_169 qq_170 qq_171 qq_172 qq_173 qq_174 qq_175 qq_176 qq_177 qq_178 qq_179 qq_180 qq_181 qq_182 qq_183 qq_184 qq_185 qq_186 qq_187 qq_188 qq_189 qq_190 qq_191 qq_192 qq_193 qq_194 qq_195 qq_196 k ys A2 c2 F G hk hys ST hlt rb ro HV0 HV HV2 HV3 HV4 hr hout hcap oa vk vn vt h0 h1 h2 h3 h4 hox hpos qq_197 qq_198 qq_199 qq_200 qq_201 u30 u31 u32 u33 u34 u35 u36 u37 u38 u39 u40 u41 u42 u43 u44 u45 u46 u47 u48 u49 u50 u51 u52 u53 u54 u55 u56 u57 u58 u59 u60 u61 u62 u63 u64 u65 u66 u67 u68 u69 u70 u71 u72 u73 u74 u75 u76 u77 u78 u79 u80 u81 u82 u83 u84 u85 u86 u87 u88 u89 u90 u91 u92 u93 u94 u95 u96 u97 u98 u99 u100 u101 u102 u103 u104 u105 u106 u107 u108 u109 u110 u111 u112 u113 u114 u115 u116 u117 u118 u119 u120 u121 u122 u123 u124 u125 u126 u127 u128 u129 u130 u131 u132 u133 u134 u135 u136 u137 u138 u139 u140 u141 u142 u143 u144 u145 u146 u147 u148 u149 u150 u151 u152 u153 u154 u155 u156 u157 u158 u159 u160 u161 u162 u163 u164 u165 u166 u167 u168 u169 u170 u171 u172 u173 u174 u175 u176 u177 u178 u179 u180 u181 u182 u183 u184 u185 u186 u187 u188 u189 u190 u191 u192 u193 u194 u195 u196 u197 u198 u199 u200 u201 u202 u203 u204 u205 u206 u207 u208 u209 u210 u211 u212 u213 u214 u215 u216 u217 u218 u219 u220 u221 u222
  by_cases hbig : 300 < oa
  · go_wp2_with fail
    go_roundw
    case rel => exact ⟨k + 1, ys, _, _, _, _, hlt, by go_num, by simp, ST.out.none ((Keeps.refl _ wr).alloc _), by omega⟩
    case measure => simp [intOf]; omega
  · by_cases hneg : oa < 0
    · go_wp2_with fail
      refine (list_Resize_bad _ b oa ⟨vk, vn, vt⟩ 1 (.inl ⟨hneg, rfl⟩)).mono ?_
      rintro e w2 ⟨rfl, hk⟩
      have ST3 := hidden (ST.out.none (((Keeps.refl _ wr).alloc _).trans hk (fun _ _ h => h)))
      have BX2 := hidden (show w2.heap[wr.heap.size]? = some (.cells #[.int .i64 5, .int .i64 oa, .int .i64 vk, .int .i64 vn, .string vt] 88 (0, 0)) from hk.heap (blk_new wr _) (fun h => h))
      try clear x0 x1 x2 x3 x4 hbx
      have x0 := blk_cell BX2.out 0
      have x1 := blk_cell BX2.out 1
      have x2 := blk_cell BX2.out 2
      have x3 := blk_cell BX2.out 3
      have x4 := blk_cell BX2.out 4
      simp only [List.getElem?_toArray, List.getElem?_cons_zero, List.getElem?_cons_succ] at x0 x1 x2 x3 x4
      have hbx := blk_lt BX2.out
      clear hk
      go_wp2_with fail
      refine (same_true _ _ b ys _ _ _ ST3.out.li (Vals.own ST3.out.row.1) (by first | rfl | simp) (by first | (simp; done) | (simp; omega) | omega)).mono ?_
      rintro e w9 ⟨rfl, hK⟩
      have ST9 := hidden (ST3.out.none hK)
      clear hK
      go_wp2_with fail
      go_roundw
      case rel => exact ⟨k + 1, ys, _, _, _, _, hlt, by go_num, by simp, ST9.out, by first | (simp; done) | (simp; omega) | omega⟩
      case measure => simp [intOf]; omega
    · obtain ⟨n, rfl⟩ : ∃ n : Nat, oa = n := ⟨oa.toNat, by omega⟩
      have hrl := hidden (resized_length ys n ⟨vk, vn, vt⟩)
      go_wp2_with fail
      refine (list_Resize_ok _ F b ys n ⟨vk, vn, vt⟩ (ST.out.li.none ((Keeps.refl _ wr).alloc _)) (by omega)).mono ?_
      rintro e w2 ⟨F', rfl, hl, hk, hf⟩
      have ST2 := hidden ((ST.out.none ((Keeps.refl _ wr).alloc _)).list hk hf hl)
      have BX2 := hidden (show w2.heap[wr.heap.size]? = some (.cells #[.int .i64 5, .int .i64 n, .int .i64 vk, .int .i64 vn, .string vt] 88 (0, 0)) from hk.heap (blk_new wr _) (fun e => hout.out.1 e))
      try clear x0 x1 x2 x3 x4 hbx
      have x0 := blk_cell BX2.out 0
      have x1 := blk_cell BX2.out 1
      have x2 := blk_cell BX2.out 2
      have x3 := blk_cell BX2.out 3
      have x4 := blk_cell BX2.out 4
      simp only [List.getElem?_toArray, List.getElem?_cons_zero, List.getElem?_cons_succ] at x0 x1 x2 x3 x4
      have hbx := blk_lt BX2.out
      clear hk hl hf
      have hrw : wr.heap.size < w2.heap.size := blk_lt BX2.out
      go_wp2_with fail
      clear x0 x1 x2 x3 x4 hbx
      obtain ⟨wo, rfl⟩ : ∃ wo, wo = wr := ⟨_, rfl⟩
      go_loopw [4] (fun want wr => ∃ (j : Nat) (A3 : Option Addr) (c3 : Nat) (G3 : Nat → Prop), want = .slice A3 (ys.length + j) c3 ∧ (j = 0 ∨ ys.length + j ≤ n) ∧ PlaySt w b F' G3 A3 c3 (resized ys n ⟨vk, vn, vt⟩) (ys ++ List.replicate j ⟨vk, vn, vt⟩) wr ∧ wr.heap[wo.heap.size]? = some (.cells #[.int .i64 5, .int .i64 n, .int .i64 vk, .int .i64 vn, .string vt] 88 (0, 0)) ∧ ¬ G3 wo.heap.size) (fun want _ => n - sliceLen want)
      case atStart => exact ⟨0, A2, c2, G, by simp, .inl rfl, by simpa using ST2.out, BX2.out, hout.out.2⟩
      case round =>
        obtain ⟨j, A3, c3, G3, rfl, hj, hst, hbx0, hg3⟩ := hrel
        have STj := hidden hst
        have HBX := hidden hbx0
        have hlj : (ys ++ List.replicate j (⟨vk, vn, vt⟩ : V)).length = ys.length + j := by simp
        have hrj := hst.row
        rw [hlj] at hrj
        have HRj := hidden hrj
        have hcap3 := hrj.cap
        have x0 := blk_cell hbx0 0
        have x1 := blk_cell hbx0 1
        have x2 := blk_cell hbx0 2
        have x3 := blk_cell hbx0 3
        have x4 := blk_cell hbx0 4
        simp only [List.getElem?_toArray, List.getElem?_cons_zero, List.getElem?_cons_succ] at x0 x1 x2 x3 x4
        have hbx := blk_lt hbx0
        clear hst hbx0 hrj
        by_cases hgo : ys.length + j < n
        · go_wp2_with (at_builtin; refine app_list rfl G3 _ _ _ _ _ _ 3 32 rfl Try.underlying60 info_val rfl (by decide) _ _ _ rfl (HRj.out.alloc _) _ rfl 1 _ (lit_src wr ⟨vk, vn, vt⟩ rfl) (by omega) (by omega) ?_; intro A4 c4 w4 hR3 hK3; have HR4 := hidden hR3; have HK4 := hidden hK3; clear hR3 hK3)
          have ST4 := hidden ((STj.out.none ((Keeps.refl _ wr).alloc _)).grew (zs := ys ++ List.replicate (j + 1) ⟨vk, vn, vt⟩) (news := [⟨vk, vn, vt⟩]) (by rw [hlj]; exact HK4.out) (by simp; omega) (by rw [List.replicate_succ', List.append_assoc]) HR4.out (Nat.le_refl _))
          go_roundw
          case rel =>
            exact ⟨j + 1, A4, c4, _, by rw [Nat.add_assoc], .inr (by omega), ST4.out, HK4.out.heap (blk_alloc HBX.out _) (fun e => hg3 (HRj.out.2 _ e)), fun h => h.1.elim hg3 (fun h => by have := blk_lt HBX.out; simp at h; omega)⟩
          case measure => simp [sliceLen]; omega
        · have hn2 : n ≤ ys.length + j := by omega
          have HT := hidden (resized_take (y := ⟨vk, vn, vt⟩) hj hn2)
          have i9 : (n : Int) ≤ (c3 : Int) := by omega
          go_wp2_with fail
          have ST3 := hidden (STj.out.cut (zs := resized ys n ⟨vk, vn, vt⟩) n n (by rw [hlj]; exact hn2) rfl HT.out.symm)
          refine (same_true _ _ b (resized ys n ⟨vk, vn, vt⟩) _ _ _ ST3.out.li (Vals.own ST3.out.row.1) (by rw [hrl.out]) (by have := hrl.out; first | (rw [this]; done) | (rw [this]; omega) | (simp; omega) | omega)).mono ?_
          rintro e w9 ⟨rfl, hK⟩
          have ST9 := hidden (ST3.out.none hK)
          clear hK
          go_wp2_with fail
          go_roundw
          case rel => exact ⟨k + 1, (resized ys n ⟨vk, vn, vt⟩), _, _, _, _, hlt, by go_num, by rw [hrl.out], ST9.out, by have := hrl.out; first | (rw [this]; done) | (rw [this]; omega) | (simp; omega) | omega⟩
          case measure => simp [intOf]; omega
set_option maxHeartbeats 16000000 in
theorem plays_k6 : plays_G.1 6 := by
  intro w c xs hl HWF R hR w1 HB hB hlen qq_0 w2 Av cv Fv HVv HK2 hB2 w3 HK3 hB3 qq_1 w4 b LF HK4 hB4 ST0 qq_2 qq_3 wr u2 u6 u7 u8 u9 u10 u11 u12 u13 u14 qq_4 qq_5 qq_6 qq_7 qq_8 qq_9 qq_10 qq_11 qq_12 qq_13 qq_14 qq_15 qq_16 qq_17 qq_18 qq_19 qq_20 qq_21 qq_22 qq_23 qq_24 qq_25 qq_26 qq_27 qq_28 qq_29 qq_30 qq_31 qq_32 qq_33 qq_34 qq_35 qq_36 qq_37 qq_38 qq_39 qq_40 qq_41 qq_42 qq_43 qq_44 qq_45 qq_46 qq_47 qq_48 qq_49 qq_50 qq_51 qq_52 qq_53 qq_54 qq_55 qq_56 qq_57 qq_58 qq_59 qq_60 qq_61 qq_62 qq_63 qq_64 qq_65 qq_66 qq_67 qq_68 qq_69 qq_70 qq_71 qq_72 qq_73 qq_74 qq_75 qq_76 qq_77 qq_78 qq_79 qq_80 qq_81 qq_82 qq_83 qq_84 qq_85 qq_86 qq_87 qq_88 qq_89 qq_90 qq_91 qq_92 qq_93 qq_94 qq_95 qq_96 qq_97 qq_98 qq_99 qq_100 qq_101 qq_102 qq_103 qq_104 qq_105 qq_106 qq_107 qq_108 qq_109 qq_110 qq_111 qq_112 qq_113 qq_114 qq_115 qq_116 qq_117 qq_118 qq_119 qq_120 qq_121 qq_122 qq_123 qq_124 qq_125 qq_126 qq_127 qq_128 qq_129 qq_130 qq_131 qq_132 qq_133 qq_134 qq_135 qq_136 qq_137 qq_138 qq_139 qq_140 qq_141 qq_142 qq_143 qq_144 qq_145 qq_146 qq_147 qq_148 qq_149 qq_150 qq_151 qq_152 qq_153 qq_154 qq_155 qq_156 qq_157 qq_158 qq_159 qq_160 qq_161 qq_162 qq_163 qq_164 qq_165 qq_166 qq_167 qq_168 qq_169 qq_170 qq_171 qq_172 qq_173 qq_174 qq_175 qq_176 qq_177 qq_178 qq_179 qq_180 qq_181 qq_182 qq_183 qq_184 qq_185 qq_186 qq_187 qq_188 qq_189 qq_190 qq_191 qq_192 qq_193 qq_194 qq_195 qq_196 k ys A2 c2 F G hk hys ST hlt rb ro HV0 HV HV2 HV3 HV4 hr hout hcap oa vk vn vt h0 h1 h2 h3 h4 hox hpos qq_197 qq_198 qq_199 qq_200 qq_201 u30 u31 u32 u33 u34 u35 u36 u37 u38 u39 u40 u41 u42 u43 u44 u45 u46 u47 u48 u49 u50 u51 u52 u53 u54 u55 u56 u57 u58 u59 u60 u61 u62 u63 u64 u65 u66 u67 u68 u69 u70 u71 u72 u73 u74 u75 u76 u77 u78 u79 u80 u81 u82 u83 u84 u85 u86 u87 u88 u89 u90 u91 u92 u93 u94 u95 u96 u97 u98 u99 u100 u101 u102 u103 u104 u105 u106 u107 u108 u109 u110 u111 u112 u113 u114 u115 u116 u117 u118 u119 u120 u121 u122 u123 u124 u125 u126 u127 u128 u129 u130 u131 u132 u133 u134 u135 u136 u137 u138 u139 u140 u141 u142 u143 u144 u145 u146 u147 u148 u149 u150 u151 u152 u153 u154 u155 u156 u157 u158 u159 u160 u161 u162 u163 u164 u165 u166 u167 u168 u169 u170 u171 u172 u173 u174 u175 u176 u177 u178 u179 u180 u181 u182 u183 u184 u185 u186 u187 u188 u189 u190 u191 u192 u193 u194 u195 u196 u197 u198 u199 u200 u201 u202 u203 u204 u205 u206 u207 u208 u209 u210 u211 u212 u213 u214 u215 u216 u217 u218 u219 u220 u221 u222
  go_wp2_with fail
  refine (list_Reverse _ F b ys (ST.out.li.none ((Keeps.refl _ wr).alloc _)) (by omega)).mono ?_
  rintro e w2 ⟨rfl, hl, hk⟩
  have ST2 := hidden ((ST.out.none ((Keeps.refl _ wr).alloc _)).list hk (Fresh.refl F _) hl)
  clear hk hl
  go_wp2_with fail
  have HV2 := hidden (Vals.own ST2.out.row.1)
  obtain ⟨wo, rfl⟩ : ∃ wo, wo = wr := ⟨_, rfl⟩
  go_loopw [13, 14] (fun tr i wr => ∃ (j : Nat) (A3 : Option Addr) (c3 : Nat) (G3 : Nat → Prop), j ≤ ys.length ∧ i = .int .i64 ((ys.length : Int) - 1 - j) ∧ tr = .slice A3 j c3 ∧ Row wr G3 30 3 (.slice A3 j c3) j (flat (ys.reverse.take j)) ∧ (∀ k, G3 k → w2.heap.size ≤ k) ∧ Keeps (fun _ => False) w2 wr) (fun _ i _ => (intOf i + 1).toNat)
  case atStart => exact ⟨0, _, 0, _, Nat.zero_le _, by simp, rfl, Row.made0 w2 _ _, fun k h => by omega, (Keeps.refl _ _).alloc _⟩
  case round =>
    obtain ⟨j, A3, c3, G3, hj, rfl, rfl, hr3, hg3, hk3⟩ := hrel
    have HR3 := hidden hr3
    have HK3 := hidden hk3
    clear hr3
    by_cases hgo : j < ys.length
    · obtain ⟨m, hm⟩ : ∃ m : Nat, m + j + 1 = ys.length := ⟨ys.length - 1 - j, by omega⟩
      have hmi : (ys.length : Int) - 1 - j = m := by omega
      have hmw : IntKind.i64.wrap ((m : Int) - 1) = (m : Int) - 1 := by rw [IntKind.wrap_i64]; omega
      have hml : m < ys.length := by omega
      rw [hmi]
      obtain ⟨qb, qo, rfl, q0, q1, q2⟩ := (HV2.out.keeps hk3 (fun _ _ _ _ h => h)) m ys[m] (List.getElem?_eq_getElem hml)
      have hqb := World.block_lt_of_cell? wr _ q0
      have HS := hidden (show ys.reverse.take (j + 1) = ys.reverse.take j ++ [ys[m]] by
        rw [List.take_succ_eq_append_getElem (by simp; omega), List.getElem_reverse]
        congr 3
        omega)
      clear hk3
      generalize ys[m] = y at *
      obtain ⟨yk, yn, yt⟩ := y
      simp only at q0 q1 q2
      go_wp2_with (at_builtin; refine app_list rfl G3 _ _ _ _ _ _ 3 32 rfl Try.underlying60 info_val rfl (by decide) _ _ _ rfl (HR3.out.alloc _) _ rfl 1 _ (lit_src wr ⟨yk, yn, yt⟩ rfl) (by omega) (by omega) ?_; intro A4 c4 w4 hR3 hK3; have HR4 := hidden hR3; have HK4 := hidden hK3; clear hR3 hK3)
      go_roundw
      case rel =>
        obtain ⟨g1, g2, g3⟩ := app_lit_end (S := fun _ => False) (w := w2) HR3.out HK3.out (fun k h => .inr (hg3 k h)) HR4.out HK4.out
        refine ⟨j + 1, A4, c4, _, hgo, by first | (congr 1; omega) | (simp; omega), rfl, ?_, fun k h => by rcases g3 k h with x | x; exact x.elim; exact x, g2⟩
        rw [HS.out, flat_append]
        exact g1
      case measure => first | (simp [intOf]; done) | (simp [intOf]; omega)
    · obtain rfl : j = ys.length := by omega
      have hmi : (ys.length : Int) - 1 - ys.length = -1 := by omega
      rw [hmi]
      have hr4 := HR3.out
      rw [List.take_of_length_le (by simp)] at hr4
      have HR4 := hidden hr4
      clear hr4
      go_wp2_with fail
      have ST3 := hidden (ST2.out.anew (zs := ys.reverse) HK3.out (by simp) hg3 HR4.out)
      refine (same_true _ _ b ys.reverse _ _ _ ST3.out.li (Vals.own ST3.out.row.1) (by first | rfl | simp) (by first | (simp; done) | (simp; omega) | omega)).mono ?_
      rintro e w9 ⟨rfl, hK⟩
      have ST9 := hidden (ST3.out.none hK)
      clear hK
      go_wp2_with fail
      go_roundw
      case rel => exact ⟨k + 1, ys.reverse, _, _, _, _, hlt, by go_num, by simp, ST9.out, by first | (simp; done) | (simp; omega) | omega⟩
      case measure => simp [intOf]; omega
set_option maxHeartbeats 16000000 in
theorem plays_k8 (ok : Int) (hno : ok ≠ 0 ∧ ok ≠ 1 ∧ ok ≠ 2 ∧ ok ≠ 3 ∧ ok ≠ 4 ∧ ok ≠ 5 ∧ ok ≠ 6 ∧ ok ≠ 7) : plays_G.1 ok := by
  intro w c xs hl HWF R hR w1 HB hB hlen qq_0 w2 Av cv Fv HVv HK2 hB2 w3 HK3 hB3 qq_1 w4 b LF HK4 hB4 ST0 qq_2 qq_3 wr u2 u6 u7 u8 u9 u10 u11 u12 u13 u14 qq_4 qq_5 qq_6 qq_7 qq_8 qq_9 qq_10 qq_11 qq_12 qq_13 qq_14 qq_15 qq_16 qq_17 qq_18 qq_19 qq_20 qq_21 qq_22 qq_23 qq_24 qq_25 qq_26 qq_27 qq_28 qq_29 qq_30 qq_31 qq_32 qq_33 qq_34 qq_35 qq_36 qq_37 qq_38 qq_39 qq_40 qq_41 qq_42 qq_43 qq_44 qq_45 qq_46 qq_47 qq_48 qq_49 qq_50 qq_51 qq_52 qq_53 qq_54 qq_55 qq_56 qq_57 qq_58 qq_59 qq_60 qq_61 qq_62 qq_63 qq_64 qq_65 qq_66 qq_67 qq_68 qq_69 qq_70 qq_71 qq_72 qq_73 qq_74 qq_75 qq_76 qq_77 qq_78 qq_79 qq_80 qq_81 qq_82 qq_83 qq_84 qq_85 qq_86 qq_87 qq_88 qq_89 qq_90 qq_91 qq_92 qq_93 qq_94 qq_95 qq_96 qq_97 qq_98 qq_99 qq_100 qq_101 qq_102 qq_103 qq_104 qq_105 qq_106 qq_107 qq_108 qq_109 qq_110 qq_111 qq_112 qq_113 qq_114 qq_115 qq_116 qq_117 qq_118 qq_119 qq_120 qq_121 qq_122 qq_123 qq_124 qq_125 qq_126 qq_127 qq_128 qq_129 qq_130 qq_131 qq_132 qq_133 qq_134 qq_135 qq_136 qq_137 qq_138 qq_139 qq_140 qq_141 qq_142 qq_143 qq_144 qq_145 qq_146 qq_147 qq_148 qq_149 qq_150 qq_151 qq_152 qq_153 qq_154 qq_155 qq_156 qq_157 qq_158 qq_159 qq_160 qq_161 qq_162 qq_163 qq_164 qq_165 qq_166 qq_167 qq_168 qq_169 qq_170 qq_171 qq_172 qq_173 qq_174 qq_175 qq_176 qq_177 qq_178 qq_179 qq_180 qq_181 qq_182 qq_183 qq_184 qq_185 qq_186 qq_187 qq_188 qq_189 qq_190 qq_191 qq_192 qq_193 qq_194 qq_195 qq_196 k ys A2 c2 F G hk hys ST hlt rb ro HV0 HV HV2 HV3 HV4 hr hout hcap oa vk vn vt h0 h1 h2 h3 h4 hox hpos qq_197 qq_198 qq_199 qq_200 qq_201 u30 u31 u32 u33 u34 u35 u36 u37 u38 u39 u40 u41 u42 u43 u44 u45 u46 u47 u48 u49 u50 u51 u52 u53 u54 u55 u56 u57 u58 u59 u60 u61 u62 u63 u64 u65 u66 u67 u68 u69 u70 u71 u72 u73 u74 u75 u76 u77 u78 u79 u80 u81 u82 u83 u84 u85 u86 u87 u88 u89 u90 u91 u92 u93 u94 u95 u96 u97 u98 u99 u100 u101 u102 u103 u104 u105 u106 u107 u108 u109 u110 u111 u112 u113 u114 u115 u116 u117 u118 u119 u120 u121 u122 u123 u124 u125 u126 u127 u128 u129 u130 u131 u132 u133 u134 u135 u136 u137 u138 u139 u140 u141 u142 u143 u144 u145 u146 u147 u148 u149 u150 u151 u152 u153 u154 u155 u156 u157 u158 u159 u160 u161 u162 u163 u164 u165 u166 u167 u168 u169 u170 u171 u172 u173 u174 u175 u176 u177 u178 u179 u180 u181 u182 u183 u184 u185 u186 u187 u188 u189 u190 u191 u192 u193 u194 u195 u196 u197 u198 u199 u200 u201 u202 u203 u204 u205 u206 u207 u208 u209 u210 u211 u212 u213 u214 u215 u216 u217 u218 u219 u220 u221 u222
  obtain ⟨n0, n1, n2, n3, n4, n5, n6, n7⟩ := hno
  have j0 : (ok == 0) = false := by simpa using n0
  have j1 : (ok == 1) = false := by simpa using n1
  have j2 : (ok == 2) = false := by simpa using n2
  have j3 : (ok == 3) = false := by simpa using n3
  have j4 : (ok == 4) = false := by simpa using n4
  have j5 : (ok == 5) = false := by simpa using n5
  have j6 : (ok == 6) = false := by simpa using n6
  have j7 : (ok == 7) = false := by simpa using n7
  go_wp2_with fail
  have ST3 := hidden (ST.out.none ((Keeps.refl _ wr).alloc (.cells #[.int .i64 ok, .int .i64 oa, .int .i64 vk, .int .i64 vn, .string vt] 88)))
  refine (same_true _ _ b ys _ _ _ ST3.out.li (Vals.own ST3.out.row.1) (by first | rfl | simp) (by first | (simp; done) | (simp; omega) | omega)).mono ?_
  rintro e w9 ⟨rfl, hK⟩
  have ST9 := hidden (ST3.out.none hK)
  clear hK
  go_wp2_with fail
  go_roundw
  case rel => exact ⟨k + 1, ys, _, _, _, _, hlt, by go_num, by simp, ST9.out, by first | (simp; done) | (simp; omega) | omega⟩
  case measure => simp [intOf]; omega
end Go.Proofs.Ytpaefeknbpfpmaa
