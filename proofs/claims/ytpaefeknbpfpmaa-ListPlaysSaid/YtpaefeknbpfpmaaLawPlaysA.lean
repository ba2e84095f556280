/- The walk of the statement ListPlays: all but what each kind of act does. -/
import Derived.Test.YtpaefeknbpfpmaaOps4
import Derived.Deep.CutBlock
import Derived.Deep.DeepCutAuto
namespace Go.Proofs.Ytpaefeknbpfpmaa
open Go.RowKit
set_option maxRecDepth 100000
set_option maxHeartbeats 16000000 in
noncomputable def plays_G : PSigma (fun PP : Int → Prop => (∀ ok, PP ok) → ∀ (w : World) (A : Option Addr) (c : Nat) (xs : List LOp) (h : Lops w A xs) (hl : xs.length ≤ 4398046511104) (hwf : ∀ x ∈ xs, -9223372036854775808 ≤ x.a ∧ x.a ≤ 9223372036854775807),
    Calls Try.prog 7 #[.slice A xs.length c] w fun e w' => e = .returned (.bool true) ∧ Below w.heap.size w w') := by
  refine ⟨?PP, fun leaf w A c xs h hl hwf => ?_⟩
  rotate_left
  have HV0 := hidden h
  have HWF := hidden hwf
  clear h hwf
  refine post_gen fun R hR => ?_
  go_enter Try.func7, Try.ntmps7
  go_wp2_with fail
  refine (keeps4_true _).mono ?_
  rintro e w1 ⟨rfl, hB1⟩
  have HB := hidden (Keeps.of_below hB1)
  have hB : w.heap.size ≤ w1.heap.size := hB1.size
  have HV := hidden (HV0.out.far HB.out)
  clear hB1
  by_cases hlen : 80 < xs.length
  · go_wp2_with fail
    exact hR.out _ _ ⟨rfl, HB.out.below (Nat.le_refl _) (fun _ h => h)⟩
  go_wp2_with fail
  refine (valsOf_any w1 A c xs HV.out (by omega)).mono ?_
  rintro e w2 ⟨Av, cv, Fv, rfl, hRv, hK⟩
  have HVv := hidden (Vals.own hRv.1)
  obtain ⟨HK2, hB2⟩ := Keeps.stepNone HB hB hK
  have HV2 := hidden (HV.out.none hK)
  clear hK hRv
  go_wp2_with fail
  have kr := right_any w2 Av cv (xs.map (fun x : LOp => x.v)) HVv.out (by simp; omega)
  rw [List.length_map] at kr
  refine kr.mono ?_
  rintro e w3 ⟨rfl, hK⟩
  obtain ⟨HK3, hB3⟩ := Keeps.stepNone HK2 hB2 hK
  have HV3 := hidden (HV2.out.none hK)
  clear hK kr
  cases hall : (xs.map (fun x : LOp => x.v)).all (fun x => x.chk == 0) with
  | false =>
    go_wp2_with fail
    exact hR.out _ _ ⟨rfl, HK3.out.below (Nat.le_refl _) (fun _ h => h)⟩
  | true =>
    clear hall
    go_wp2_with fail
    refine (list_New w3 none 0 [] (Vals.nil _ _) (by simp) (fun _ => rfl)).mono ?_
    rintro e w4 ⟨b, LF, rfl, hL, hK, hF⟩
    obtain ⟨HK4, hB4⟩ := Keeps.stepNone HK3 hB3 hK
    have HV4 := hidden (HV3.out.none hK)
    have ST0 := hidden (show PlaySt w b LF (fun _ => False) none 0 [] [] w4 from ⟨hL, Row.nil _ _ _ _, fun _ h => h.elim, fun _ _ h => h, fun k hk => by have := hF.ge (B := w3.heap.size) (fun _ h => h.elim) (Nat.le_refl _) k hk; omega, fun _ h => h.elim, HK4.out⟩)
    clear hK hL hF
    go_wp2_with fail
    go_loopw [4, 29] (fun want i wr => ∃ (k : Nat) (ys : List V) (A2 : Option Addr) (c2 : Nat) (F G : Nat → Prop), k ≤ xs.length ∧ i = .int .i64 k ∧ want = .slice A2 ys.length c2 ∧ PlaySt w b F G A2 c2 ys ys wr ∧ ys.length ≤ 300 + 2 * k) (fun _ i _ => xs.length - (intOf i).toNat)
    case atStart => exact ⟨0, [], none, 0, _, _, Nat.zero_le _, rfl, rfl, ST0.out, by simp⟩
    case round =>
      obtain ⟨k, ys, A2, c2, F, G, hk, rfl, rfl, hST, hys⟩ := hrel
      have ST := hidden hST
      by_cases hlt : k < xs.length
      · obtain ⟨rb, ro, rfl, h0, h1, h2, h3, h4⟩ := (HV0.out.far hST.K) k xs[k] (List.getElem?_eq_getElem hlt)
        have hr := World.block_lt_of_cell? wr _ h0
        have hox := HWF.out xs[k] (List.getElem_mem hlt)
        have hout := hidden (ST.out.box)
        have hcap : ys.length ≤ c2 := hST.row.cap
        clear hST
        generalize xs[k] = x at *
        obtain ⟨ok, oa, ⟨vk, vn, vt⟩⟩ := x
        simp only at h0 h1 h2 h3 h4 hox
        have hpos : oa < 0 ∨ (0 ≤ oa ∧ oa < (ys.length : Int)) ∨ (ys.length : Int) ≤ oa := by omega
        go_upto_region 11 with fail
        go_cut [8] from 30 to 222 (fun g wx => wx = wr.alloc (.cells #[.int .i64 ok, .int .i64 oa, .int .i64 vk, .int .i64 vn, .string vt] 88) ∧ g = .bool (decide (0 ≤ oa ∧ oa < (ys.length : Int))))
        case first =>
          rcases hpos with hp | ⟨hp, hp2⟩ | hp
          all_goals
            go_wp2_with fail
            go_meet
            exact ⟨rfl, congrArg Value.bool (by first | (symm; exact decide_eq_true (by omega)) | (symm; exact decide_eq_false (by omega)) | (rw [Bool.eq_iff_iff]; simp only [decide_eq_true_eq]; omega))⟩
        case rest =>
        obtain ⟨rfl, rfl⟩ := hcut
        rename_i qq_0 qq_1 qq_2 qq_3 qq_4 qq_5 qq_6 qq_7 qq_8 qq_9 qq_10 qq_11 qq_12 qq_13 qq_14 qq_15 qq_16 qq_17 qq_18 qq_19 qq_20 qq_21 qq_22 qq_23 qq_24 qq_25 qq_26 qq_27 qq_28 qq_29 qq_30 qq_31 qq_32 qq_33 qq_34 qq_35 qq_36 qq_37 qq_38 qq_39 qq_40 qq_41 qq_42 qq_43 qq_44 qq_45 qq_46 qq_47 qq_48 qq_49 qq_50 qq_51 qq_52 qq_53 qq_54 qq_55 qq_56 qq_57 qq_58 qq_59 qq_60 qq_61 qq_62 qq_63 qq_64 qq_65 qq_66 qq_67 qq_68 qq_69 qq_70 qq_71 qq_72 qq_73 qq_74 qq_75 qq_76 qq_77 qq_78 qq_79 qq_80 qq_81 qq_82 qq_83 qq_84 qq_85 qq_86 qq_87 qq_88 qq_89 qq_90 qq_91 qq_92 qq_93 qq_94 qq_95 qq_96 qq_97 qq_98 qq_99 qq_100 qq_101 qq_102 qq_103 qq_104 qq_105 qq_106 qq_107 qq_108 qq_109 qq_110 qq_111 qq_112 qq_113 qq_114 qq_115 qq_116 qq_117 qq_118 qq_119 qq_120 qq_121 qq_122 qq_123 qq_124 qq_125 qq_126 qq_127 qq_128 qq_129 qq_130 qq_131 qq_132 qq_133 qq_134 qq_135 qq_136 qq_137 qq_138 qq_139 qq_140 qq_141 qq_142 qq_143 qq_144 qq_145 qq_146 qq_147 qq_148 qq_149 qq_150 qq_151 qq_152 qq_153 qq_154 qq_155 qq_156 qq_157 qq_158 qq_159 qq_160 qq_161 qq_162 qq_163 qq_164 qq_165 qq_166 qq_167 qq_168 qq_169 qq_170 qq_171 qq_172 qq_173 qq_174 qq_175 qq_176 qq_177 qq_178 qq_179 qq_180 qq_181 qq_182 qq_183 qq_184 qq_185 qq_186 qq_187 qq_188 qq_189 qq_190 qq_191 qq_192 qq_193 qq_194 qq_195 qq_196 qq_197 qq_198 qq_199 qq_200 qq_201
        revert w c xs hl HWF R hR w1 HB hB hlen qq_0 w2 Av cv Fv HVv HK2 hB2 w3 HK3 hB3 qq_1 w4 b LF HK4 hB4 ST0 qq_2 qq_3 wr u2 u6 u7 u8 u9 u10 u11 u12 u13 u14 qq_4 qq_5 qq_6 qq_7 qq_8 qq_9 qq_10 qq_11 qq_12 qq_13 qq_14 qq_15 qq_16 qq_17 qq_18 qq_19 qq_20 qq_21 qq_22 qq_23 qq_24 qq_25 qq_26 qq_27 qq_28 qq_29 qq_30 qq_31 qq_32 qq_33 qq_34 qq_35 qq_36 qq_37 qq_38 qq_39 qq_40 qq_41 qq_42 qq_43 qq_44 qq_45 qq_46 qq_47 qq_48 qq_49 qq_50 qq_51 qq_52 qq_53 qq_54 qq_55 qq_56 qq_57 qq_58 qq_59 qq_60 qq_61 qq_62 qq_63 qq_64 qq_65 qq_66 qq_67 qq_68 qq_69 qq_70 qq_71 qq_72 qq_73 qq_74 qq_75 qq_76 qq_77 qq_78 qq_79 qq_80 qq_81 qq_82 qq_83 qq_84 qq_85 qq_86 qq_87 qq_88 qq_89 qq_90 qq_91 qq_92 qq_93 qq_94 qq_95 qq_96 qq_97 qq_98 qq_99 qq_100 qq_101 qq_102 qq_103 qq_104 qq_105 qq_106 qq_107 qq_108 qq_109 qq_110 qq_111 qq_112 qq_113 qq_114 qq_115 qq_116 qq_117 qq_118 qq_119 qq_120 qq_121 qq_122 qq_123 qq_124 qq_125 qq_126 qq_127 qq_128 qq_129 qq_130 qq_131 qq_132 qq_133 qq_134 qq_135 qq_136 qq_137 qq_138 qq_139 qq_140 qq_141 qq_142 qq_143 qq_144 qq_145 qq_146 qq_147 qq_148 qq_149 qq_150 qq_151 qq_152 qq_153 qq_154 qq_155 qq_156 qq_157 qq_158 qq_159 qq_160 qq_161 qq_162 qq_163 qq_164 qq_165 qq_166 qq_167 qq_168 qq_169 qq_170 qq_171 qq_172 qq_173 qq_174 qq_175 qq_176 qq_177 qq_178 qq_179 qq_180 qq_181 qq_182 qq_183 qq_184 qq_185 qq_186 qq_187 qq_188 qq_189 qq_190 qq_191 qq_192 qq_193 qq_194 qq_195 qq_196 k ys A2 c2 F G hk hys ST hlt rb ro HV0 HV HV2 HV3 HV4 hr hout hcap oa vk vn vt h0 h1 h2 h3 h4 hox hpos qq_197 qq_198 qq_199 qq_200 qq_201 u30 u31 u32 u33 u34 u35 u36 u37 u38 u39 u40 u41 u42 u43 u44 u45 u46 u47 u48 u49 u50 u51 u52 u53 u54 u55 u56 u57 u58 u59 u60 u61 u62 u63 u64 u65 u66 u67 u68 u69 u70 u71 u72 u73 u74 u75 u76 u77 u78 u79 u80 u81 u82 u83 u84 u85 u86 u87 u88 u89 u90 u91 u92 u93 u94 u95 u96 u97 u98 u99 u100 u101 u102 u103 u104 u105 u106 u107 u108 u109 u110 u111 u112 u113 u114 u115 u116 u117 u118 u119 u120 u121 u122 u123 u124 u125 u126 u127 u128 u129 u130 u131 u132 u133 u134 u135 u136 u137 u138 u139 u140 u141 u142 u143 u144 u145 u146 u147 u148 u149 u150 u151 u152 u153 u154 u155 u156 u157 u158 u159 u160 u161 u162 u163 u164 u165 u166 u167 u168 u169 u170 u171 u172 u173 u174 u175 u176 u177 u178 u179 u180 u181 u182 u183 u184 u185 u186 u187 u188 u189 u190 u191 u192 u193 u194 u195 u196 u197 u198 u199 u200 u201 u202 u203 u204 u205 u206 u207 u208 u209 u210 u211 u212 u213 u214 u215 u216 u217 u218 u219 u220 u221 u222
        exact leaf ok
      · obtain rfl : k = xs.length := by omega
        go_wp2_with fail
        exact hR.out _ _ ⟨rfl, ST.out.K.below (Nat.le_refl _) (fun _ h => h)⟩
end Go.Proofs.Ytpaefeknbpfpmaa
