/- The walk of the statement ListPlays: kinds 4. -/
import Derived.Test.YtpaefeknbpfpmaaLawPlaysA
namespace Go.Proofs.Ytpaefeknbpfpmaa
open Go.RowKit
set_option maxRecDepth 100000
set_option maxHeartbeats 16000000 in
theorem plays_k4 : plays_G.1 4 := by
  intro w c xs hl HWF R hR w1 HB hB hlen qq_0 w2 Av cv Fv HVv HK2 hB2 w3 HK3 hB3 qq_1 w4 b LF HK4 hB4 ST0 qq_2 qq_3 wr u2 u6 u7 u8 u9 u10 u11 u12 u13 u14 qq_4 qq_5 qq_6 qq_7 qq_8 qq_9 qq_10 qq_11 qq_12 qq_13 qq_14 qq_15 qq_16 qq_17 qq_18 qq_19 qq_20 qq_21 qq_22 qq_23 qq_24 qq_25 qq_26 qq_27 qq_28 qq_29 qq_30 qq_31 qq_32 qq_33 qq_34 qq_35 qq_36 qq_37 qq_38 qq_39 qq_40 qq_41 qq_42 qq_43 qq_44 qq_45 qq_46 qq_47 qq_48 qq_49 qq_50 qq_51 qq_52 qq_53 qq_54 qq_55 qq_56 qq_57 qq_58 qq_59 qq_60 qq_61 qq_62 qq_63 qq_64 qq_65 qq_66 qq_67 qq_68 qq_69 qq_70 qq_71 qq_72 qq_73 qq_74 qq_75 qq_76 qq_77 qq_78 qq_79 qq_80 qq_81 qq_82 qq_83 qq_84 qq_85 qq_86 qq_87 qq_88 qq_89 qq_90 qq_91 qq_92 qq_93 qq_94 qq_95 qq_96 qq_97 qq_98 qq_99 qq_100 qq_101 qq_102 qq_103 qq_104 qq_105 qq_106 qq_107 qq_108 qq_109 qq_110 qq_111 qq_112 qq_113 qq_114 qq_115 qq_116 qq_117 qq_118 qq_119 qq_120 qq_121 qq_122 qq_123 qq_124 qq_125 qq_126 qq_127 qq_128 qq_129 qq_130 qq_131 qq_132 qq_133 qq_134 qq_135 qq_136 qq_137 qq_138 qq_139 qq_140 qq_141 qq_142 qq_143 qq_144 qq_145 qq_146 qq_147 qq_148 qq_149 qq_150 qq_151 qq_152 qq_153 qq_154 qq_155 qq_156 qq_157 qq_158 qq_159 qq_160 qq_161 qq_162 qq_163 qq_164 qq_165 qq_166 qq_167 qq_168 qq_169 qq_170 qq_171 qq_172 qq_173 qq_174 qq_175 qq_176 qq_177 qq_178 qq_179 qq_180 qq_181 qq_182 qq_183 qq_184 qq_185 qq_186 qq_187 qq_188 qq_189 qq_190 qq_191 qq_192 qq_193 qq_194 qq_195 qq_196 k ys A2 c2 F G hk hys ST hlt rb ro HV0 HV HV2 HV3 HV4 hr hout hcap oa vk vn vt h0 h1 h2 h3 h4 hox hpos qq_197 qq_198 qq_199 qq_200 qq_201 u30 u31 u32 u33 u34 u35 u36 u37 u38 u39 u40 u41 u42 u43 u44 u45 u46 u47 u48 u49 u50 u51 u52 u53 u54 u55 u56 u57 u58 u59 u60 u61 u62 u63 u64 u65 u66 u67 u68 u69 u70 u71 u72 u73 u74 u75 u76 u77 u78 u79 u80 u81 u82 u83 u84 u85 u86 u87 u88 u89 u90 u91 u92 u93 u94 u95 u96 u97 u98 u99 u100 u101 u102 u103 u104 u105 u106 u107 u108 u109 u110 u111 u112 u113 u114 u115 u116 u117 u118 u119 u120 u121 u122 u123 u124 u125 u126 u127 u128 u129 u130 u131 u132 u133 u134 u135 u136 u137 u138 u139 u140 u141 u142 u143 u144 u145 u146 u147 u148 u149 u150 u151 u152 u153 u154 u155 u156 u157 u158 u159 u160 u161 u162 u163 u164 u165 u166 u167 u168 u169 u170 u171 u172 u173 u174 u175 u176 u177 u178 u179 u180 u181 u182 u183 u184 u185 u186 u187 u188 u189 u190 u191 u192 u193 u194 u195 u196 u197 u198 u199 u200 u201 u202 u203 u204 u205 u206 u207 u208 u209 u210 u211 u212 u213 u214 u215 u216 u217 u218 u219 u220 u221 u222
  by_cases hB : 0 ≤ oa ∧ oa < (ys.length : Int)
  · have hB2 : decide (0 ≤ oa ∧ oa < (ys.length : Int)) = true := decide_eq_true hB
    rw [hB2]
    clear hB2
    obtain ⟨i, rfl⟩ : ∃ i : Nat, oa = i := ⟨oa.toNat, by omega⟩
    have hi : i < ys.length := by omega
    clear hB
    have hout1 := hidden (show ¬ F (wr.heap.size + 1) ∧ ¬ G (wr.heap.size + 1) from ⟨fun h => by have := ST.out.li.inw _ h; omega, fun h => by have := ST.out.inG _ h; omega⟩)
    go_wp2_with fail
    refine (list_Remove_some _ F b ys i ys[i] (ST.out.li.none (((Keeps.refl _ wr).alloc _).alloc _)) (List.getElem?_eq_getElem hi) (by omega)).mono ?_
    rintro e w2 ⟨rfl, hl, hk⟩
    have hvv : IsVar w2 (wr.heap.size + 1) V.null := hk.heap (new2 wr _ _) (fun h => hout1.out.1 h)
    have ST2 := hidden ((ST.out.none (((Keeps.refl _ wr).alloc _).alloc _)).list hk (Fresh.refl F _) hl)
    obtain ⟨qb, rfl, hgq, hqw, q0, q1, q2, f0, f1, f2⟩ := ST2.out.row.open3 hi
    have hqb : qb < wr.heap.size := ST.out.inG qb hgq
    obtain ⟨v0, v1, v2, v3, v4, v5⟩ := hvv.cells
    simp only [V.null] at v0 v1 v2 v3 v4 v5
    have hvz := blk_lt hvv
    have BX2 := hidden (show w2.heap[wr.heap.size]? = some (.cells #[.int .i64 4, .int .i64 i, .int .i64 vk, .int .i64 vn, .string vt] 88 (0, 0)) from hk.heap (blk_alloc (blk_new wr _) _) (fun e => hout.out.1 e))
    try clear x0 x1 x2 x3 x4 hbx
    have x0 := blk_cell BX2.out 0
    have x1 := blk_cell BX2.out 1
    have x2 := blk_cell BX2.out 2
    have x3 := blk_cell BX2.out 3
    have x4 := blk_cell BX2.out 4
    simp only [List.getElem?_toArray, List.getElem?_cons_zero, List.getElem?_cons_succ] at x0 x1 x2 x3 x4
    have hbx := blk_lt BX2.out
    clear hk hl
    generalize hxi : ys[i] = x at *
    obtain ⟨xk, xn, xt⟩ := x
    simp only at q0 q1 q2
    have hxi := hidden hxi
    unfold V.val
    go_wp2_with fail
    go_quiet (fail)
    go_wp2_with fail
    have ST3 := hidden ((ST2.out.away ((Keeps.refl (fun k => k = wr.heap.size + 1) w2).var (r := wr.heap.size + 1) (fun _ => rfl) (.int .i64 xk) (.int .i64 xn) (.string xt)) (fun k h e => hout1.out.1 (e ▸ h)) (fun k h e => hout1.out.2 (e ▸ h)) (fun k e => by have := ST.out.K.size; omega)).none ((Keeps.refl _ _).drewN nq))
    have y1 : ((((w2.setCell ⟨wr.heap.size + 1, 0, none⟩ (.int .i64 xk)).setCell ⟨wr.heap.size + 1, 1, none⟩ (.int .i64 xn)).setCell ⟨wr.heap.size + 1, 2, none⟩ (.string xt)).drewN nq).cell? ⟨wr.heap.size, 1, none⟩ = some (.int .i64 i) := by go_simp
    have hvbw : wr.heap.size < ((((w2.setCell ⟨wr.heap.size + 1, 0, none⟩ (.int .i64 xk)).setCell ⟨wr.heap.size + 1, 1, none⟩ (.int .i64 xn)).setCell ⟨wr.heap.size + 1, 2, none⟩ (.string xt)).drewN nq).heap.size := by simp; omega
    clear v0 v1 v2 v3 v4 v5 hvz hvv q0 q1 q2 f0 f1 f2 hqw hgq x0 x1 x2 x3 x4 hbx HV0 HV HV2 HV3 HV4 h0 h1 h2 h3 h4
    generalize ((((w2.setCell ⟨wr.heap.size + 1, 0, none⟩ (.int .i64 xk)).setCell ⟨wr.heap.size + 1, 1, none⟩ (.int .i64 xn)).setCell ⟨wr.heap.size + 1, 2, none⟩ (.string xt)).drewN nq) = W at *
    generalize hvbe : wr.heap.size = vb at *
    obtain ⟨qq, s9, c9, hq1, hq2, hq3, hsrc⟩ := srcDrop (i := i + 1) ST3.out.row rfl (by omega)
    have HSRC := hidden hsrc
    have hw1 : IntKind.i64.wrap ((i : Int) + 1) = (i : Int) + 1 := by rw [IntKind.wrap_i64]; omega
    have hw2 : (0 : Int) ≤ (i : Int) + 1 := by omega
    have hw3 : ((i : Int) + 1).toNat = i + 1 := by omega
    have hw4 : (i : Int) ≤ (ys.length : Int) := by omega
    have hw5 : (i : Int) + 1 ≤ (ys.length : Int) := by omega
    have hw6 : (i : Int) ≤ (c2 : Int) := by omega
    have hw7 : (i : Int) + 1 ≤ (c2 : Int) := by omega
    clear hsrc
    have fin : Hid (∀ (A6 : Option Addr) (c6 n6 : Nat) (w6 : World) (G6 : Nat → Prop) (cs : List Value), Row w6 G6 30 3 (.slice A6 n6 c6) n6 cs → cs = flat (ys.take i) ++ flat (ys.drop (i + 1)) → n6 = ys.length - 1 → (∀ k, G6 k → W.heap.size ≤ k) → Keeps (fun k => W.heap.size ≤ k) W w6 → ∃ G7, PlaySt w b F G7 A6 c6 (ys.eraseIdx i) (ys.eraseIdx i) w6 ∧ n6 = (ys.eraseIdx i).length) := hidden (by
      intro A6 c6 n6 w6 G6 cs hr hcs hn hg hk
      have hlen : n6 = (ys.eraseIdx i).length := by rw [List.length_eraseIdx_of_lt hi]; exact hn
      rw [hcs, ← flat_append, ← List.eraseIdx_eq_take_drop_succ] at hr
      exact ⟨_, ST3.out.anew (hk.mono (fun k hlt hge => by omega)) hlen hg hr, hlen⟩)
    have hFW := hidden (show ∀ k, F k → k < W.heap.size from fun k h => ST3.out.li.inw k h)
    have hGW := hidden (show ∀ k, G k → k < W.heap.size from fun k h => ST3.out.inG k h)
    have hrowK := hidden (fun (W' : World) (hk : Keeps (fun k => W.heap.size ≤ k) W W') => ST3.out.row.keeps hk (fun k hG hge => by have := hGW.out k hG; omega))
    by_cases hz : c2 = i + 1
    · obtain ⟨rfl, rfl, rfl⟩ := hq1 hz
      have hl9 : ys.length = i + 1 := by omega
      have hw8 : (i : Int) ≤ (i : Int) + 1 := by omega
      subst hz
      clear hq1 hq2 hq3
      go_region_held3 (fun w' => w'.cell? ⟨vb, 1, none⟩ = some (.int .i64 i)) (first | exact y1 | exact ((Keeps.refl (fun _ => False) _).alloc _).cell y1 (fun h => h) | exact y2 | exact y3 | exact ((Keeps.refl (fun _ => False) _).alloc _).cell y2 (fun h => h)) (first | (refine app_step rfl (fun k => W.heap.size ≤ k) _ _ _ _ _ _ 3 32 rfl Try.underlying60 info_val rfl (by decide) (.slice (some ⟨W.heap.size, 0, none⟩) 0 0) 0 [] rfl (made0' _ _ _ rfl (Nat.le_refl _)) _ rfl i (flat (ys.take i)) (srcTake (hrowK.out _ (((Keeps.refl _ W).drewN _).alloc _)) rfl (by omega)) (by omega) (by omega) ?_; intro A5 c5 w5 hR5 hK5; have HK5 := hidden ((((Keeps.refl (fun k => W.heap.size ≤ k) W).drewN _).alloc _).trans hK5 (fun k _ e => by simp [Value.ownBlock] at e; omega)); have HR5 := hidden hR5; have y2 := HK5.out.cell y1 (fun h => by simp at h; omega); clear hR5 hK5) | (refine app_step rfl (fun k => W.heap.size ≤ k) _ _ _ _ _ _ 3 32 rfl Try.underlying60 info_val rfl (by decide) _ _ _ rfl (HR5.out.mono (fun k _ h => h.elim id (fun h => by simp at h; omega))) _ rfl _ (flat (ys.drop (i + 1))) (HSRC.out _ _ (hrowK.out _ HK5.out)) (by omega) (by omega) ?_; intro A6 c6 w6 hR6 hK6; have HK6 := hidden (HK5.out.trans hK6 (fun k _ e => by have h := HR5.out.2 k e; simp at h; show W.heap.size ≤ k; omega)); have HR6 := hidden hR6; have y3 := HK6.out.cell y1 (fun h => by simp at h; omega); clear hR6 hK6))
      go_wp2_with fail
      obtain ⟨G7, hst4, hlen6⟩ := fin.out _ _ _ _ _ _ HR6.out (by simp [flat]) (by omega) (fun k h => by have h2 : W.heap.size ≤ k ∨ w5.heap.size ≤ k := h; have := HK5.out.size; omega) HK6.out
      have ST4 := hidden hst4
      clear hst4
      have hle := List.length_eraseIdx_of_lt hi
      refine (same_true _ _ b (ys.eraseIdx i) _ _ _ ST4.out.li (Vals.own ST4.out.row.1) (by rw [hle]; omega) (by rw [hle]; first | (simp; done) | (simp; omega) | omega)).mono ?_
      rintro e w9 ⟨rfl, hK⟩
      have ST9 := hidden (ST4.out.none hK)
      clear hK
      go_wp2_with fail
      go_roundw
      case rel => exact ⟨k + 1, (ys.eraseIdx i), _, _, _, _, hlt, by go_num, by rw [hle]; congr 1; omega, ST9.out, by rw [hle]; first | (simp; done) | (simp; omega) | omega⟩
      case measure => simp [intOf]; omega
    · obtain ⟨rfl, rfl, rfl⟩ := hq2 hz
      clear hq1 hq2
      go_region_held3 (fun w' => w'.cell? ⟨vb, 1, none⟩ = some (.int .i64 i)) (first | exact y1 | exact ((Keeps.refl (fun _ => False) _).alloc _).cell y1 (fun h => h) | exact y2 | exact y3 | exact ((Keeps.refl (fun _ => False) _).alloc _).cell y2 (fun h => h)) (first | (refine app_step rfl (fun k => W.heap.size ≤ k) _ _ _ _ _ _ 3 32 rfl Try.underlying60 info_val rfl (by decide) (.slice (some ⟨W.heap.size, 0, none⟩) 0 0) 0 [] rfl (made0' _ _ _ rfl (Nat.le_refl _)) _ rfl i (flat (ys.take i)) (srcTake (hrowK.out _ (((Keeps.refl _ W).drewN _).alloc _)) rfl (by omega)) (by omega) (by omega) ?_; intro A5 c5 w5 hR5 hK5; have HK5 := hidden ((((Keeps.refl (fun k => W.heap.size ≤ k) W).drewN _).alloc _).trans hK5 (fun k _ e => by simp [Value.ownBlock] at e; omega)); have HR5 := hidden hR5; have y2 := HK5.out.cell y1 (fun h => by simp at h; omega); clear hR5 hK5) | (refine app_step rfl (fun k => W.heap.size ≤ k) _ _ _ _ _ _ 3 32 rfl Try.underlying60 info_val rfl (by decide) _ _ _ rfl (HR5.out.mono (fun k _ h => h.elim id (fun h => by simp at h; omega))) _ rfl _ (flat (ys.drop (i + 1))) (HSRC.out _ _ (hrowK.out _ HK5.out)) (by omega) (by omega) ?_; intro A6 c6 w6 hR6 hK6; have HK6 := hidden (HK5.out.trans hK6 (fun k _ e => by have h := HR5.out.2 k e; simp at h; show W.heap.size ≤ k; omega)); have HR6 := hidden hR6; have y3 := HK6.out.cell y1 (fun h => by simp at h; omega); clear hR6 hK6))
      go_wp2_with fail
      obtain ⟨G7, hst4, hlen6⟩ := fin.out _ _ _ _ _ _ HR6.out (by simp [flat]) (by omega) (fun k h => by have h2 : W.heap.size ≤ k ∨ w5.heap.size ≤ k := h; have := HK5.out.size; omega) HK6.out
      have ST4 := hidden hst4
      clear hst4
      have hle := List.length_eraseIdx_of_lt hi
      refine (same_true _ _ b (ys.eraseIdx i) _ _ _ ST4.out.li (Vals.own ST4.out.row.1) (by rw [hle]; omega) (by rw [hle]; first | (simp; done) | (simp; omega) | omega)).mono ?_
      rintro e w9 ⟨rfl, hK⟩
      have ST9 := hidden (ST4.out.none hK)
      clear hK
      go_wp2_with fail
      go_roundw
      case rel => exact ⟨k + 1, (ys.eraseIdx i), _, _, _, _, hlt, by go_num, by rw [hle]; congr 1; omega, ST9.out, by rw [hle]; first | (simp; done) | (simp; omega) | omega⟩
      case measure => simp [intOf]; omega
  · have hB2 : decide (0 ≤ oa ∧ oa < (ys.length : Int)) = false := decide_eq_false hB
    rw [hB2]
    clear hB2
    go_wp2_with fail
    refine (list_Remove_none _ F b ys oa (ST.out.li.none (((Keeps.refl _ wr).alloc _).alloc _)) (by omega)).mono ?_
    rintro e w2 ⟨rfl, hK⟩
    have hvv : IsVar w2 (wr.heap.size + 1) V.null := hK.heap (new2 wr _ _) (fun h => h)
    have HK2 := hidden ((((Keeps.refl _ wr).alloc _).alloc _).trans hK (fun _ _ h => h))
    obtain ⟨v0, v1, v2, v3, v4, v5⟩ := hvv.cells
    simp only [V.null] at v0 v1 v2 v3 v4 v5
    have hvz := blk_lt hvv
    clear hK
    unfold V.val V.null
    go_wp2_with fail
    have ST3 := hidden (ST.out.none (HK2.out.var (r := wr.heap.size + 1) (fun h => by omega) (.int .i64 0) (.int .i64 0) (.string ⟨#[]⟩)))
    refine (same_true _ _ b ys _ _ _ ST3.out.li (Vals.own ST3.out.row.1) (by first | rfl | simp) (by first | (simp; done) | (simp; omega) | omega)).mono ?_
    rintro e w9 ⟨rfl, hK⟩
    have ST9 := hidden (ST3.out.none hK)
    clear hK
    go_wp2_with fail
    go_roundw
    case rel => exact ⟨k + 1, ys, _, _, _, _, hlt, by go_num, by simp, ST9.out, by first | (simp; done) | (simp; omega) | omega⟩
    case measure => simp [intOf]; omega
end Go.Proofs.Ytpaefeknbpfpmaa
