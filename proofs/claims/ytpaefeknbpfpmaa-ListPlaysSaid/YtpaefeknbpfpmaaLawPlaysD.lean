/- The walk of the statement ListPlays: kinds 3. -/
import Derived.Test.YtpaefeknbpfpmaaLawPlaysA
namespace Go.Proofs.Ytpaefeknbpfpmaa
open Go.RowKit
set_option maxRecDepth 100000
set_option maxHeartbeats 16000000 in
theorem plays_k3 : plays_G.1 3 := by
  intro w c xs hl HWF R hR w1 HB hB hlen qq_0 w2 Av cv Fv HVv HK2 hB2 w3 HK3 hB3 qq_1 w4 b LF HK4 hB4 ST0 qq_2 qq_3 wr u2 u6 u7 u8 u9 u10 u11 u12 u13 u14 qq_4 qq_5 qq_6 qq_7 qq_8 qq_9 qq_10 qq_11 qq_12 qq_13 qq_14 qq_15 qq_16 qq_17 qq_18 qq_19 qq_20 qq_21 qq_22 qq_23 qq_24 qq_25 qq_26 qq_27 qq_28 qq_29 qq_30 qq_31 qq_32 qq_33 qq_34 qq_35 qq_36 qq_37 qq_38 qq_39 qq_40 qq_41 qq_42 qq_43 qq_44 qq_45 qq_46 qq_47 qq_48 qq_49 qq_50 qq_51 qq_52 qq_53 qq_54 qq_55 qq_56 qq_57 qq_58 qq_59 qq_60 qq_61 qq_62 qq_63 qq_64 qq_65 qq_66 qq_67 qq_68 qq_69 qq_70 qq_71 qq_72 qq_73 qq_74 qq_75 qq_76 qq_77 qq_78 qq_79 qq_80 qq_81 qq_82 qq_83 qq_84 qq_85 qq_86 qq_87 qq_88 qq_89 qq_90 qq_91 qq_92 qq_93 qq_94 qq_95 qq_96 qq_97 qq_98 qq_99 qq_100 qq_101 qq_102 qq_103 qq_104 qq_105 qq_106 qq_107 qq_108 qq_109 qq_110 qq_111 qq_112 qq_113 qq_114 qq_115 qq_116 qq_117 qq_118 qq_119 qq_120 qq_121 qq_122 qq_123 qq_124 qq_125 qq_126 qq_127 qq_128 qq_129 qq_130 qq_131 qq_132 qq_133 qq_134 qq_135 qq_136 qq_137 qq_138 qq_139 qq_140 qq_141 qq_142 qq_143 qq_144 qq_145 qq_146 qq_147 qq_148 qq_149 qq_150 qq_151 qq_152 qq_153 qq_154 qq_155 qq_156 qq_157 qq_158 qq_159 qq_160 qq_161 qq_162 qq_163 qq_164 qq_165 qq_166 qq_167 qq_168 qq_169 qq_170 qq_171 qq_172 qq_173 qq_174 qq_175 qq_176 qq_177 qq_178 qq_179 qq_180 qq_181 qq_182 qq_183 qq_184 qq_185 qq_186 qq_187 qq_188 qq_189 qq_190 qq_191 qq_192 qq_193 qq_194 qq_195 qq_196 k ys A2 c2 F G hk hys ST hlt rb ro HV0 HV HV2 HV3 HV4 hr hout hcap oa vk vn vt h0 h1 h2 h3 h4 hox hpos qq_197 qq_198 qq_199 qq_200 qq_201 u30 u31 u32 u33 u34 u35 u36 u37 u38 u39 u40 u41 u42 u43 u44 u45 u46 u47 u48 u49 u50 u51 u52 u53 u54 u55 u56 u57 u58 u59 u60 u61 u62 u63 u64 u65 u66 u67 u68 u69 u70 u71 u72 u73 u74 u75 u76 u77 u78 u79 u80 u81 u82 u83 u84 u85 u86 u87 u88 u89 u90 u91 u92 u93 u94 u95 u96 u97 u98 u99 u100 u101 u102 u103 u104 u105 u106 u107 u108 u109 u110 u111 u112 u113 u114 u115 u116 u117 u118 u119 u120 u121 u122 u123 u124 u125 u126 u127 u128 u129 u130 u131 u132 u133 u134 u135 u136 u137 u138 u139 u140 u141 u142 u143 u144 u145 u146 u147 u148 u149 u150 u151 u152 u153 u154 u155 u156 u157 u158 u159 u160 u161 u162 u163 u164 u165 u166 u167 u168 u169 u170 u171 u172 u173 u174 u175 u176 u177 u178 u179 u180 u181 u182 u183 u184 u185 u186 u187 u188 u189 u190 u191 u192 u193 u194 u195 u196 u197 u198 u199 u200 u201 u202 u203 u204 u205 u206 u207 u208 u209 u210 u211 u212 u213 u214 u215 u216 u217 u218 u219 u220 u221 u222
  by_cases hB : 0 ≤ oa ∧ oa ≤ (ys.length : Int)
  · obtain ⟨i, rfl⟩ : ∃ i : Nat, oa = i := ⟨oa.toNat, by omega⟩
    have hi : i ≤ ys.length := by omega
    clear hB
    have i1 : decide ((0 : Int) ≤ (i : Int)) = true := by simp
    have i2 : decide ((i : Int) ≤ (ys.length : Int)) = true := by simp; omega
    go_wp2_with fail
    refine (list_Insert_ok _ F b ys i ⟨vk, vn, vt⟩ (ST.out.li.none ((Keeps.refl _ wr).alloc _)) (by omega) hi).mono ?_
    rintro e w2 ⟨F', rfl, hl, hk, hf⟩
    have ST2 := hidden ((ST.out.none ((Keeps.refl _ wr).alloc _)).list hk hf hl)
    have BX2 := hidden (show w2.heap[wr.heap.size]? = some (.cells #[.int .i64 3, .int .i64 i, .int .i64 vk, .int .i64 vn, .string vt] 88 (0, 0)) from hk.heap (blk_new wr _) (fun e => hout.out.1 e))
    try clear x0 x1 x2 x3 x4 hbx
    have x0 := blk_cell BX2.out 0
    have x1 := blk_cell BX2.out 1
    have x2 := blk_cell BX2.out 2
    have x3 := blk_cell BX2.out 3
    have x4 := blk_cell BX2.out 4
    simp only [List.getElem?_toArray, List.getElem?_cons_zero, List.getElem?_cons_succ] at x0 x1 x2 x3 x4
    have hbx := blk_lt BX2.out
    clear hk hl hf
    go_wp2_with fail
    have y1 := x1
    have y2 := x2
    have y3 := x3
    have y4 := x4
    have hvbw := hbx
    have hbxo := hout.out.2
    have hGvb := hidden (show ∀ k, G k → k < w2.heap.size from fun k h => ST2.out.inG k h)
    clear x0 x1 x2 x3 x4 hbx HV0 HV HV2 HV3 HV4 h0 h1 h2 h3 h4 BX2 hout
    generalize w2 = W at *
    generalize hvbe : wr.heap.size = vb at *
    have boxK := hidden (show ∀ W', Keeps (fun k => W.heap.size ≤ k) W W' → (W'.cell? ⟨vb, 1, none⟩ = some (.int .i64 i) ∧ W'.cell? ⟨vb, 2, none⟩ = some (.int .i64 vk) ∧ W'.cell? ⟨vb, 3, none⟩ = some (.int .i64 vn) ∧ W'.cell? ⟨vb, 4, none⟩ = some (.string vt)) from fun W' hk => ⟨hk.cell y1 (fun h => by simp at h; omega), hk.cell y2 (fun h => by simp at h; omega), hk.cell y3 (fun h => by simp at h; omega), hk.cell y4 (fun h => by simp at h; omega)⟩)
    have hw4 : (i : Int) ≤ (ys.length : Int) := by omega
    have hw6 : (i : Int) ≤ (c2 : Int) := by omega
    have hle : (ys.take i ++ ⟨vk, vn, vt⟩ :: ys.drop i).length = ys.length + 1 := by simp; omega
    have HLE := hidden hle
    have fin : Hid (∀ (A6 : Option Addr) (c6 n6 : Nat) (w6 : World) (G6 : Nat → Prop) (cs : List Value), Row w6 G6 30 3 (.slice A6 n6 c6) n6 cs → cs = flat (ys.take i ++ ⟨vk, vn, vt⟩ :: ys.drop i) → n6 = ys.length + 1 → (∀ k, G6 k → W.heap.size ≤ k) → Keeps (fun k => W.heap.size ≤ k) W w6 → ∃ G7, PlaySt w b F' G7 A6 c6 (ys.take i ++ ⟨vk, vn, vt⟩ :: ys.drop i) (ys.take i ++ ⟨vk, vn, vt⟩ :: ys.drop i) w6 ∧ n6 = (ys.take i ++ ⟨vk, vn, vt⟩ :: ys.drop i).length) := hidden (by
      intro A6 c6 n6 w6 G6 cs hr hcs hn hg hk
      have hlen : n6 = (ys.take i ++ ⟨vk, vn, vt⟩ :: ys.drop i).length := by rw [hle]; exact hn
      rw [hcs] at hr
      exact ⟨_, ST2.out.anew (hk.mono (fun k hlt hge => by omega)) hlen hg hr, hlen⟩)
    have hrowK := hidden (fun (W' : World) (hk : Keeps (fun k => W.heap.size ≤ k) W W') => ST2.out.row.keeps hk (fun k hG hge => by have := hGvb.out k hG; omega))
    clear hle
    cases A2 with
    | none =>
      have hy0 : ys.length = 0 := own_none ST2.out.row.1 rfl
      have hc0 : c2 = 0 := by
        rcases ST2.out.row.1.2 with ⟨h, _⟩ | ⟨g, cap, cur, h, _⟩
        · simp at h; exact h.2
        · simp at h
      obtain rfl : i = 0 := by omega
      subst hc0
      have hyn : ys = [] := List.eq_nil_of_length_eq_zero hy0
      subst hyn
      have HSRC := hidden (fun (W' : World) (G' : Nat → Prop) (_ : Row W' G' 30 3 (.slice none ([] : List V).length 0) ([] : List V).length (flat [])) => (show Src Try.prog 3 60 (.slice none 0 0) 0 (flat (([] : List V).drop 0)) W' from Src.ofNil W' Try.underlying60 0))
      go_region_held3 (fun w' => w'.cell? ⟨vb, 1, none⟩ = some (.int .i64 0) ∧ w'.cell? ⟨vb, 2, none⟩ = some (.int .i64 vk) ∧ w'.cell? ⟨vb, 3, none⟩ = some (.int .i64 vn) ∧ w'.cell? ⟨vb, 4, none⟩ = some (.string vt)) (first | exact ⟨y1, y2, y3, y4⟩ | exact boxK.out _ ((Keeps.refl (fun k => W.heap.size ≤ k) W).drewN _) | exact boxK.out _ (((Keeps.refl (fun k => W.heap.size ≤ k) W).drewN _).alloc _) | exact boxK.out _ ((((Keeps.refl (fun k => W.heap.size ≤ k) W).drewN _).alloc _).alloc _) | exact boxK.out _ HK5.out | exact boxK.out _ (HK5.out.alloc _) | exact boxK.out _ HK6.out | exact boxK.out _ HK7.out) (first | (refine app_step rfl (fun k => W.heap.size ≤ k) _ _ _ _ _ _ 3 32 rfl Try.underlying60 info_val rfl (by decide) _ _ _ rfl HR6.out _ rfl _ (flat (([] : List V).drop 0)) (HSRC.out _ _ (hrowK.out _ HK6.out)) (by omega) (by omega) ?_; intro A7 c7 w7 hR7 hK7; have HK7 := hidden (HK6.out.trans hK7 (fun k _ e => HR6.out.2 k e)); have HR7 := hidden (hR7.mono (G := fun k => W.heap.size ≤ k) (fun k _ h => by have := HK6.out.size; (try simp at h); omega)); clear hR7 hK7) | (refine app_step rfl (fun k => W.heap.size ≤ k) _ _ _ _ _ _ 3 32 rfl Try.underlying60 info_val rfl (by decide) _ _ _ rfl HR5.out _ rfl 1 _ (HLV.out.src (c := 1) Try.underlying60) (by omega) (by omega) ?_; intro A6 c6 w6 hR6 hK6; have HK6 := hidden (HK5.out.trans hK6 (fun k _ e => HR5.out.2 k e)); have HR6 := hidden (hR6.mono (G := fun k => W.heap.size ≤ k) (fun k _ h => by have := HK5.out.size; (try simp at h); omega)); clear hR6 hK6) | (refine app_step rfl (fun k => W.heap.size ≤ k) _ _ _ _ _ _ 3 32 rfl Try.underlying60 info_val rfl (by decide) _ _ _ rfl (HR5n.out.alloc _) _ rfl 1 _ (lit_src w5 ⟨vk, vn, vt⟩ rfl) (by omega) (by omega) ?_; intro A6 c6 w6 hR6 hK6; have HK6 := hidden ((HK5.out.alloc _).trans hK6 (fun k _ e => HR5n.out.2 k e)); have HR6 := hidden (hR6.mono (G := fun k => W.heap.size ≤ k) (fun k _ h => by have := HK5.out.size; (try simp at h); omega)); clear hR6 hK6) | (refine app_step rfl (fun k => W.heap.size ≤ k) _ _ _ _ _ _ 3 32 rfl Try.underlying60 info_val rfl (by decide) (.slice (some ⟨W.heap.size, 0, none⟩) 0 0) 0 [] rfl (made0' _ _ _ rfl (Nat.le_refl _)) _ rfl 0 (flat (([] : List V).take 0)) (srcTake (hrowK.out _ (((Keeps.refl (fun k => W.heap.size ≤ k) W).drewN _).alloc _)) rfl (by omega)) (by omega) (by omega) ?_; intro A5 c5 w5 hR5 hK5; have HK5 := hidden ((((Keeps.refl (fun k => W.heap.size ≤ k) W).drewN _).alloc _).trans hK5 (fun k _ e => by simp [Value.ownBlock] at e; omega)); have HR5 := hidden (hR5.mono (G := fun k => W.heap.size ≤ k) (fun k _ h => by (try simp at h); omega)); have hR5n := hR5; rw [Nat.zero_add] at hR5n; have HR5n := hidden (hR5n.mono (G := fun k => W.heap.size ≤ k) (fun k _ h => by (try simp at h); omega)); clear hR5 hK5 hR5n) | (refine app_step rfl (fun k => W.heap.size ≤ k) _ _ _ _ _ _ 3 32 rfl Try.underlying60 info_val rfl (by decide) (.slice (some ⟨W.heap.size, 0, none⟩) 0 0) 0 [] rfl ((made0' _ _ _ rfl (Nat.le_refl _)).alloc _).drew _ rfl 0 (flat (([] : List V).take 0)) (srcTake (hrowK.out _ ((((Keeps.refl (fun k => W.heap.size ≤ k) W).drewN _).alloc _).alloc _)) rfl (by omega)) (by omega) (by omega) ?_; intro A5 c5 w5 hR5 hK5; have HK5 := hidden (((((Keeps.refl (fun k => W.heap.size ≤ k) W).drewN _).alloc _).alloc _).trans hK5 (fun k _ e => by simp [Value.ownBlock] at e; omega)); have HR5 := hidden (hR5.mono (G := fun k => W.heap.size ≤ k) (fun k _ h => by (try simp at h); omega)); have hR5n := hR5; rw [Nat.zero_add] at hR5n; have HR5n := hidden (hR5n.mono (G := fun k => W.heap.size ≤ k) (fun k _ h => by (try simp at h); omega)); have HLV := hidden (Vals.keeps (lit_drew (m := W.heap.size + 1) _ ⟨vk, vn, vt⟩ (by simp)) hK5 (fun _ b o e h => by (try simp at e); (try simp [Value.ownBlock] at h); omega)); clear hR5 hK5 hR5n) | (refine app_step rfl (fun k => W.heap.size ≤ k) _ _ _ _ _ _ 3 32 rfl Try.underlying60 info_val rfl (by decide) (.slice (some ⟨W.heap.size + 1, 0, none⟩) 0 0) 0 [] rfl (made0' _ _ _ (by simp) (Nat.le_succ _)).drew _ rfl 0 (flat (([] : List V).take 0)) (srcTake (hrowK.out _ ((((Keeps.refl (fun k => W.heap.size ≤ k) W).drewN _).alloc _).alloc _)) rfl (by omega)) (by omega) (by omega) ?_; intro A5 c5 w5 hR5 hK5; have HK5 := hidden (((((Keeps.refl (fun k => W.heap.size ≤ k) W).drewN _).alloc _).alloc _).trans hK5 (fun k _ e => by simp [Value.ownBlock] at e; omega)); have HR5 := hidden (hR5.mono (G := fun k => W.heap.size ≤ k) (fun k _ h => by (try simp at h); omega)); have hR5n := hR5; rw [Nat.zero_add] at hR5n; have HR5n := hidden (hR5n.mono (G := fun k => W.heap.size ≤ k) (fun k _ h => by (try simp at h); omega)); have HLV := hidden (Vals.keeps (lit_drew2 (m := W.heap.size) _ ⟨vk, vn, vt⟩ _ (by simp)) hK5 (fun _ b o e h => by (try simp at e); (try simp [Value.ownBlock] at h); omega)); clear hR5 hK5 hR5n))
      all_goals as_aux_lemma =>
        go_wp2_with fail
        obtain ⟨G7, hst4, hlen7⟩ := fin.out _ _ _ _ _ _ HR7.out (by simp [flat]) (by first | omega | (simp; omega)) (fun k h => h) HK7.out
        have ST4 := hidden hst4
        clear hst4
        have hle := HLE.out
        refine (same_true _ _ b (([] : List V).take 0 ++ ⟨vk, vn, vt⟩ :: ([] : List V).drop 0) _ _ _ ST4.out.li (Vals.own ST4.out.row.1) (by first | omega | rfl) (by first | omega | (simp; done) | (simp; omega) | omega)).mono ?_
        rintro e w9 ⟨rfl, hK⟩
        clear hlen7 hle
        have ST9 := hidden (ST4.out.none hK)
        clear hK
        go_wp2_with fail
        go_roundw
        case rel => exact ⟨k + 1, (([] : List V).take 0 ++ ⟨vk, vn, vt⟩ :: ([] : List V).drop 0), _, _, _, _, hlt, by go_num, by first | rfl | (congr 1; omega) | (rw [hle]; congr 1; omega), ST9.out, by first | omega | (simp; done) | (simp; omega) | omega⟩
        case measure => simp [intOf]; omega
    | some ad =>
      obtain ⟨qb, rfl⟩ : ∃ qb, ad = ⟨qb, 0, none⟩ := by
        rcases ST2.out.row.1.2 with ⟨h, _⟩ | ⟨g, cap, cur, h, _⟩
        · simp at h
        · simp at h; exact ⟨g, h.1⟩
      obtain ⟨qq, s9, c9, hq1, hq2, hq3, hsrc⟩ := srcDrop (i := i) ST2.out.row rfl (by omega)
      have HSRC := hidden hsrc
      clear hsrc
      by_cases hz : c2 = i
      · obtain ⟨rfl, rfl, rfl⟩ := hq1 hz
        have hl9 : ys.length ≤ i := by omega
        clear hq1 hq2 hq3
        have hz := hz.symm
        subst hz
        go_region_held3 (fun w' => w'.cell? ⟨vb, 1, none⟩ = some (.int .i64 i) ∧ w'.cell? ⟨vb, 2, none⟩ = some (.int .i64 vk) ∧ w'.cell? ⟨vb, 3, none⟩ = some (.int .i64 vn) ∧ w'.cell? ⟨vb, 4, none⟩ = some (.string vt)) (first | exact ⟨y1, y2, y3, y4⟩ | exact boxK.out _ ((Keeps.refl (fun k => W.heap.size ≤ k) W).drewN _) | exact boxK.out _ (((Keeps.refl (fun k => W.heap.size ≤ k) W).drewN _).alloc _) | exact boxK.out _ ((((Keeps.refl (fun k => W.heap.size ≤ k) W).drewN _).alloc _).alloc _) | exact boxK.out _ HK5.out | exact boxK.out _ (HK5.out.alloc _) | exact boxK.out _ HK6.out | exact boxK.out _ HK7.out) (first | (refine app_step rfl (fun k => W.heap.size ≤ k) _ _ _ _ _ _ 3 32 rfl Try.underlying60 info_val rfl (by decide) _ _ _ rfl HR6.out _ rfl _ (flat (ys.drop i)) (HSRC.out _ _ (hrowK.out _ HK6.out)) (by omega) (by omega) ?_; intro A7 c7 w7 hR7 hK7; have HK7 := hidden (HK6.out.trans hK7 (fun k _ e => HR6.out.2 k e)); have HR7 := hidden (hR7.mono (G := fun k => W.heap.size ≤ k) (fun k _ h => by have := HK6.out.size; (try simp at h); omega)); clear hR7 hK7) | (refine app_step rfl (fun k => W.heap.size ≤ k) _ _ _ _ _ _ 3 32 rfl Try.underlying60 info_val rfl (by decide) _ _ _ rfl HR5.out _ rfl 1 _ (HLV.out.src (c := 1) Try.underlying60) (by omega) (by omega) ?_; intro A6 c6 w6 hR6 hK6; have HK6 := hidden (HK5.out.trans hK6 (fun k _ e => HR5.out.2 k e)); have HR6 := hidden (hR6.mono (G := fun k => W.heap.size ≤ k) (fun k _ h => by have := HK5.out.size; (try simp at h); omega)); clear hR6 hK6) | (refine app_step rfl (fun k => W.heap.size ≤ k) _ _ _ _ _ _ 3 32 rfl Try.underlying60 info_val rfl (by decide) _ _ _ rfl (HR5n.out.alloc _) _ rfl 1 _ (lit_src w5 ⟨vk, vn, vt⟩ rfl) (by omega) (by omega) ?_; intro A6 c6 w6 hR6 hK6; have HK6 := hidden ((HK5.out.alloc _).trans hK6 (fun k _ e => HR5n.out.2 k e)); have HR6 := hidden (hR6.mono (G := fun k => W.heap.size ≤ k) (fun k _ h => by have := HK5.out.size; (try simp at h); omega)); clear hR6 hK6) | (refine app_step rfl (fun k => W.heap.size ≤ k) _ _ _ _ _ _ 3 32 rfl Try.underlying60 info_val rfl (by decide) (.slice (some ⟨W.heap.size, 0, none⟩) 0 0) 0 [] rfl (made0' _ _ _ rfl (Nat.le_refl _)) _ rfl i (flat (ys.take i)) (srcTake (hrowK.out _ (((Keeps.refl (fun k => W.heap.size ≤ k) W).drewN _).alloc _)) rfl (by omega)) (by omega) (by omega) ?_; intro A5 c5 w5 hR5 hK5; have HK5 := hidden ((((Keeps.refl (fun k => W.heap.size ≤ k) W).drewN _).alloc _).trans hK5 (fun k _ e => by simp [Value.ownBlock] at e; omega)); have HR5 := hidden (hR5.mono (G := fun k => W.heap.size ≤ k) (fun k _ h => by (try simp at h); omega)); have hR5n := hR5; rw [Nat.zero_add] at hR5n; have HR5n := hidden (hR5n.mono (G := fun k => W.heap.size ≤ k) (fun k _ h => by (try simp at h); omega)); clear hR5 hK5 hR5n) | (refine app_step rfl (fun k => W.heap.size ≤ k) _ _ _ _ _ _ 3 32 rfl Try.underlying60 info_val rfl (by decide) (.slice (some ⟨W.heap.size, 0, none⟩) 0 0) 0 [] rfl ((made0' _ _ _ rfl (Nat.le_refl _)).alloc _).drew _ rfl i (flat (ys.take i)) (srcTake (hrowK.out _ ((((Keeps.refl (fun k => W.heap.size ≤ k) W).drewN _).alloc _).alloc _)) rfl (by omega)) (by omega) (by omega) ?_; intro A5 c5 w5 hR5 hK5; have HK5 := hidden (((((Keeps.refl (fun k => W.heap.size ≤ k) W).drewN _).alloc _).alloc _).trans hK5 (fun k _ e => by simp [Value.ownBlock] at e; omega)); have HR5 := hidden (hR5.mono (G := fun k => W.heap.size ≤ k) (fun k _ h => by (try simp at h); omega)); have hR5n := hR5; rw [Nat.zero_add] at hR5n; have HR5n := hidden (hR5n.mono (G := fun k => W.heap.size ≤ k) (fun k _ h => by (try simp at h); omega)); have HLV := hidden (Vals.keeps (lit_drew (m := W.heap.size + 1) _ ⟨vk, vn, vt⟩ (by simp)) hK5 (fun _ b o e h => by (try simp at e); (try simp [Value.ownBlock] at h); omega)); clear hR5 hK5 hR5n) | (refine app_step rfl (fun k => W.heap.size ≤ k) _ _ _ _ _ _ 3 32 rfl Try.underlying60 info_val rfl (by decide) (.slice (some ⟨W.heap.size + 1, 0, none⟩) 0 0) 0 [] rfl (made0' _ _ _ (by simp) (Nat.le_succ _)).drew _ rfl i (flat (ys.take i)) (srcTake (hrowK.out _ ((((Keeps.refl (fun k => W.heap.size ≤ k) W).drewN _).alloc _).alloc _)) rfl (by omega)) (by omega) (by omega) ?_; intro A5 c5 w5 hR5 hK5; have HK5 := hidden (((((Keeps.refl (fun k => W.heap.size ≤ k) W).drewN _).alloc _).alloc _).trans hK5 (fun k _ e => by simp [Value.ownBlock] at e; omega)); have HR5 := hidden (hR5.mono (G := fun k => W.heap.size ≤ k) (fun k _ h => by (try simp at h); omega)); have hR5n := hR5; rw [Nat.zero_add] at hR5n; have HR5n := hidden (hR5n.mono (G := fun k => W.heap.size ≤ k) (fun k _ h => by (try simp at h); omega)); have HLV := hidden (Vals.keeps (lit_drew2 (m := W.heap.size) _ ⟨vk, vn, vt⟩ _ (by simp)) hK5 (fun _ b o e h => by (try simp at e); (try simp [Value.ownBlock] at h); omega)); clear hR5 hK5 hR5n))
        all_goals as_aux_lemma =>
          go_wp2_with fail
          obtain ⟨G7, hst4, hlen7⟩ := fin.out _ _ _ _ _ _ HR7.out (by simp [flat]) (by first | omega | (simp; omega)) (fun k h => h) HK7.out
          have ST4 := hidden hst4
          clear hst4
          have hle := HLE.out
          refine (same_true _ _ b (ys.take i ++ ⟨vk, vn, vt⟩ :: ys.drop i) _ _ _ ST4.out.li (Vals.own ST4.out.row.1) (by first | omega | rfl) (by first | omega | (simp; done) | (simp; omega) | omega)).mono ?_
          rintro e w9 ⟨rfl, hK⟩
          have ST9 := hidden (ST4.out.none hK)
          clear hK
          go_wp2_with fail
          go_roundw
          case rel => exact ⟨k + 1, (ys.take i ++ ⟨vk, vn, vt⟩ :: ys.drop i), _, _, _, _, hlt, by go_num, by first | rfl | (congr 1; omega) | (rw [hle]; congr 1; omega), ST9.out, by first | omega | (simp; done) | (simp; omega) | omega⟩
          case measure => simp [intOf]; omega
      · obtain ⟨rfl, rfl, rfl⟩ := hq2 hz
        clear hq1 hq2
        go_region_held3 (fun w' => w'.cell? ⟨vb, 1, none⟩ = some (.int .i64 i) ∧ w'.cell? ⟨vb, 2, none⟩ = some (.int .i64 vk) ∧ w'.cell? ⟨vb, 3, none⟩ = some (.int .i64 vn) ∧ w'.cell? ⟨vb, 4, none⟩ = some (.string vt)) (first | exact ⟨y1, y2, y3, y4⟩ | exact boxK.out _ ((Keeps.refl (fun k => W.heap.size ≤ k) W).drewN _) | exact boxK.out _ (((Keeps.refl (fun k => W.heap.size ≤ k) W).drewN _).alloc _) | exact boxK.out _ ((((Keeps.refl (fun k => W.heap.size ≤ k) W).drewN _).alloc _).alloc _) | exact boxK.out _ HK5.out | exact boxK.out _ (HK5.out.alloc _) | exact boxK.out _ HK6.out | exact boxK.out _ HK7.out) (first | (refine app_step rfl (fun k => W.heap.size ≤ k) _ _ _ _ _ _ 3 32 rfl Try.underlying60 info_val rfl (by decide) _ _ _ rfl HR6.out _ rfl _ (flat (ys.drop i)) (HSRC.out _ _ (hrowK.out _ HK6.out)) (by omega) (by omega) ?_; intro A7 c7 w7 hR7 hK7; have HK7 := hidden (HK6.out.trans hK7 (fun k _ e => HR6.out.2 k e)); have HR7 := hidden (hR7.mono (G := fun k => W.heap.size ≤ k) (fun k _ h => by have := HK6.out.size; (try simp at h); omega)); clear hR7 hK7) | (refine app_step rfl (fun k => W.heap.size ≤ k) _ _ _ _ _ _ 3 32 rfl Try.underlying60 info_val rfl (by decide) _ _ _ rfl HR5.out _ rfl 1 _ (HLV.out.src (c := 1) Try.underlying60) (by omega) (by omega) ?_; intro A6 c6 w6 hR6 hK6; have HK6 := hidden (HK5.out.trans hK6 (fun k _ e => HR5.out.2 k e)); have HR6 := hidden (hR6.mono (G := fun k => W.heap.size ≤ k) (fun k _ h => by have := HK5.out.size; (try simp at h); omega)); clear hR6 hK6) | (refine app_step rfl (fun k => W.heap.size ≤ k) _ _ _ _ _ _ 3 32 rfl Try.underlying60 info_val rfl (by decide) _ _ _ rfl (HR5n.out.alloc _) _ rfl 1 _ (lit_src w5 ⟨vk, vn, vt⟩ rfl) (by omega) (by omega) ?_; intro A6 c6 w6 hR6 hK6; have HK6 := hidden ((HK5.out.alloc _).trans hK6 (fun k _ e => HR5n.out.2 k e)); have HR6 := hidden (hR6.mono (G := fun k => W.heap.size ≤ k) (fun k _ h => by have := HK5.out.size; (try simp at h); omega)); clear hR6 hK6) | (refine app_step rfl (fun k => W.heap.size ≤ k) _ _ _ _ _ _ 3 32 rfl Try.underlying60 info_val rfl (by decide) (.slice (some ⟨W.heap.size, 0, none⟩) 0 0) 0 [] rfl (made0' _ _ _ rfl (Nat.le_refl _)) _ rfl i (flat (ys.take i)) (srcTake (hrowK.out _ (((Keeps.refl (fun k => W.heap.size ≤ k) W).drewN _).alloc _)) rfl (by omega)) (by omega) (by omega) ?_; intro A5 c5 w5 hR5 hK5; have HK5 := hidden ((((Keeps.refl (fun k => W.heap.size ≤ k) W).drewN _).alloc _).trans hK5 (fun k _ e => by simp [Value.ownBlock] at e; omega)); have HR5 := hidden (hR5.mono (G := fun k => W.heap.size ≤ k) (fun k _ h => by (try simp at h); omega)); have hR5n := hR5; rw [Nat.zero_add] at hR5n; have HR5n := hidden (hR5n.mono (G := fun k => W.heap.size ≤ k) (fun k _ h => by (try simp at h); omega)); clear hR5 hK5 hR5n) | (refine app_step rfl (fun k => W.heap.size ≤ k) _ _ _ _ _ _ 3 32 rfl Try.underlying60 info_val rfl (by decide) (.slice (some ⟨W.heap.size, 0, none⟩) 0 0) 0 [] rfl ((made0' _ _ _ rfl (Nat.le_refl _)).alloc _).drew _ rfl i (flat (ys.take i)) (srcTake (hrowK.out _ ((((Keeps.refl (fun k => W.heap.size ≤ k) W).drewN _).alloc _).alloc _)) rfl (by omega)) (by omega) (by omega) ?_; intro A5 c5 w5 hR5 hK5; have HK5 := hidden (((((Keeps.refl (fun k => W.heap.size ≤ k) W).drewN _).alloc _).alloc _).trans hK5 (fun k _ e => by simp [Value.ownBlock] at e; omega)); have HR5 := hidden (hR5.mono (G := fun k => W.heap.size ≤ k) (fun k _ h => by (try simp at h); omega)); have hR5n := hR5; rw [Nat.zero_add] at hR5n; have HR5n := hidden (hR5n.mono (G := fun k => W.heap.size ≤ k) (fun k _ h => by (try simp at h); omega)); have HLV := hidden (Vals.keeps (lit_drew (m := W.heap.size + 1) _ ⟨vk, vn, vt⟩ (by simp)) hK5 (fun _ b o e h => by (try simp at e); (try simp [Value.ownBlock] at h); omega)); clear hR5 hK5 hR5n) | (refine app_step rfl (fun k => W.heap.size ≤ k) _ _ _ _ _ _ 3 32 rfl Try.underlying60 info_val rfl (by decide) (.slice (some ⟨W.heap.size + 1, 0, none⟩) 0 0) 0 [] rfl (made0' _ _ _ (by simp) (Nat.le_succ _)).drew _ rfl i (flat (ys.take i)) (srcTake (hrowK.out _ ((((Keeps.refl (fun k => W.heap.size ≤ k) W).drewN _).alloc _).alloc _)) rfl (by omega)) (by omega) (by omega) ?_; intro A5 c5 w5 hR5 hK5; have HK5 := hidden (((((Keeps.refl (fun k => W.heap.size ≤ k) W).drewN _).alloc _).alloc _).trans hK5 (fun k _ e => by simp [Value.ownBlock] at e; omega)); have HR5 := hidden (hR5.mono (G := fun k => W.heap.size ≤ k) (fun k _ h => by (try simp at h); omega)); have hR5n := hR5; rw [Nat.zero_add] at hR5n; have HR5n := hidden (hR5n.mono (G := fun k => W.heap.size ≤ k) (fun k _ h => by (try simp at h); omega)); have HLV := hidden (Vals.keeps (lit_drew2 (m := W.heap.size) _ ⟨vk, vn, vt⟩ _ (by simp)) hK5 (fun _ b o e h => by (try simp at e); (try simp [Value.ownBlock] at h); omega)); clear hR5 hK5 hR5n))
        all_goals as_aux_lemma =>
          go_wp2_with fail
          obtain ⟨G7, hst4, hlen7⟩ := fin.out _ _ _ _ _ _ HR7.out (by simp [flat]) (by first | omega | (simp; omega)) (fun k h => h) HK7.out
          have ST4 := hidden hst4
          clear hst4
          have hle := HLE.out
          refine (same_true _ _ b (ys.take i ++ ⟨vk, vn, vt⟩ :: ys.drop i) _ _ _ ST4.out.li (Vals.own ST4.out.row.1) (by first | omega | rfl) (by first | omega | (simp; done) | (simp; omega) | omega)).mono ?_
          rintro e w9 ⟨rfl, hK⟩
          have ST9 := hidden (ST4.out.none hK)
          clear hK
          go_wp2_with fail
          go_roundw
          case rel => exact ⟨k + 1, (ys.take i ++ ⟨vk, vn, vt⟩ :: ys.drop i), _, _, _, _, hlt, by go_num, by first | rfl | (congr 1; omega) | (rw [hle]; congr 1; omega), ST9.out, by first | omega | (simp; done) | (simp; omega) | omega⟩
          case measure => simp [intOf]; omega
  · have i1 : oa < 0 ∨ (0 ≤ oa ∧ (ys.length : Int) < oa) := by omega
    rcases i1 with i1 | ⟨i1, i2⟩
    all_goals
      go_wp2_with fail
      refine (list_Insert_range _ F b ys oa ⟨vk, vn, vt⟩ (ST.out.li.none ((Keeps.refl _ wr).alloc _)) (by omega)).mono ?_
      rintro e w2 ⟨rfl, hk⟩
      have BX2 := hidden (show w2.heap[wr.heap.size]? = some (.cells #[.int .i64 3, .int .i64 oa, .int .i64 vk, .int .i64 vn, .string vt] 88 (0, 0)) from hk.heap (blk_new wr _) (fun h => h))
      try clear x0 x1 x2 x3 x4 hbx
      have x0 := blk_cell BX2.out 0
      have x1 := blk_cell BX2.out 1
      have x2 := blk_cell BX2.out 2
      have x3 := blk_cell BX2.out 3
      have x4 := blk_cell BX2.out 4
      simp only [List.getElem?_toArray, List.getElem?_cons_zero, List.getElem?_cons_succ] at x0 x1 x2 x3 x4
      have hbx := blk_lt BX2.out
      have ST3 := hidden (ST.out.none (((Keeps.refl _ wr).alloc _).trans hk (fun _ _ h => h)))
      clear hk
      go_wp2_with fail
      refine (same_true _ _ b ys _ _ _ ST3.out.li (Vals.own ST3.out.row.1) (by first | rfl | simp) (by first | (simp; done) | (simp; omega) | omega)).mono ?_
      rintro e w9 ⟨rfl, hK⟩
      have ST9 := hidden (ST3.out.none hK)
      clear hK
      go_wp2_with fail
      go_roundw
      case rel => exact ⟨k + 1, ys, _, _, _, _, hlt, by go_num, by simp, ST9.out, by first | (simp; done) | (simp; omega) | omega⟩
      case measure => simp [intOf]; omega
end Go.Proofs.Ytpaefeknbpfpmaa
