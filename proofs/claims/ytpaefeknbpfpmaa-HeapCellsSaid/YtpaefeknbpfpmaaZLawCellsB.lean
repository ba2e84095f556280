/- dreylaw06.HeapCells: the walk. -/
import Derived.Test.YtpaefeknbpfpmaaZLawCellsA
namespace Go.Proofs.Ytpaefeknbpfpmaa
open Go.RowKit
set_option maxRecDepth 100000
set_option linter.unusedSimpArgs false
set_option maxHeartbeats 8000000 in
noncomputable def cells_G : PSigma (fun PP : Int → Prop => (∀ ok, PP ok) → ∀ (w : World) (kind other : Int) (Av An lp0 tp0 : Option Addr) (cv cn : Nat) (xs : List V) (ns : List Int) (text : ByteArray) (hV : Vals w Av xs) (hN : Ints w An ns) (nv : Av = none → xs = []) (nn : An = none → ns = []) (hl1 : xs.length ≤ 9223372036854775807) (hl2 : ns.length ≤ 9223372036854775807) (ht : True),
    Calls Try.prog 6 #[.agg #[.int .i64 kind, .slice Av xs.length cv, .pointer lp0, .pointer tp0, .slice An ns.length cn, .string text], .int .i64 other] w fun e w' => e = .returned (.bool true) ∧ Below w.heap.size w w') := by
  refine ⟨?PP, fun leaf w kind other Av An lp0 tp0 cv cn xs ns text hV hN nv nn hl1 hl2 ht => ?_⟩
  rotate_left
  · have HV0 := hidden hV
    have HN0 := hidden hN
    have NV := hidden nv
    have NN := hidden nn
    clear hV hN nv nn
    refine post_gen fun R hR => ?_
    go_enter Try.func6, Try.ntmps6
    go_wp2_with fail
    refine (keeps6_true _).mono ?_
    rintro e w1 ⟨rfl, hB1⟩
    have S1 := hidden (show SC w w1 (.int .i64 kind) (.slice Av xs.length cv) (.pointer lp0) (.pointer tp0) (.slice An ns.length cn) (.string text) from
      ⟨((Keeps.refl _ w).alloc _).trans (Keeps.of_below hB1) (fun k _ h => by simp at h; omega), (Keeps.of_below hB1).heap (blk_new w _) (by simp)⟩)
    clear hB1
    obtain ⟨x0, x1, x2, x3, x4, x5, x6, x7, hcz⟩ := S1.out.facts
    by_cases h50 : 50 < xs.length
    · go_wp2_with fail
      exact hR.out _ _ ⟨rfl, S1.out.K.below (Nat.le_refl _) (fun _ h => h)⟩
    by_cases hn50 : 50 < ns.length
    · go_wp2_with fail
      exact hR.out _ _ ⟨rfl, S1.out.K.below (Nat.le_refl _) (fun _ h => h)⟩
    by_cases h200 : 200 < text.size
    · go_wp2_with fail
      exact hR.out _ _ ⟨rfl, S1.out.K.below (Nat.le_refl _) (fun _ h => h)⟩
    go_wp2_with fail
    go_loopw [42] (fun i wr => ∃ k : Nat, k ≤ xs.length ∧ i = .int .i64 k ∧ SC w wr (.int .i64 kind) (.slice Av xs.length cv) (.pointer lp0) (.pointer tp0) (.slice An ns.length cn) (.string text)) (fun i _ => xs.length - (intOf i).toNat)
    case atStart => exact ⟨0, Nat.zero_le _, rfl, S1.out⟩
    case round =>
      clear S1 x0 x1 x2 x3 x4 x5 x6 x7 hcz
      obtain ⟨k, hk, rfl, hS⟩ := hrel
      have HS := hidden hS
      by_cases hlt : k < xs.length
      · obtain ⟨rb, ro, rfl, h0, h1, h2⟩ := (HV0.out.far hS.K) k xs[k] (List.getElem?_eq_getElem hlt)
        have hrz := World.block_lt_of_cell? wr _ h0
        generalize xs[k] = x at h0 h1 h2
        obtain ⟨xk, xn, xt⟩ := x
        simp only at h0 h1 h2
        have CK := hidden (fun (W : World) => value_Check ⟨xk, xn, xt⟩ W)
        generalize (⟨xk, xn, xt⟩ : V).chk = ch at CK
        unfold V.val at CK
        clear hS
        go_wp2_with fail
        refine (CK.out _).mono ?_
        rintro e w2 ⟨rfl, hK⟩
        have S2 := hidden ((HS.out.calm ((Keeps.refl _ wr).alloc _)).calm hK)
        clear hK
        by_cases hc : ch = 0
        · subst hc
          go_wp2_with fail
          go_roundw
          case rel => exact ⟨k + 1, hlt, by go_num, S2.out⟩
          case measure => simp [intOf]; omega
        · have hc2 : (ch != 0) = true := by simpa using hc
          go_wp2_with fail
          exact hR.out _ _ ⟨rfl, S2.out.K.below (Nat.le_refl _) (fun _ h => h)⟩
      · obtain rfl : k = xs.length := by omega
        clear hS hlt
        go_wp2_with fail
        refine (list_New wr none 0 [] (Vals.nil _ _) (by simp) (fun _ => rfl)).mono ?_
        rintro e w2 ⟨lb, LF, rfl, hL, hK, hF⟩
        have S2 := hidden (HS.out.calm hK)
        have LF2 := hidden (show ∀ k, LF k → w.heap.size < k from fun k h => (hF k h).elim (fun h => h.elim) (fun h => Nat.lt_of_lt_of_le (blk_lt HS.out.cb) h))
        have LL2 := hidden hL
        clear hK hF hL HS
        obtain ⟨x0, x1, x2, x3, x4, x5, x6, x7, hcz⟩ := S2.out.facts
        go_wp2_with fail
        have S3 := hidden (S2.out.put (.pointer (some ⟨lb, 0, none⟩)) (.pointer none))
        have LL3 := hidden (LL2.out.keeps (((SameBut.refl w.heap.size w2).set 2 (.pointer (some ⟨lb, 0, none⟩))).set 3 (.pointer none)).keeps (fun k h1 h2 => by have := LF2.out k h1; omega))
        clear S2 LL2 x0 x1 x2 x3 x4 x5 x6 x7 hcz
        generalize (w2.setCell ⟨w.heap.size, 2, none⟩ (.pointer (some ⟨lb, 0, none⟩))).setCell ⟨w.heap.size, 3, none⟩ (.pointer none) = w3 at *
        refine (heap_New w3 5).mono ?_
        rintro e w4 ⟨hb, F0, rfl, hH, hK, hF⟩
        have H4 := hidden (show Hd w hb F0 [] ⟨[], 0, 5, 0, 0⟩ w4 from ⟨hH, HOk.new 5, fun k h => (hF k h).elim (fun h => h.elim) (fun h => Nat.le_trans S3.out.K.size h), S3.out.K.trans hK (fun _ _ h => h.elim)⟩)
        have S4 := hidden (S3.out.calm hK)
        have L4 := hidden (LL3.out.keeps hK (Apart.no _))
        have AP4 := hidden (show Apart F0 LF from fun k h1 h2 => (hF k h1).elim (fun h => h) (fun h => by have := LL3.out.inw k h2; omega))
        have NF4 := hidden (show ¬ F0 w.heap.size from fun h => (hF _ h).elim (fun h => h) (fun h => by have := blk_lt S3.out.cb; omega))
        clear hH hK hF S3 LL3
        obtain ⟨x0, x1, x2, x3, x4, x5, x6, x7, hcz⟩ := S4.out.facts
        go_wp2_with fail
        by_cases hkd : 1 ≤ kind ∧ kind < 11
        · obtain ⟨hk1, hk11⟩ := hkd
          obtain ⟨cl, hcl⟩ : ∃ cl : Cl, cl = ⟨kind, xs, some [], none, ns, text⟩ := ⟨_, rfl⟩
          have GV := hidden (show Given w4 F0 LF (fun _ => False) ⟨kind, xs, some [], none, ns, text⟩ Av An (some ⟨lb, 0, none⟩) none from
            ⟨HV0.out.far S4.out.K, NV.out, HN0.out.far S4.out.K, NN.out, ⟨lb, rfl, L4.out⟩, rfl, AP4.out, Apart.no _, Apart.no _, L4.out.inw, fun _ h => h.elim, ⟨by show xs.length ≤ _; omega, by show ns.length ≤ _; omega, fun ys e => by cases e; exact Nat.zero_le _, fun b L s e => by cases e⟩⟩)
          have AL := hidden (heap_Alloc_made (cv := cv) (cn := cn) H4.out.heap H4.out.ok GV.out ⟨hk1, hk11⟩ (show (0 : Int) < 5 by decide))
          refine AL.out.mono ?_
          rintro e w5 ⟨i, p, F', H', s', rfl, hM⟩
          have H5 := hidden (H4.out.made hM (fun k h => h.elim (fun h => Nat.le_of_lt (by have := LF2.out k h; omega)) (fun h => h.elim)))
          have S5 := hidden (S4.out.other hM.keeps H4.out.hF NF4.out)
          have hi5 := hidden (show H'[i]? = some (some (p, cl)) from hcl ▸ atH_some.1 hM.new.here)
          have NF5 := hidden (hM.off NF4.out (fun h => h.elim (fun h => by have := LF2.out _ h; omega) (fun h => h)) (blk_lt S4.out.cb))
          have V5 := hidden (show V3 w w5 hb i p cl (.int .i64 kind) (.slice Av xs.length cv) (.pointer (some ⟨lb, 0, none⟩)) (.pointer none) (.slice An ns.length cn) (.string text) xs from ⟨⟨F', H', s', H5.out, by rw [hcl] at hi5 ⊢; exact hi5.out, NF5.out⟩, S5.out⟩)
          have HCL := hidden hcl
          clear hM AL GV H4 S4 L4 AP4 NF4 x0 x1 x2 x3 x4 x5 x6 x7 hcz hcl
          have CR := hidden (fun (W : World) => heap_Ref i W)
          unfold V.val at CR
          have CO := hidden (fun (W : World) (hk : Keeps (fun _ => False) w5 W) => heap_Of_ok (H5.out.heap.calm hk) hi5.out kind ⟨#[]⟩ (.inr (by rw [HCL.out])))
          unfold V.val at CO
          obtain ⟨x0, x1, x2, x3, x4, x5, x6, x7, hcz⟩ := S5.out.facts
          go_wp2_with fail
          have SK := hidden (fun (W : World) (hk : Keeps (fun _ => False) w5 W) => show W.cell? ⟨w.heap.size, 0, none⟩ = some (.int .i64 kind) from (S5.out.calm hk).facts.1)
          clear x0 x1 x2 x3 x4 x5 x6 x7 hcz
          go_region_held3 (fun W' => W'.cell? ⟨w.heap.size, 0, none⟩ = some (.int .i64 kind)) (first | exact SK.out _ (Keeps.refl _ _) | exact SK.out _ ((Keeps.refl _ w5).drewN _) | exact SK.out _ K7.out | exact SK.out _ K6.out) (first | (go_at_call 24; refine (CR.out _).mono ?_; rintro e w6 ⟨rfl, h1⟩; have K6 := hidden (((Keeps.refl (fun _ => False) w5).drewN _).trans h1 (fun _ _ h => h)); clear h1) | (go_at_call 32; refine (CO.out _ K6.out).mono ?_; rintro e w7 ⟨rfl, h1⟩; have K7 := hidden (K6.out.trans h1 (fun _ _ h => h)); clear h1))
          have V7 := hidden (V5.out.calm K7.out)
          clear SK CR CO K6 K7 V5 S5 H5 hi5 NF5
          obtain ⟨x0, x1, x2, x3, x4, x5, x6, x7, hcz⟩ := V7.out.box.facts
          obtain ⟨Fv, A1, cap1, lp1, tp1, An1, cn1, hblk, -, -, -⟩ := V7.out.held
          rw [HCL.out] at hblk
          have y0 := blk_cell hblk 0
          have y1 := blk_cell hblk 1
          have y4 := blk_cell hblk 4
          have y5 := blk_cell hblk 5
          have hyz := blk_lt hblk
          simp only [List.getElem?_toArray, List.getElem?_cons_zero, List.getElem?_cons_succ] at y0 y1 y4 y5
          clear hblk
          go_wp2_with fail
          go_quiet (fail)
          go_wp2_with fail
          have V8 := hidden (V7.out.calm ((Keeps.refl (fun _ => False) w7).drewN nq))
          clear V7 x0 x1 x2 x3 x4 x5 x6 x7 hcz y0 y1 y4 y5 hyz
          generalize w7.drewN nq = w8 at *
          have CS := hidden (fun (W : World) (hk : Keeps (fun _ => False) w8 W) => show Calls Try.prog 33 #[.pointer (some ⟨p, 0, none⟩)] W fun e w' => ∃ A' c' F', e = .returned (.slice A' (cellNums xs).length c') ∧ Row w' F' 3 1 (.slice A' (cellNums xs).length c') (cellNums xs).length (intCells (cellNums xs)) ∧ In F' w' ∧ Keeps (fun _ => False) W w' ∧ Fresh (fun _ => False) F' W from by
            obtain ⟨⟨F, H, s, h1, h2, h3⟩, -⟩ := V8.out
            rw [HCL.out] at h2
            obtain ⟨Fam, vc, vf, hX⟩ := h1.heap.calm hk
            have hs := cell_Strong W p _ _ (hX.each i p _ h2)
            rw [show Cl.strong { (⟨kind, xs, some [], none, ns, text⟩ : Cl) with vals := xs } = cellNums xs by simp [Cl.strong, cellNums]] at hs
            exact hs)
          have CC := hidden (fun (W : World) (hk : Keeps (fun _ => False) w8 W) => value_Cells W Av cv xs (HV0.out.far (V8.out.box.calm hk).K) (by omega))
          have SK := hidden (fun (W : World) (hk : Keeps (fun _ => False) w8 W) => show W.cell? ⟨w.heap.size, 1, none⟩ = some (.slice Av xs.length cv) from (V8.out.box.calm hk).facts.2.1)
          have HCN := hidden (show (cellNums xs).length ≤ 50 from by have := cellNums_length xs; omega)
          generalize cellNums xs = cs at *
          go_region_held3 (fun W' => W'.cell? ⟨w.heap.size, 1, none⟩ = some (.slice Av xs.length cv)) (first | exact SK.out _ (Keeps.refl _ _) | exact SK.out _ ((Keeps.refl _ w8).drewN _) | exact SK.out _ K10.out | exact SK.out _ K9.out) (first | (go_at_call 33; refine (CS.out _ ((Keeps.refl _ w8).drewN _)).mono ?_; rintro e w9 ⟨A9, c9, F9, rfl, h1, h2, h3, h4⟩; have K9 := hidden (((Keeps.refl (fun _ => False) w8).drewN _).trans h3 (fun _ _ h => h)); have R9 := hidden h1; clear h1 h2 h3 h4) | (go_at_call 34; refine (CC.out _ K9.out).mono ?_; rintro e w10 ⟨A10, c10, F10, rfl, h1, h2, h3, h4⟩; have K10 := hidden (K9.out.trans h3 (fun _ _ h => h)); have R10 := hidden h1; have R9b := hidden (R9.out.keeps h3 (Apart.no _)); clear h1 h2 h3 h4))
          have V10 := hidden (V8.out.calm K10.out)
          have I9 := hidden (Ints.own R9b.out.1)
          have I10 := hidden (Ints.own R10.out.1)
          clear CS CC SK K9 R9 R10 R9b K10 V8
          have hcn := HCN.out
          go_wp2_with fail
          go_loopw [150] (fun j wr => ∃ k : Nat, k ≤ cs.length ∧ j = .int .i64 k ∧ Drew w10 wr) (fun j _ => cs.length - (intOf j).toNat)
          case atStart => exact ⟨0, Nat.zero_le _, rfl, Drew.refl _⟩
          case round =>
            obtain ⟨k, hk3, rfl, hD⟩ := hrel
            have HD := hidden hD
            by_cases hlt2 : k < cs.length
            · obtain ⟨b1, o1, rfl, g1⟩ := (I9.out.keeps (hD.keeps (fun _ => False)) (fun _ _ _ _ h => h)) k cs[k] (List.getElem?_eq_getElem hlt2)
              obtain ⟨b2, o2, rfl, g2⟩ := (I10.out.keeps (hD.keeps (fun _ => False)) (fun _ _ _ _ h => h)) k cs[k] (List.getElem?_eq_getElem hlt2)
              clear hD
              generalize cs[k] = z at g1 g2
              go_wp2_with fail
              go_quiet (fail)
              go_wp2_with fail
              go_roundw
              case rel => exact ⟨k + 1, hlt2, by go_num, HD.out.drewN _⟩
              case measure => simp [intOf]; omega
            · obtain rfl : k = cs.length := by omega
              have V11 := hidden (V10.out.calm (hD.keeps (fun _ => False)))
              clear hD HD V10 I9 I10 HCN hcn
              obtain ⟨x0, x1, x2, x3, x4, x5, x6, x7, hcz⟩ := V11.out.box.facts
              go_wp2_with fail
              have VA := hidden (show V3 w wr hb i p cl (.int .i64 kind) (.slice Av xs.length cv) (.pointer (some ⟨lb, 0, none⟩)) (.pointer none) (.slice An ns.length cn) (.string text) (swapTo xs 0) from by rw [swapTo_zero]; exact V11.out)
              clear V11 x0 x1 x2 x3 x4 x5 x6 x7 hcz
              have CI := hidden (fun (W : World) => value_Int 5 W)
              unfold V.val at CI
              generalize wr = wo at *
              go_loopw [166] (fun j wr => ∃ k : Nat, k ≤ xs.length ∧ j = .int .i64 k ∧ V3 w wr hb i p cl (.int .i64 kind) (.slice Av xs.length cv) (.pointer (some ⟨lb, 0, none⟩)) (.pointer none) (.slice An ns.length cn) (.string text) (swapTo xs k)) (fun j _ => xs.length - (intOf j).toNat)
              case atStart => exact ⟨0, Nat.zero_le _, rfl, VA.out⟩
              case round =>
                clear VA
                obtain ⟨k, hk4, rfl, hV⟩ := hrel
                have HVK := hidden hV
                by_cases hlt3 : k < xs.length
                · have hyl := hidden (swapTo_length (xs := xs) (k := k) (by omega))
                  have hyk := hidden (swapTo_at hlt3)
                  have hys := hidden (swapTo_set hlt3)
                  obtain ⟨rb, ro, rfl, h0, h1, h2⟩ := (HV0.out.far hV.box.K) k xs[k] (List.getElem?_eq_getElem hlt3)
                  have hrz := World.block_lt_of_cell? wr _ h0
                  obtain ⟨Fv, A1, cap1, lp1, tp1, An1, cn1, hblk, hrow, -, -⟩ := hV.held
                  obtain ⟨g, rfl, -, hgz, q0, q1, q2, -, -, -⟩ := hrow.open3 (i := k) (by rw [hyl.out]; exact hlt3)
                  rw [hyk.out] at q0 q1 q2
                  rw [hyl.out] at hblk
                  have y1 := blk_cell hblk 1
                  have hyz := blk_lt hblk
                  simp only [List.getElem?_toArray, List.getElem?_cons_zero, List.getElem?_cons_succ] at y1
                  obtain ⟨x0, x1, x2, x3, x4, x5, x6, x7, hcz⟩ := hV.box.facts
                  clear hblk hrow hV
                  obtain ⟨xk, xn, xt, hxx⟩ : ∃ xk xn xt, xs[k] = (⟨xk, xn, xt⟩ : V) := ⟨_, _, _, rfl⟩
                  rw [hxx] at h0 h1 h2 q0 q1 q2
                  simp only at h0 h1 h2 q0 q1 q2
                  have hxx := hidden hxx
                  go_wp2_with fail
                  go_quiet (fail)
                  go_wp2_with fail
                  have V12 := hidden (HVK.out.calm ((Keeps.refl (fun _ => False) wr).drewN nq))
                  clear h0 h1 h2 hrz q0 q1 q2 hgz y1 hyz x0 x1 x2 x3 x4 x5 x6 x7 hcz HVK
                  generalize wr.drewN nq = w12 at *
                  obtain ⟨Fw, A2, cap2, lp2, tp2, An2, cn2, hblk, hrow, hFw, hput⟩ := V12.out.held
                  obtain ⟨g2, rfl, hFg, hgz, -⟩ := hrow.open3 (i := k) (by rw [hyl.out]; exact hlt3)
                  have hgp : g2 ≠ p := (hFw g2 hFg).2.2
                  have hpg : p ≠ g2 := fun e => hgp e.symm
                  have PUT := hidden (fun (wj wk : World) (hk : Keeps (fun _ => False) w12 wj) (e : wk = put3 wj g2 k five) => hput wj wk g2 k five hk rfl (by rw [hyl.out]; exact hlt3) e)
                  rw [hys.out] at PUT
                  have EL := hidden (fun (W : World) (hk : Keeps (fun _ => False) w12 W) => show g2 < W.heap.size ∧ W.cell? ⟨g2, k * 3, none⟩ = some (.int .i64 xk) ∧ W.cell? ⟨g2, k * 3 + 1, none⟩ = some (.int .i64 xn) ∧ W.cell? ⟨g2, k * 3 + 2, none⟩ = some (.string xt) ∧ W.frozen? ⟨g2, k * 3, none⟩ = false ∧ W.frozen? ⟨g2, k * 3 + 1, none⟩ = false ∧ W.frozen? ⟨g2, k * 3 + 2, none⟩ = false from by
                    have hr := hrow.keeps hk (Apart.no _)
                    obtain ⟨g3, e3, -, a0, a1, a2, a3, a4, a5, a6⟩ := hr.open3 (i := k) (by rw [hyl.out]; exact hlt3)
                    simp only [Option.some.injEq, Addr.mk.injEq, and_true] at e3
                    subst e3
                    rw [hyk.out, hxx.out] at a1 a2 a3
                    exact ⟨a0, a1, a2, a3, a4, a5, a6⟩)
                  rw [hyl.out] at hblk
                  have SK := hidden (fun (W : World) (hk : Keeps (fun _ => False) w12 W) => show W.cell? ⟨p, 1, none⟩ = some (.slice (some ⟨g2, 0, none⟩) xs.length cap2) from hk.cell (blk_cell hblk 1) (fun h => h))
                  clear hblk hrow hFw hput hgz
                  go_region_held3 (fun W' => W'.cell? ⟨p, 1, none⟩ = some (.slice (some ⟨g2, 0, none⟩) xs.length cap2)) (first | exact SK.out _ (Keeps.refl _ _) | exact SK.out _ ((Keeps.refl _ w12).drewN _) | exact SK.out _ K13.out | exact setcell_keep (SK.out _ K13.out) (by simp [hgp, hpg]) | exact setcell_keep (setcell_keep (SK.out _ K13.out) (by simp [hgp, hpg])) (by simp [hgp, hpg]) | exact setcell_keep (setcell_keep (setcell_keep (SK.out _ K13.out) (by simp [hgp, hpg])) (by simp [hgp, hpg])) (by simp [hgp, hpg])) (first | (go_at_call 35; refine (CI.out _).mono ?_; rintro e w13 ⟨rfl, h1⟩; have K13 := hidden (((Keeps.refl (fun _ => False) w12).drewN _).trans h1 (fun _ _ h => h)); obtain ⟨hgz, q0, q1, q2, f0, f1, f2⟩ := EL.out _ K13.out; clear h1))
                  go_wp2_with fail
                  go_roundw
                  case rel => exact ⟨k + 1, hlt3, by go_num, PUT.out _ _ K13.out rfl⟩
                  case measure => simp [intOf]; omega
                · obtain rfl : k = xs.length := by omega
                  have VZ := hidden hV
                  obtain ⟨⟨F, H, s, h1, h2, -⟩, hS⟩ := hV
                  have HD := hidden h1
                  have HI := hidden h2
                  have HKC := hidden (show ({ cl with vals := swapTo xs xs.length } : Cl).kind = kind from by rw [HCL.out])
                  have SK := hidden (fun (W : World) (hk : Keeps (fun _ => False) wr W) => show W.cell? ⟨w.heap.size, 0, none⟩ = some (.int .i64 kind) from (hS.calm hk).facts.1)
                  have CR := hidden (fun (W : World) => heap_Ref i W)
                  have CIa := hidden (fun (W : World) => value_Int i W)
                  have CT := hidden (fun (W : World) => heap_Of_type W hb ⟨2, i, ⟨#[]⟩⟩ 0 (show (2 : Int) ≠ 4 by decide))
                  have TY := hidden (fun (W : World) (hk : Keeps (fun _ => False) wr W) => heap_Type_ref (HD.out.heap.calm hk) HI.out ⟨#[]⟩)
                  rw [HKC.out] at TY
                  have TS := hidden (fun (W : World) => heap_Type_str W hb ⟨#[97]⟩ 0)
                  have NM := hidden (fun (W : World) => heap_Name W kind)
                  generalize kindName kind = kn at *
                  have CST := hidden (fun (W : World) => value_Str ⟨#[97]⟩ W)
                  have FIN := hidden (fun (W : World) (hk : Keeps (fun _ => False) wr W) => hR.out _ W ⟨rfl, (hS.calm hk).K.below (Nat.le_refl _) (fun _ h => h)⟩)
                  unfold V.val at CR CIa CT TY TS CST
                  have SF := hidden hS.facts
                  clear h1 h2 hS hR VZ hlt3 CI
                  rename_i qq_0 qq_1 qq_2 qq_3 qq_4 qq_5 qq_6 qq_7 qq_8 qq_9 qq_10 qq_11 qq_12 qq_13 qq_14 qq_15 qq_16 qq_17 qq_18
                  obtain ⟨ok, hok⟩ : ∃ ok : Int, ok = 0 := ⟨_, rfl⟩
                  clear hok
                  revert w kind other Av An lp0 tp0 cv cn xs ns text hl1 hl2 ht HV0 HN0 NV NN R w1 h50 hn50 h200 qq_0 qq_1 qq_2 qq_3 qq_4 qq_5 u6 u43 u44 u45 u46 u47 u48 u49 hk qq_6 qq_7 qq_8 w2 lb LF LF2 w3 w4 hb F0 hk1 hk11 cl w5 i p F' H' s' HCL qq_9 w6 w7 Fv A1 cap1 lp1 tp1 An1 cn1 nq w8 cs w9 A9 c9 F9 w10 A10 c10 F10 qq_10 qq_11 qq_12 qq_13 u14 u151 u152 u153 u154 u155 u156 u157 u158 u159 u160 u161 u162 hk3 hlt2 qq_14 qq_15 qq_16 qq_17 qq_18 wo wr u4 u15 u167 u168 u169 u170 u171 u172 u173 u174 u175 u176 u177 u178 u179 u180 u181 u182 u183 u184 u185 u186 u187 u188 u189 hk4 HVK F H s HD HI HKC SK CR CIa CT TS kn TY NM CST FIN SF
                  exact leaf ok
        · refine (heap_Alloc_type w4 F0 hb [] ⟨[], 0, 5, 0, 0⟩ ⟨kind, xs, some [], none, ns, text⟩ Av An (some ⟨lb, 0, none⟩) none cv cn (show kind < 1 ∨ 11 ≤ kind by omega)).mono ?_
          rintro e w5 ⟨rfl, hK⟩
          have S5 := hidden (S4.out.calm hK)
          have H5 := hidden (H4.out.calm hK)
          have LV := hidden (fun (W : World) (hk : Keeps (fun _ => False) w5 W) => show Calls Try.prog 30 #[.pointer (some ⟨hb, 0, none⟩)] W fun e w' => e = .returned (.int .i64 0) ∧ W = w' from heap_Live (H5.out.heap.calm hk))
          have NM := hidden (fun (W : World) => heap_Name W kind)
          rw [kindName_none hkd] at NM
          clear hK S4 x0 x1 x2 x3 x4 x5 x6 x7 hcz
          obtain ⟨x0, x1, x2, x3, x4, x5, x6, x7, hcz⟩ := S5.out.facts
          have hk2 : kind < 1 ∨ 11 ≤ kind := by omega
          clear hkd
          rcases hk2 with hk2 | hk2
          all_goals
            go_wp2_with (first | (go_at_call 30; refine (LV.out _ (Keeps.refl _ _)).mono ?_; rintro e _ ⟨rfl, rfl⟩) | (go_at_call 31; refine (NM.out _).mono ?_; rintro e w6 ⟨rfl, h6⟩; have K6 := hidden h6; clear h6))
            exact hR.out _ _ ⟨rfl, (S5.out.calm K6.out).K.below (Nat.le_refl _) (fun _ h => h)⟩
end Go.Proofs.Ytpaefeknbpfpmaa
