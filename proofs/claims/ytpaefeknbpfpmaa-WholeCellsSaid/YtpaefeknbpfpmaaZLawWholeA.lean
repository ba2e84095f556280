/- dreytop.WholeCells: the walk up to the second loop. -/
import Derived.Test.YtpaefeknbpfpmaaZWhole3B
namespace Go.Proofs.Ytpaefeknbpfpmaa
open Go.RowKit
set_option maxRecDepth 100000
set_option maxHeartbeats 8000000 in
noncomputable def whole_G : PSigma (fun PP : Int → Prop => (∀ ok, PP ok) → ∀ (w : World) (A : Option Addr) (c : Nat) (kp : List Bool) (hk : Bools w A kp),
    Calls Try.prog 8 #[.slice A kp.length c] w fun e w' => e = .returned (.bool true) ∧ Below w.heap.size w w') := by
  refine ⟨?PP, fun leaf w A c kp hk => ?_⟩
  rotate_left
  have HKP := hidden hk
  clear hk
  refine post_gen fun R hR => ?_
  go_enter Try.func8, Try.ntmps8
  go_wp2_with fail
  refine (heap_New w 200).mono ?_
  rintro e w1 ⟨hb, F0, rfl, hH, hK, hF⟩
  have H1 := hidden (show Hd w hb F0 [] ⟨[], 0, 200, 0, 0⟩ w1 from ⟨hH, HOk.new 200, fun k h => (hF k h).elim (fun h => h.elim) id, hK.mono (fun _ _ h => h.elim)⟩)
  clear hH hK hF
  go_wp2_with fail
  refine (t_New w1).mono ?_
  rintro e w2 ⟨tb, Ft, rfl, hT, hK, hF⟩
  have H2 := hidden (H1.out.calm hK)
  have T2 := hidden hT
  have AP2 := hidden (show Apart F0 Ft from fun k h1 h2 => (hF k h2).elim (fun h => h.elim) (fun h => by have := H1.out.heap.inw k h1; omega))
  have GE2 := hidden (show ∀ k, Ft k → w.heap.size ≤ k from fun k h => (hF k h).elim (fun h => h.elim) (fun h => Nat.le_trans H1.out.K.size h))
  clear hT hK hF H1
  have CI := hidden (fun (W : World) (n : Int) => value_Int n W)
  have CN := hidden (fun (W : World) => value_Null W)
  unfold V.val at CI CN
  unfold V.null at CN
  have CP := hidden (fun (W : World) (hk : Keeps (fun _ => False) w2 W) => t_Put_new (T2.out.none hk) (by decide) (key := iV 1) V.null (by decide) (by decide) (fun x h => by simp at h) (by decide))
  unfold V.val V.null iV at CP
  go_wp2_with (first | (go_at_call 35; refine (CI.out _ 1).mono ?_; rintro e w3 ⟨rfl, h1⟩; have K3 := hidden h1; clear h1) | (go_at_call 50; refine (CN.out _).mono ?_; rintro e w4 ⟨rfl, h1⟩; have K4 := hidden (K3.out.trans h1 (fun _ _ h => h)); clear h1) | (go_at_call 49; refine (CP.out _ K4.out).mono ?_; rintro e w5 ⟨Ft5, rfl, h1, h2, h3⟩; have T5 := hidden h1; have KT5 := hidden h2; have FT5 := hidden h3; clear h1 h2 h3))
  have CC := hidden (t_Clear T5.out)
  refine CC.out.mono ?_
  rintro e w6 ⟨rfl, hT, hK⟩
  have FT := hidden (FT5.out.trans (Fresh.refl Ft5 _) (Keeps.refl (fun _ => False) _))
  have hsz4 := K4.out.size
  have GE6 := hidden (show ∀ k, Ft5 k → w.heap.size ≤ k from fun k h => (FT5.out k h).elim (GE2.out k) (fun h => by have := H2.out.K.size; omega))
  have AP6 := hidden (show Apart F0 Ft5 from fun k h1 h2 => (FT5.out k h2).elim (AP2.out k h1) (fun h => by have := H2.out.heap.inw k h1; omega))
  have H6 := hidden (((H2.out.calm K4.out).other KT5.out AP2.out GE2.out).other hK AP6.out GE6.out)
  have T6 := hidden hT
  clear hT hK CC T5 KT5 FT5 FT K3 K4 T2 H2 AP2 GE2 CP hsz4
  by_cases hlen : kp.length ≤ 60
  · have hle : ¬ ((60 : Int) < (kp.length : Int)) := by omega
    have C7 := hidden (heap_NewTable_ok w6 F0 hb [] ⟨[], 0, 200, 0, 0⟩ tb Ft5 [] 1 H6.out.heap H6.out.ok (by decide) T6.out (by decide) AP6.out)
    unfold V.val at C7
    go_wp2_with fail
    refine C7.out.mono ?_
    rintro e w7 ⟨it, pt, F1, H1, s1, rfl, hM⟩
    have H7 := hidden (H6.out.made hM GE6.out)
    have N1 := hidden hM.new
    have S1 := hidden (show s1.live = 1 ∧ s1.limit = 200 ∧ s1.freed = 0 ∧ s1.runs = 0 from ⟨hM.live, hM.limit, hM.freed, hM.runs⟩)
    have IN1 := hidden hM.heap.inw
    clear hM C7 H6 T6 AP6 GE6
    go_wp2_with fail
    have hv := hidden (IsVar.new w7 (rV (it : Nat)))
    have hvge := hidden (Nat.le_trans H7.out.K.size (Nat.le_refl _))
    have WS0 := hidden (show WS w (w7.alloc (.cells #[.int .i64 4, .int .i64 (it : Nat), .string ⟨#[]⟩] 30)) hb it pt tb w7.heap.size [] 1 [] (fun _ => True) none 0 from
      ⟨⟨F1, H1, s1, fun _ => False, H7.out.calm ((Keeps.refl (fun _ => False) w7).alloc _), ⟨N1.out.here, fun j h => by simp at h, List.nodup_nil, by simp, fun q h1 _ => (N1.out.else_ q h1).trans (by unfold atH; simp)⟩, ⟨by rw [S1.out.1]; decide, S1.out.2.1, S1.out.2.2.1, S1.out.2.2.2⟩, Row.nil _ _ _ _, fun _ h => h.elim, fun _ _ h => h, fun h => Nat.lt_irrefl _ (IN1.out _ h), fun h => h, fun _ h => h.elim⟩, T3.nil, by decide, hv.out, hvge.out⟩)
    clear H7 N1 S1 IN1 hv hvge
    generalize w7.heap.size = vv at *
    generalize w7.alloc (.cells #[.int .i64 4, .int .i64 (it : Nat), .string ⟨#[]⟩] 30) = w8 at *
    go_loopw [7, 51] (fun o i wr => ∃ (k : Nat) (L : List Ent) (sr : Int) (ns : List Nat) (A7 : Option Addr) (c7 : Nat), k ≤ kp.length ∧ i = .int .i64 k ∧ ns.length = k ∧ o = .slice A7 ns.length c7 ∧ WS w wr hb it pt tb vv L sr ns (fun _ => True) A7 c7) (fun _ i _ => kp.length - (intOf i).toNat)
    case atStart => exact ⟨0, [], 1, [], none, 0, Nat.zero_le _, rfl, rfl, rfl, WS0.out⟩
    case round =>
      obtain ⟨k, L, sr, ns, A7, c7, hkl, rfl, hns, rfl, hWS⟩ := hrel
      clear WS0
      by_cases hlt : k < kp.length
      · obtain ⟨⟨F, H, s, Fc, hHd, hW3, hS, hRow, hFc, hap, hv1, hv2, hin⟩, hT3, hser, hvar, hvge⟩ := hWS
        have HD := hidden hHd
        have CB := hidden (fun (W : World) (hK : Keeps (fun _ => False) wr W) => heap_NewBox_ok W F hb H s (iV k) (hHd.heap.calm hK) hHd.ok (by rw [hS.1, hS.2.1]; omega))
        unfold V.val iV at CB
        have HW3 := hidden hW3
        have HS := hidden hS
        rw [hns] at hRow
        have HRow := hidden hRow
        have HFc := hidden hFc
        have HAP := hidden hap
        have HV1 := hidden hv1
        have HV2 := hidden hv2
        have HIN := hidden hin
        have HT3 := hidden hT3
        have HSER := hidden hser
        have HVAR := hidden hvar
        have HVGE := hidden hvge
        have HNS := hidden hns
        clear hHd hW3 hS hRow hFc hap hv1 hv2 hin hT3 hser hvar hvge
        go_wp2_with fail
        refine (CI.out _ k).mono ?_
        rintro e w9 ⟨rfl, h1⟩
        have K9 := hidden h1
        clear h1
        go_wp2_with fail
        refine (CB.out _ K9.out).mono ?_
        rintro e w10 ⟨n, pn, F2, H2, s2, rfl, hM⟩
        have MM := hidden hM
        clear hM CB
        have R10 := hidden ((HRow.out.keeps K9.out (Apart.no _)).keeps MM.out.keeps HAP.out.symm)
        have hk60 : k ≤ 60 := by omega
        go_wp2_with (at_builtin; refine app_list rfl Fc _ _ _ _ _ _ 3 32 rfl Try.underlying60 info_val rfl (by decide) _ _ _ rfl ((R10.out.alloc _).alloc _) _ rfl _ _ ((Vals.lit (w10.alloc (.cells #[.int .i64 4, .int .i64 n, .string ⟨#[]⟩] 30)) [rV (n : Nat)] _ (by simp)).src Try.underlying60) (by simp; omega) (by simp; omega) ?_; intro A11 c11 w11 hR11 hK11; have R11 := hidden hR11; have K11 := hidden (hK11.mono (T := Fc) (fun j _ e => R10.out.2 j e)); clear hR11 hK11)
        all_goals
          have hs10 := K9.out.size
          have hs10b := MM.out.keeps.size
          have hs11 := K11.out.size
          have hz : ((w10.alloc (.cells #[.int .i64 4, .int .i64 n, .string ⟨#[]⟩] 30)).alloc (.cells #[.int .i64 4, .int .i64 n, .string ⟨#[]⟩] 30)).heap.size = w10.heap.size + 2 := by simp
          have AP2 : Apart F2 Fc := fun j h1 h2 => (MM.out.fresh j h1).elim (fun h => h.elim (fun h => HAP.out j h h2) (fun h => h)) (fun h => by have := HIN.out j h2; omega)
          have HD11 := hidden ((((HD.out.calm K9.out).made MM.out (fun _ h => h.elim)).calm (((Keeps.refl (fun _ => False) w10).alloc (.cells #[.int .i64 4, .int .i64 n, .string ⟨#[]⟩] 30)).alloc (.cells #[.int .i64 4, .int .i64 n, .string ⟨#[]⟩] 30))).other K11.out AP2 HFc.out)
          have HB11 := hidden (K11.out.heap (blk_alloc (blk_new w10 (.cells #[.int .i64 4, .int .i64 n, .string ⟨#[]⟩] 30)) (.cells #[.int .i64 4, .int .i64 n, .string ⟨#[]⟩] 30)) (fun h => by have := HIN.out _ h; omega))
          have ROW11 := hidden (show Row w11 (fun j => (Fc j ∨ w10.heap.size ≤ j) ∧ j < w11.heap.size) 30 3 (.slice A11 (ns.length + 1) c11) (ns.length + 1) (flat ((ns ++ [n]).map fun n => rV (n : Nat))) from by
            have h := R11.out.mono (G := fun j => (Fc j ∨ w10.heap.size ≤ j) ∧ j < w11.heap.size) (fun j h1 h2 => ⟨h2.imp id (fun h => by rw [hz] at h; omega), h1⟩)
            rw [List.map_append, flat_append, HNS.out]
            exact h)
          have NV2 : ¬ F2 vv := MM.out.off HV1.out (fun h => h) (Nat.lt_of_lt_of_le (blk_lt HVAR.out) hs10)
          have hvz : vv < wr.heap.size := blk_lt HVAR.out
          have VAR11 := hidden ((((HVAR.out.keeps K9.out (fun h => h)).keeps MM.out.keeps HV1.out).keeps (((Keeps.refl (fun _ => False) w10).alloc (.cells #[.int .i64 4, .int .i64 n, .string ⟨#[]⟩] 30)).alloc (.cells #[.int .i64 4, .int .i64 n, .string ⟨#[]⟩] 30)) (fun h => h)).keeps K11.out HV2.out)
          have NEW := hidden (show NewAt H H2 n (pn, boxCl (iV ns.length)) from by rw [HNS.out]; exact MM.out.new)
          have PUT := hidden (fun (W : World) (hk : Keeps (fun _ => False) w11 W) => WS.put HD11.out HW3.out NEW.out ⟨by rw [MM.out.live, HS.out.1]; omega, by rw [MM.out.limit, HS.out.2.1], by rw [MM.out.freed, HS.out.2.2.1], by rw [MM.out.runs, HS.out.2.2.2]⟩ ROW11.out (fun j h => h.1.elim (HFc.out j) (fun h => by have := HD.out.K.size; omega)) (fun j h1 h2 => h2.1.elim (AP2 j h1) (fun h => by have := MM.out.heap.inw j h1; omega)) NV2 (fun h => h.1.elim HV2.out (fun h => by omega)) (fun j h => h.2) HT3.out HSER.out VAR11.out HVGE.out (by rw [HNS.out]; omega) W hk)
          rw [HNS.out] at PUT
          have hgd : (ns ++ [n]).getD k 0 = n := by rw [← HNS.out]; simp [List.getD_eq_getElem?_getD]
          have HGD := hidden hgd
          unfold key3 val3 at PUT
          rw [hgd] at PUT
          have hb0 := blk_cell HB11.out 0
          have hb1 := blk_cell HB11.out 1
          have hb2 := blk_cell HB11.out 2
          have hbz := blk_lt HB11.out
          simp only [List.getElem?_toArray, List.getElem?_cons_zero, List.getElem?_cons_succ] at hb0 hb1 hb2
          first
            | (have h2 : k % 2 = 0 := by
                have h2 : ((k : Int) % 2 == 0) = true := by assumption
                simp only [beq_iff_eq] at h2
                omega
               rw [if_pos h2, if_pos h2] at PUT)
            | (have h2 : ¬ k % 2 = 0 := by
                have h2 : ((k : Int) % 2 == 0) = false := by assumption
                simp only [beq_eq_false_iff_ne, ne_eq] at h2
                omega
               rw [if_neg h2, if_neg h2] at PUT)
          unfold V.val rV iV at PUT
          have NB := hidden (show ¬ F2 w10.heap.size from fun h => Nat.lt_irrefl _ (MM.out.heap.inw _ h))
          have SB := hidden (fun (W : World) (hk : Keeps (fun _ => False) w11 W) => show W.cell? ⟨w10.heap.size, 0, none⟩ = some (.int .i64 4) ∧ W.cell? ⟨w10.heap.size, 1, none⟩ = some (.int .i64 n) ∧ W.cell? ⟨w10.heap.size, 2, none⟩ = some (.string ⟨#[]⟩) from ⟨hk.cell hb0 (fun h => h), hk.cell hb1 (fun h => h), hk.cell hb2 (fun h => h)⟩)
          go_region_held3 (fun W' => W'.cell? ⟨w10.heap.size, 0, none⟩ = some (.int .i64 4) ∧ W'.cell? ⟨w10.heap.size, 1, none⟩ = some (.int .i64 n) ∧ W'.cell? ⟨w10.heap.size, 2, none⟩ = some (.string ⟨#[]⟩)) (first | exact SB.out _ (Keeps.refl _ _) | exact SB.out _ ((Keeps.refl _ w11).drewN _) | exact SB.out _ K12.out | exact SE.out) (first | (go_at_call 35; refine (CI.out _ k).mono ?_; rintro e w12 ⟨rfl, h1⟩; have K12 := hidden (((Keeps.refl (fun _ => False) w11).drewN _).trans h1 (fun _ _ h => h)); clear h1) | (go_at_call 49; refine (PUT.out _ K12.out).mono ?_; rintro e w13 ⟨L', sr', rfl, h1, h2⟩; have W13 := hidden h1; have SE := hidden (show w13.cell? ⟨w10.heap.size, 0, none⟩ = some (.int .i64 4) ∧ w13.cell? ⟨w10.heap.size, 1, none⟩ = some (.int .i64 n) ∧ w13.cell? ⟨w10.heap.size, 2, none⟩ = some (.string ⟨#[]⟩) from ⟨h2.cell (SB.out _ K12.out).1 NB.out, h2.cell (SB.out _ K12.out).2.1 NB.out, h2.cell (SB.out _ K12.out).2.2 NB.out⟩); clear h1 h2))
          go_wp2_with fail
          go_roundw
          case rel => exact ⟨k + 1, L', sr', ns ++ [n], A11, c11, hlt, by go_num, by simp [HNS.out], by simp [HNS.out], W13.out⟩
          case measure => simp [intOf]; omega
      · obtain rfl : k = kp.length := by omega
        have W2 := hidden hWS
        have HNS := hidden hns
        clear hWS hns
        go_wp2_with fail
        rename_i qq_0 qq_1 qq_2 qq_3 qq_4 qq_5 qq_6
        obtain ⟨ok, hok⟩ : ∃ ok : Int, ok = 0 := ⟨_, rfl⟩
        clear hok
        revert w A c kp HKP R hR w1 hb F0 w2 tb Ft CI CN w3 w4 w5 Ft5 w6 hlen hle qq_0 w7 it pt F1 H1 s1 qq_1 vv w8 wr u2 u8 u9 u10 u52 u53 u54 u55 u56 u57 u58 u59 u60 u61 u62 u63 u64 u65 u66 u67 u68 u69 u70 u71 u72 u73 u74 u75 u76 u77 u78 u79 u80 u81 u82 L sr ns A7 c7 hkl hlt W2 HNS qq_2 qq_3 qq_4 qq_5 qq_6
        exact leaf ok
  · have hle : (60 : Int) < (kp.length : Int) := by omega
    go_wp2_with fail
    exact hR.out _ _ ⟨rfl, H6.out.K.below (Nat.le_refl _) (fun _ h => h)⟩
end Go.Proofs.Ytpaefeknbpfpmaa
