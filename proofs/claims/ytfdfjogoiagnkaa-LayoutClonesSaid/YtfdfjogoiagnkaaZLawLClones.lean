/- dreylaw16.LayoutClones: the walk. -/
import Derived.Test.YtfdfjogoiagnkaaZLClB
import Derived.Test.YtfdfjogoiagnkaaGrpE
import Derived.Deep.RegionHeld3
namespace Go.Proofs.Ytfdfjogoiagnkaa
open Go.RowKit
set_option maxRecDepth 100000
set_option maxHeartbeats 8000000 in
theorem layoutClones_walk (w : World) (kind : Int) (A : Option Addr) (c : Nat) (vs : List Int) (hV : Ints w A vs) (hl : vs.length ≤ 140737488351232) :
    Calls Try.prog 5 #[.int .i64 kind, .slice A vs.length c] w fun e w' => e = .returned (.bool true) ∧ Below w.heap.size w w' := by
  have HV := hidden hV
  clear hV
  refine post_gen fun R hR => ?_
  go_enter Try.func5, Try.ntmps5
  go_wp2_with fail
  refine (lays16_true w).mono ?_
  rintro e w1 ⟨rfl, hB1⟩
  by_cases h60 : 60 < vs.length
  · go_wp2_with fail
    exact hR.out _ _ ⟨rfl, hB1⟩
  have HB := hidden (Keeps.of_below hB1)
  clear hB1
  go_wp2_with fail
  refine (heap_New w1 50).mono ?_
  rintro e w2 ⟨hb, F0, rfl, hH, hK, hF⟩
  have H2 := hidden (show Hd w hb F0 [] ⟨[], 0, 50, 0, 0⟩ w2 from ⟨hH, HOk.new 50, fun k h => (hF k h).elim (fun h => h.elim) (fun h => Nat.le_trans HB.out.size h), HB.out.trans hK (fun _ _ h => h.elim)⟩)
  clear hH hK hF HB
  go_wp2_with fail
  refine (t_New w2).mono ?_
  rintro e w3 ⟨tb, Ft, rfl, hT, hK, hF⟩
  have H3 := hidden (H2.out.calm hK)
  have HT3 := hidden hT
  have FT := hidden (show ∀ k, Ft k → w2.heap.size ≤ k from fun k h => (hF k h).elim (fun h => h.elim) id)
  have hz2 := hidden H2.out.K.size
  have hi2 := hidden H2.out.heap.inw
  clear hT hK hF H2
  go_wp2_with fail
  refine (list_New w3 none 0 [] (Vals.nil _ _) (by simp) (fun _ => rfl)).mono ?_
  rintro e w4 ⟨lb, Fl, rfl, hL, hK, hF⟩
  have C0 := hidden (show CL w w4 hb tb lb vs 0 0 0 none 0 from ⟨⟨F0, Ft, Fl, fun _ => False, [], 0, H3.out.calm hK, HT3.out.none hK, Int.le_refl _, rfl, hL, Row.nil _ _ _ _, fun k h1 h2 => by have := hi2.out k h1; have := FT.out k h2; omega, fun k h1 h2 => (hF k h2).elim (fun h => h) (fun h => by have := H3.out.heap.inw k h1; omega), fun k h1 h2 => (hF k h2).elim (fun h => h) (fun h => by have := HT3.out.inw k h1; omega), Apart.no _, Apart.no _, Apart.no _, fun k h => Nat.le_trans hz2.out (FT.out k h), fun k h => (hF k h).elim (fun h => h.elim) (fun h => Nat.le_trans H3.out.K.size h), fun _ h => h.elim⟩, by omega⟩)
  clear hL hK hF H3 HT3 FT hz2 hi2
  have CI := hidden (fun (W : World) (n : Int) => value_Int n W)
  have CN0 := hidden (fun (W : World) => value_Null W)
  unfold V.val at CI CN0
  unfold V.null at CN0
  go_wp2_with fail
  go_loopw [8, 29] (fun u i wr => ∃ (k : Nat) (A8 : Option Addr) (c8 : Nat), k ≤ vs.length ∧ i = .int .i64 k ∧ u = .slice A8 (wantQ vs k).length c8 ∧ CL w wr hb tb lb vs k k k A8 c8) (fun _ i _ => vs.length - (intOf i).toNat)
  case atStart => exact ⟨0, none, 0, Nat.zero_le _, rfl, rfl, C0.out⟩
  case round =>
    clear C0
    obtain ⟨k, A8, c8, hk, rfl, rfl, hC⟩ := hrel
    have HC := hidden hC
    have HQ := hidden (wantQ_len vs k)
    clear hC
    by_cases hlt : k < vs.length
    · obtain ⟨rb, ro, rfl, h0⟩ := (HV.out.far HC.out.K) k vs[k] (List.getElem?_eq_getElem hlt)
      have hrz := World.block_lt_of_cell? wr _ h0
      have CP := hidden (fun (W : World) (hk' : Keeps (fun _ => False) wr W) => (HC.out.calm hk').put hlt)
      have CPU := hidden (fun (W : World) (A' : Option Addr) (h : CL w W hb tb lb vs (k + 1) k k A8 c8) (hv : Vals W A' [iV vs[k]]) => h.push hlt hv)
      have CW := hidden (fun (W : World) (h : CL w W hb tb lb vs (k + 1) (k + 1) k A8 c8) => h.with_ hlt)
      unfold iV V.val at CP
      generalize vs[k] = n at *
      generalize (wantQ vs k).length = lq at *
      go_wp2_with fail
      refine (CI.out _ n).mono ?_
      rintro e w5 ⟨rfl, hK⟩
      have K5 := hidden hK
      clear hK h0 hrz
      go_wp2_with fail
      refine (CI.out _ n).mono ?_
      rintro e w6 ⟨rfl, hK⟩
      have K6 := hidden (K5.out.trans hK (fun _ _ h => h))
      clear hK K5
      go_wp2_with fail
      refine (CP.out _ K6.out).mono ?_
      rintro e w7 ⟨rfl, h7⟩
      have C7 := hidden h7
      clear h7 CP HC K6
      go_wp2_with fail
      refine (CI.out _ n).mono ?_
      rintro e w8 ⟨rfl, hK⟩
      have C8 := hidden (C7.out.calm hK)
      clear hK C7
      go_wp2_with fail
      refine (CPU.out _ _ (C8.out.calm ((Keeps.refl _ w8).alloc _)) (Vals.lit w8 [iV n] _ rfl)).mono ?_
      rintro e w9 ⟨rfl, h9⟩
      have C9 := hidden h9
      clear h9 CPU C8
      go_wp2_with fail
      refine (CI.out _ n).mono ?_
      rintro e w10 ⟨rfl, hK⟩
      have C10 := hidden (C9.out.calm hK)
      clear hK C9
      go_wp2_with fail
      refine (CI.out _ n).mono ?_
      rintro e w11 ⟨rfl, hK⟩
      have C11 := hidden (C10.out.calm hK)
      clear hK C10
      go_wp2_with fail
      refine (CW.out _ C11.out).mono ?_
      rintro e w12 ⟨A', c', rfl, h12⟩
      have C12 := hidden h12
      clear h12 CW C11
      go_wp2_with fail
      go_roundw
      case rel => exact ⟨k + 1, A', c', hlt, by go_num, rfl, C12.out⟩
      case measure => simp [intOf]; omega
    · obtain rfl : k = vs.length := by omega
      clear hlt
      go_wp2_with fail
      refine (CN0.out _).mono ?_
      rintro e w5 ⟨rfl, hK⟩
      have C5 := hidden (HC.out.calm hK)
      clear hK HC
      go_wp2_with fail
      by_cases hkd : 1 ≤ kind ∧ kind < 11
      · refine ((C5.out.calm ((Keeps.refl _ w5).alloc _)).alloc hkd (Vals.lit w5 [V.null] _ rfl)).mono ?_
        rintro e w6 ⟨i, p, rfl, h6⟩
        have M6 := hidden h6
        clear h6 C5
        have CRF := hidden (fun (W : World) (n : Int) => heap_Ref n W)
        have CST := hidden (fun (W : World) => value_Str ⟨#[110, 101, 119]⟩ W)
        unfold V.val at CRF CST
        go_wp2_with fail
        refine (CRF.out _ i).mono ?_
        rintro e w7 ⟨rfl, hK⟩
        have M7 := hidden (M6.out.calm hK)
        clear hK M6
        go_wp2_with fail
        by_cases k1 : kind = 1
        · subst k1
          have CCL := hidden M7.out.clone1
          unfold V.val at CCL
          refine CCL.out.mono ?_
          rintro e w8 ⟨i2, p2, lb2, rfl, h8⟩
          have N8 := hidden h8
          clear h8 M7 CCL
          go_wp2_with fail
          have V9 := hidden (IsVar.new w8 ⟨4, i2, ⟨#[]⟩⟩)
          have N9 := hidden (N8.out.calm ((Keeps.refl _ w8).alloc (.cells #[.int .i64 4, .int .i64 i2, .string ⟨#[]⟩] 26)))
          have hin : ((i2 : Int) == (i : Int)) = false := by have := N8.out.ne; rw [beq_eq_false_iff_ne]; omega
          have hin2 : ¬ ((i2 : Int) = (i : Int)) := by have := N8.out.ne; omega
          have hin3 : ¬ (i2 = i) := N8.out.ne
          simp only at V9
          clear N8
          have CO := hidden (fun (W : World) (hk : Keeps (fun _ => False) (w8.alloc (.cells #[.int .i64 4, .int .i64 i2, .string ⟨#[]⟩] 26)) W) => (N9.out.calm hk).of)
          unfold V.val at CO
          refine (CO.out _ (Keeps.refl _ _)).mono ?_
          rintro e w10 ⟨rfl, hK⟩
          have N10 := hidden (N9.out.calm hK)
          have V10 := hidden (V9.out.keeps hK (fun h => h))
          clear hK CO V9 N9
          generalize w8.heap.size = vb at *
          have SK := hidden (fun (W : World) (hk : Keeps (fun _ => False) w10 W) => show W.cell? ⟨vb, 0, none⟩ = some (.int .i64 4) ∧ W.cell? ⟨vb, 1, none⟩ = some (.int .i64 i2) ∧ W.cell? ⟨vb, 2, none⟩ = some (.string ⟨#[]⟩) from (have h := (V10.out.keeps hk (fun h => h)).cells; ⟨h.1, h.2.1, h.2.2.1⟩))
          go_wp2_with fail
          go_region_held3 (fun W => W.cell? ⟨vb, 0, none⟩ = some (.int .i64 4) ∧ W.cell? ⟨vb, 1, none⟩ = some (.int .i64 i2) ∧ W.cell? ⟨vb, 2, none⟩ = some (.string ⟨#[]⟩)) (((refine SK.out _ ?_); (repeat (first | exact K11.out | exact Keeps.refl _ _ | refine Keeps.drewN ?_ _ | refine Keeps.drew ?_)))) (first | (go_at_call 18; refine (CRF.out _ i).mono ?_; rintro e w11 ⟨rfl, h1⟩; have K11 := hidden (((Keeps.refl (fun _ => False) w10).drewN _).trans h1 (fun _ _ h => h)); clear h1))
          have N11 := hidden (N10.out.calm K11.out)
          clear SK K11 N10 V10 hin hin2 hin3
          obtain ⟨y2, hpz⟩ := N11.out.cell2
          go_wp2_with fail
          have SK := hidden (fun (W : World) (hk : Keeps (fun _ => False) w11 W) => show W.cell? ⟨p2, 2, none⟩ = some (.pointer (some ⟨lb2, 0, none⟩)) from hk.cell y2 (fun h => h))
          have CPS := hidden (fun (W : World) (hk : Keeps (fun _ => False) w11 W) (A' : Option Addr) (hv : Vals W A' [V.null]) => (N11.out.calm hk).push (by simp; omega) hv)
          clear y2
          go_region_held3 (fun W => W.cell? ⟨p2, 2, none⟩ = some (.pointer (some ⟨lb2, 0, none⟩))) (first | exact N13.out.cell2.1 | ((refine SK.out _ ?_); (repeat (first | exact K12.out | exact Keeps.refl _ _ | refine Keeps.alloc ?_ _ | refine Keeps.drewN ?_ _ | refine Keeps.drew ?_)))) (first | (go_at_call 12; refine (CN0.out _).mono ?_; rintro e w12 ⟨rfl, h1⟩; have K12 := hidden (((Keeps.refl (fun _ => False) w11).drewN _).trans h1 (fun _ _ h => h)); clear h1) | (go_at_call 31; refine (CPS.out _ (K12.out.alloc _) _ (Vals.lit w12 [V.null] _ rfl)).mono ?_; rintro e w13 ⟨rfl, h1⟩; have N13 := hidden h1; clear h1))
          clear CPS SK N11
          obtain ⟨y2, hpz⟩ := N13.out.cell2
          have CL2 := hidden (fun (W : World) (h : CN w W hb i i2 p2 ⟨1, [V.null], some (lb2, vs.map iV ++ [V.null]), none, [], ⟨#[]⟩⟩ tb lb vs A8 c8) => show Calls Try.prog 33 #[.pointer (some ⟨lb2, 0, none⟩)] W fun e w' => e = .returned (.int .i64 (vs.length + 1)) ∧ W = w' from by
            have := h.len2
            rw [show (vs.map iV ++ [V.null]).length = vs.length + 1 by simp] at this
            exact this)
          have CL1 := hidden (fun (W : World) (h : CN w W hb i i2 p2 ⟨1, [V.null], some (lb2, vs.map iV ++ [V.null]), none, [], ⟨#[]⟩⟩ tb lb vs A8 c8) => h.len)
          go_wp2_with fail
          refine (CL2.out _ N13.out).mono ?_
          rintro e _ ⟨rfl, rfl⟩
          go_wp2_with fail
          refine (CL1.out _ N13.out).mono ?_
          rintro e _ ⟨rfl, rfl⟩
          go_wp2_with fail
          exact hR.out _ _ ⟨rfl, N13.out.K.below (Nat.le_refl _) (fun _ h => h)⟩
        by_cases k2 : kind = 2
        · subst k2
          have CCL := hidden (M7.out.clone2 (by decide))
          unfold V.val at CCL
          refine CCL.out.mono ?_
          rintro e w8 ⟨i2, p2, tb2, M, sm, rfl, hMk, hsm, h8⟩
          have N8 := hidden h8
          have HMK := hidden hMk
          clear h8 M7 hMk CCL
          go_wp2_with fail
          have V9 := hidden (IsVar.new w8 ⟨4, i2, ⟨#[]⟩⟩)
          have N9 := hidden (N8.out.calm ((Keeps.refl _ w8).alloc (.cells #[.int .i64 4, .int .i64 i2, .string ⟨#[]⟩] 26)))
          have hin : ((i2 : Int) == (i : Int)) = false := by have := N8.out.ne; rw [beq_eq_false_iff_ne]; omega
          have hin2 : ¬ ((i2 : Int) = (i : Int)) := by have := N8.out.ne; omega
          have hin3 : ¬ (i2 = i) := N8.out.ne
          simp only at V9
          clear N8
          have CO := hidden (fun (W : World) (hk : Keeps (fun _ => False) (w8.alloc (.cells #[.int .i64 4, .int .i64 i2, .string ⟨#[]⟩] 26)) W) => (N9.out.calm hk).of)
          unfold V.val at CO
          refine (CO.out _ (Keeps.refl _ _)).mono ?_
          rintro e w10 ⟨rfl, hK⟩
          have N10 := hidden (N9.out.calm hK)
          have V10 := hidden (V9.out.keeps hK (fun h => h))
          clear hK CO V9 N9
          generalize w8.heap.size = vb at *
          have SK := hidden (fun (W : World) (hk : Keeps (fun _ => False) w10 W) => show W.cell? ⟨vb, 0, none⟩ = some (.int .i64 4) ∧ W.cell? ⟨vb, 1, none⟩ = some (.int .i64 i2) ∧ W.cell? ⟨vb, 2, none⟩ = some (.string ⟨#[]⟩) from (have h := (V10.out.keeps hk (fun h => h)).cells; ⟨h.1, h.2.1, h.2.2.1⟩))
          go_wp2_with fail
          go_region_held3 (fun W => W.cell? ⟨vb, 0, none⟩ = some (.int .i64 4) ∧ W.cell? ⟨vb, 1, none⟩ = some (.int .i64 i2) ∧ W.cell? ⟨vb, 2, none⟩ = some (.string ⟨#[]⟩)) (((refine SK.out _ ?_); (repeat (first | exact K11.out | exact Keeps.refl _ _ | refine Keeps.drewN ?_ _ | refine Keeps.drew ?_)))) (first | (go_at_call 18; refine (CRF.out _ i).mono ?_; rintro e w11 ⟨rfl, h1⟩; have K11 := hidden (((Keeps.refl (fun _ => False) w10).drewN _).trans h1 (fun _ _ h => h)); clear h1))
          have N11 := hidden (N10.out.calm K11.out)
          clear SK K11 N10 V10 hin hin2 hin3
          obtain ⟨y3, hpz⟩ := N11.out.cell3
          have CSM := hidden (fun (W : World) (h : CN w W hb i i2 p2 ⟨2, [V.null], none, some (tb2, M, sm), [], ⟨#[]⟩⟩ tb lb vs A8 c8) => h.same2 HMK.out hsm)
          go_wp2_with fail
          refine (CSM.out _ N11.out).mono ?_
          rintro e w12 ⟨rfl, hK⟩
          have N12 := hidden (N11.out.calm hK)
          clear hK N11 CSM y3 hpz
          obtain ⟨y3, hpz⟩ := N12.out.cell3
          have SK := hidden (fun (W : World) (hk : Keeps (fun _ => False) w12 W) => show W.cell? ⟨p2, 3, none⟩ = some (.pointer (some ⟨tb2, 0, none⟩)) from hk.cell y3 (fun h => h))
          have CPT := hidden (fun (W : World) (hk : Keeps (fun _ => False) w12 W) => (N12.out.calm hk).put HMK.out hsm ⟨3, 0, ⟨#[110, 101, 119]⟩⟩ V.null (by decide) (by decide))
          unfold V.val V.null at CPT
          clear y3
          go_wp2_with fail
          go_region_held3 (fun W => W.cell? ⟨p2, 3, none⟩ = some (.pointer (some ⟨tb2, 0, none⟩))) (first | exact Y15.out | ((refine SK.out _ ?_); (repeat (first | exact K14.out | exact K13.out | exact Keeps.refl _ _ | refine Keeps.drewN ?_ _ | refine Keeps.drew ?_)))) (first | (go_at_call 34; refine (CST.out _).mono ?_; rintro e w13 ⟨rfl, h1⟩; have K13 := hidden (((Keeps.refl (fun _ => False) w12).drewN _).trans h1 (fun _ _ h => h)); clear h1) | (go_at_call 12; refine (CN0.out _).mono ?_; rintro e w14 ⟨rfl, h1⟩; have K14 := hidden (K13.out.trans h1 (fun _ _ h => h)); clear h1) | (go_at_call 30; refine (CPT.out _ K14.out).mono ?_; rintro e w15 ⟨rfl, h1, h2, c2, h3⟩; have Y15 := hidden h2; have N15 := hidden h3; clear h1 h2 h3))
          clear CPT SK N12
          have CS1 := hidden N15.out.same
          go_wp2_with fail
          refine CS1.out.mono ?_
          rintro e w16 ⟨rfl, hK⟩
          have N16 := hidden (N15.out.calm hK)
          clear hK
          go_wp2_with fail
          exact hR.out _ _ ⟨rfl, N16.out.K.below (Nat.le_refl _) (fun _ h => h)⟩
        by_cases k4 : kind = 4
        · subst k4
          have CCL := hidden (M7.out.clone2 (by decide))
          unfold V.val at CCL
          refine CCL.out.mono ?_
          rintro e w8 ⟨i2, p2, tb2, M, sm, rfl, hMk, hsm, h8⟩
          have N8 := hidden h8
          have HMK := hidden hMk
          clear h8 M7 hMk CCL
          go_wp2_with fail
          have V9 := hidden (IsVar.new w8 ⟨4, i2, ⟨#[]⟩⟩)
          have N9 := hidden (N8.out.calm ((Keeps.refl _ w8).alloc (.cells #[.int .i64 4, .int .i64 i2, .string ⟨#[]⟩] 26)))
          have hin : ((i2 : Int) == (i : Int)) = false := by have := N8.out.ne; rw [beq_eq_false_iff_ne]; omega
          have hin2 : ¬ ((i2 : Int) = (i : Int)) := by have := N8.out.ne; omega
          have hin3 : ¬ (i2 = i) := N8.out.ne
          simp only at V9
          clear N8
          have CO := hidden (fun (W : World) (hk : Keeps (fun _ => False) (w8.alloc (.cells #[.int .i64 4, .int .i64 i2, .string ⟨#[]⟩] 26)) W) => (N9.out.calm hk).of)
          unfold V.val at CO
          refine (CO.out _ (Keeps.refl _ _)).mono ?_
          rintro e w10 ⟨rfl, hK⟩
          have N10 := hidden (N9.out.calm hK)
          have V10 := hidden (V9.out.keeps hK (fun h => h))
          clear hK CO V9 N9
          generalize w8.heap.size = vb at *
          have SK := hidden (fun (W : World) (hk : Keeps (fun _ => False) w10 W) => show W.cell? ⟨vb, 0, none⟩ = some (.int .i64 4) ∧ W.cell? ⟨vb, 1, none⟩ = some (.int .i64 i2) ∧ W.cell? ⟨vb, 2, none⟩ = some (.string ⟨#[]⟩) from (have h := (V10.out.keeps hk (fun h => h)).cells; ⟨h.1, h.2.1, h.2.2.1⟩))
          go_wp2_with fail
          go_region_held3 (fun W => W.cell? ⟨vb, 0, none⟩ = some (.int .i64 4) ∧ W.cell? ⟨vb, 1, none⟩ = some (.int .i64 i2) ∧ W.cell? ⟨vb, 2, none⟩ = some (.string ⟨#[]⟩)) (((refine SK.out _ ?_); (repeat (first | exact K11.out | exact Keeps.refl _ _ | refine Keeps.drewN ?_ _ | refine Keeps.drew ?_)))) (first | (go_at_call 18; refine (CRF.out _ i).mono ?_; rintro e w11 ⟨rfl, h1⟩; have K11 := hidden (((Keeps.refl (fun _ => False) w10).drewN _).trans h1 (fun _ _ h => h)); clear h1))
          have N11 := hidden (N10.out.calm K11.out)
          clear SK K11 N10 V10 hin hin2 hin3
          obtain ⟨y3, hpz⟩ := N11.out.cell3
          have CSM := hidden (fun (W : World) (h : CN w W hb i i2 p2 ⟨4, [V.null], none, some (tb2, M, sm), [], ⟨#[]⟩⟩ tb lb vs A8 c8) => h.same2 HMK.out hsm)
          go_wp2_with fail
          refine (CSM.out _ N11.out).mono ?_
          rintro e w12 ⟨rfl, hK⟩
          have N12 := hidden (N11.out.calm hK)
          clear hK N11 CSM y3 hpz
          obtain ⟨y3, hpz⟩ := N12.out.cell3
          have SK := hidden (fun (W : World) (hk : Keeps (fun _ => False) w12 W) => show W.cell? ⟨p2, 3, none⟩ = some (.pointer (some ⟨tb2, 0, none⟩)) from hk.cell y3 (fun h => h))
          have CPT := hidden (fun (W : World) (hk : Keeps (fun _ => False) w12 W) => (N12.out.calm hk).put HMK.out hsm ⟨3, 0, ⟨#[110, 101, 119]⟩⟩ V.null (by decide) (by decide))
          unfold V.val V.null at CPT
          clear y3
          go_wp2_with fail
          go_region_held3 (fun W => W.cell? ⟨p2, 3, none⟩ = some (.pointer (some ⟨tb2, 0, none⟩))) (first | exact Y15.out | ((refine SK.out _ ?_); (repeat (first | exact K14.out | exact K13.out | exact Keeps.refl _ _ | refine Keeps.drewN ?_ _ | refine Keeps.drew ?_)))) (first | (go_at_call 34; refine (CST.out _).mono ?_; rintro e w13 ⟨rfl, h1⟩; have K13 := hidden (((Keeps.refl (fun _ => False) w12).drewN _).trans h1 (fun _ _ h => h)); clear h1) | (go_at_call 12; refine (CN0.out _).mono ?_; rintro e w14 ⟨rfl, h1⟩; have K14 := hidden (K13.out.trans h1 (fun _ _ h => h)); clear h1) | (go_at_call 30; refine (CPT.out _ K14.out).mono ?_; rintro e w15 ⟨rfl, h1, h2, c2, h3⟩; have Y15 := hidden h2; have N15 := hidden h3; clear h1 h2 h3))
          clear CPT SK N12
          have CS1 := hidden N15.out.same
          go_wp2_with fail
          refine CS1.out.mono ?_
          rintro e w16 ⟨rfl, hK⟩
          have N16 := hidden (N15.out.calm hK)
          clear hK
          go_wp2_with fail
          exact hR.out _ _ ⟨rfl, N16.out.K.below (Nat.le_refl _) (fun _ h => h)⟩
        have CCL := hidden (M7.out.clone0 ⟨k1, k2, k4⟩)
        unfold V.val at CCL
        unfold V.null at CCL
        refine CCL.out.mono ?_
        rintro e w8 ⟨rfl, hK⟩
        have M8 := hidden (M7.out.calm hK)
        have n1 : (kind != 1) = true := by simpa using k1
        have n2 : (kind != 2) = true := by simpa using k2
        have n4 : (kind != 4) = true := by simpa using k4
        clear hK M7 k1 k2 k4 CCL
        go_wp2_with fail
        have V9 := hidden (IsVar.new w8 V.null)
        have M9 := hidden (M8.out.calm ((Keeps.refl _ w8).alloc (.cells #[.int .i64 0, .int .i64 0, .string ⟨#[]⟩] 26)))
        simp only [V.null] at V9
        clear M8
        generalize w8.heap.size = vb at *
        generalize w8.alloc (.cells #[.int .i64 0, .int .i64 0, .string ⟨#[]⟩] 26) = w9 at *
        have SK := hidden (fun (W : World) (hk : Keeps (fun _ => False) w9 W) => show W.cell? ⟨vb, 0, none⟩ = some (.int .i64 0) ∧ W.cell? ⟨vb, 1, none⟩ = some (.int .i64 0) ∧ W.cell? ⟨vb, 2, none⟩ = some (.string ⟨#[]⟩) from (have h := (V9.out.keeps hk (fun h => h)).cells; ⟨h.1, h.2.1, h.2.2.1⟩))
        go_region_held3 (fun W => W.cell? ⟨vb, 0, none⟩ = some (.int .i64 0) ∧ W.cell? ⟨vb, 1, none⟩ = some (.int .i64 0) ∧ W.cell? ⟨vb, 2, none⟩ = some (.string ⟨#[]⟩)) (((refine SK.out _ ?_); (repeat (first | exact K10.out | exact Keeps.refl _ _ | refine Keeps.drewN ?_ _ | refine Keeps.drew ?_)))) (first | (go_at_call 12; refine (CN0.out _).mono ?_; rintro e w10 ⟨rfl, h1⟩; have K10 := hidden (((Keeps.refl (fun _ => False) w9).drewN _).trans h1 (fun _ _ h => h)); clear h1))
        go_wp2_with fail
        exact hR.out _ _ ⟨rfl, (M9.out.calm K10.out).K.below (Nat.le_refl _) (fun _ h => h)⟩
      · refine ((C5.out.calm ((Keeps.refl _ w5).alloc _)).type hkd).mono ?_
        rintro e w6 ⟨rfl, hK⟩
        have C6 := hidden ((C5.out.calm ((Keeps.refl _ w5).alloc (.cells #[.int .i64 0, .int .i64 0, .string ⟨#[]⟩] 26))).calm hK)
        clear hK C5
        have CV := hidden (fun (W : World) => lay_Clone_val W hb ⟨2, 7, ⟨#[]⟩⟩ (by decide))
        unfold V.val at CV
        go_wp2_with fail
        refine (CI.out _ 7).mono ?_
        rintro e w7 ⟨rfl, hK⟩
        have C7 := hidden (C6.out.calm hK)
        clear hK C6
        go_wp2_with fail
        refine (CV.out _).mono ?_
        rintro e w8 ⟨rfl, hK⟩
        have C8 := hidden (C7.out.calm hK)
        clear hK C7
        go_wp2_with fail
        have V9 := hidden (IsVar.new w8 ⟨2, 7, ⟨#[]⟩⟩)
        have C9 := hidden (C8.out.calm ((Keeps.refl _ w8).alloc (.cells #[.int .i64 2, .int .i64 7, .string ⟨#[]⟩] 26)))
        simp only at V9
        clear C8
        generalize w8.heap.size = vb at *
        generalize w8.alloc (.cells #[.int .i64 2, .int .i64 7, .string ⟨#[]⟩] 26) = w9 at *
        have SK := hidden (fun (W : World) (hk : Keeps (fun _ => False) w9 W) => show W.cell? ⟨vb, 0, none⟩ = some (.int .i64 2) ∧ W.cell? ⟨vb, 1, none⟩ = some (.int .i64 7) ∧ W.cell? ⟨vb, 2, none⟩ = some (.string ⟨#[]⟩) from (have h := (V9.out.keeps hk (fun h => h)).cells; ⟨h.1, h.2.1, h.2.2.1⟩))
        go_region_held3 (fun W => W.cell? ⟨vb, 0, none⟩ = some (.int .i64 2) ∧ W.cell? ⟨vb, 1, none⟩ = some (.int .i64 7) ∧ W.cell? ⟨vb, 2, none⟩ = some (.string ⟨#[]⟩)) (((refine SK.out _ ?_); (repeat (first | exact K10.out | exact Keeps.refl _ _ | refine Keeps.drewN ?_ _ | refine Keeps.drew ?_)))) (first | (go_at_call 17; refine (CI.out _ 7).mono ?_; rintro e w10 ⟨rfl, h1⟩; have K10 := hidden (((Keeps.refl (fun _ => False) w9).drewN _).trans h1 (fun _ _ h => h)); clear h1))
        go_wp2_with fail
        exact hR.out _ _ ⟨rfl, (C9.out.calm K10.out).K.below (Nat.le_refl _) (fun _ h => h)⟩
end Go.Proofs.Ytfdfjogoiagnkaa
