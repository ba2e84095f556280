/- dreytop.WholeCells: the walk from the second loop on. -/
import Derived.Test.YtpaefeknbpfpmaaZLawWholeA
namespace Go.Proofs.Ytpaefeknbpfpmaa
open Go.RowKit
set_option maxRecDepth 100000
set_option maxHeartbeats 4000000 in
theorem whole_rest (ok : Int) : whole_G.1 ok := by
  intro w A c kp HKP R hR w1 hb F0 w2 tb Ft CI CN w3 w4 w5 Ft5 w6 hlen hle qq_0 w7 it pt F1 H1 s1 qq_1 vv w8 wr u2 u8 u9 u10 u52 u53 u54 u55 u56 u57 u58 u59 u60 u61 u62 u63 u64 u65 u66 u67 u68 u69 u70 u71 u72 u73 u74 u75 u76 u77 u78 u79 u80 u81 u82 L sr ns A7 c7 hkl hlt W2 HNS qq_2 qq_3 qq_4 qq_5 qq_6
  clear hkl hlt
  go_loopw [11, 85] (fun g i wq => ∃ (k : Nat) (L2 : List Ent) (sr2 : Int), k ≤ kp.length ∧ i = .int .i64 k ∧ g = .int .i64 ((kp.take k).countP (! ·) : Nat) ∧ WS w wq hb it pt tb vv L2 sr2 ns (fun j => k ≤ j ∨ kp[j]? = some true) A7 c7) (fun _ i _ => kp.length - (intOf i).toNat)
  case atStart => exact ⟨0, L, sr, Nat.zero_le _, rfl, rfl, W2.out.congr (fun j _ => ⟨fun _ => .inl (Nat.zero_le _), fun _ => trivial⟩)⟩
  case round =>
    obtain ⟨k, L2, sr2, hkl2, rfl, rfl, hW⟩ := hrel
    clear W2
    have hgk : (kp.take k).countP (! ·) ≤ k := Nat.le_trans List.countP_le_length (by simp; omega)
    by_cases hlt2 : k < kp.length
    · have hks : (kp.take (k + 1)).countP (! ·) = (kp.take k).countP (! ·) + if kp[k] = true then 0 else 1 := by
        rw [List.take_add_one, List.getElem?_eq_getElem hlt2, List.countP_append]
        cases kp[k] <;> simp
      have hkk : kp[k]? = some kp[k] := List.getElem?_eq_getElem hlt2
      generalize kp[k] = bk at hks hkk
      obtain ⟨⟨F, H, s, Fc, hHd, hW3, hS, hRow, hFc, hap, hv1, hv2, hin⟩, hT3, hser, hvar, hvge⟩ := id hW
      obtain ⟨bb, bo, rfl, hcb⟩ := (HKP.out.far hHd.K) k bk hkk
      obtain ⟨rb, ro, rfl, h0, h1, h2⟩ := Vals.own hRow.1 k (rV (ns.getD k 0 : Nat)) (by
        rw [List.getElem?_map, List.getElem?_eq_getElem (by rw [HNS.out]; exact hlt2), List.getD_eq_getElem?_getD, List.getElem?_eq_getElem (by rw [HNS.out]; exact hlt2)]; rfl)
      have hbz := World.block_lt_of_cell? wr _ hcb
      have hrz := World.block_lt_of_cell? wr _ h0
      unfold rV at h0 h1 h2
      have HWS := hidden hW
      have HB := hidden hkk
      have HKS := hidden hks
      clear hHd hW3 hS hRow hFc hap hv1 hv2 hin hT3 hser hvar hvge hW hkk hks
      cases bk with
      | true =>
        go_wp2_with fail
        go_roundw
        case rel => exact ⟨k + 1, L2, sr2, hlt2, by go_num, by rw [HKS.out, if_pos rfl]; rfl, HWS.out.congr (fun j _ => ⟨fun h => h.elim (fun h => (Nat.lt_or_ge k j).imp id (fun h2 => by rw [show j = k by omega]; exact HB.out)) .inr, fun h => h.imp (fun h => by omega) id⟩)⟩
        case measure => simp [intOf]; omega
      | false =>
        have CD := hidden (fun (W : World) (hk : Keeps (fun _ => False) wr W) => WS.del (HWS.out.calm hk) (j := k) (by rw [HNS.out]; exact hlt2) (.inl (Nat.le_refl _)) (by rw [HNS.out]; omega))
        unfold key3 val3 at CD
        have hPP : ∀ j, ((k ≤ j ∨ kp[j]? = some true) ∧ j ≠ k) ↔ (k + 1 ≤ j ∨ kp[j]? = some true) := fun j => ⟨fun h => h.1.elim (fun h2 => .inl (by have := h.2; omega)) .inr, fun h => ⟨h.imp (fun h => by omega) id, fun e => by
          subst e
          rcases h with h | h
          · omega
          · rw [HB.out] at h; cases h⟩⟩
        have HPP := hidden hPP
        clear hPP
        obtain ⟨nk, hnk⟩ : ∃ n : Nat, n = ns.getD k 0 := ⟨_, rfl⟩
        rw [← hnk] at h1 CD
        have hkn : k < ns.length := by rw [HNS.out]; exact hlt2
        clear hnk
        generalize (kp.take k).countP (! ·) = g at *
        go_wp2_with fail
        refine (CI.out _ k).mono ?_
        rintro e w9 ⟨rfl, h9⟩
        have K9 := hidden h9
        have h0 := h9.cell h0 (fun h => h)
        have h1 := h9.cell h1 (fun h => h)
        have h2 := h9.cell h2 (fun h => h)
        have hrz := World.block_lt_of_cell? w9 _ h0
        clear h9
        by_cases hm : k % 2 = 0
        · rw [if_pos hm, if_pos hm] at CD
          unfold V.val rV iV at CD
          have hm2 : ((k : Int) % 2 == 0) = true := by simp only [beq_iff_eq]; omega
          clear hm
          go_wp2_with (go_at_call 54; refine (CD.out _ (K9.out.alloc _)).mono ?_; rintro e w12 ⟨L3, rfl, h12⟩; have W12 := hidden h12; clear h12)
          go_roundw
          case rel => exact ⟨k + 1, L3, sr2, hlt2, by go_num, by rw [HKS.out, if_neg (by decide)]; go_num, (W12.out.congr (fun j _ => HPP.out j)).calm ((Keeps.refl _ w12).alloc _)⟩
          case measure => simp [intOf]; omega
        · rw [if_neg hm, if_neg hm] at CD
          unfold V.val rV iV at CD
          have hm2 : ((k : Int) % 2 == 0) = false := by simp only [beq_eq_false_iff_ne, ne_eq]; omega
          clear hm
          go_wp2_with (go_at_call 54; refine (CD.out _ (K9.out.alloc _)).mono ?_; rintro e w12 ⟨L3, rfl, h12⟩; have W12 := hidden h12; clear h12)
          go_roundw
          case rel => exact ⟨k + 1, L3, sr2, hlt2, by go_num, by rw [HKS.out, if_neg (by decide)]; go_num, (W12.out.congr (fun j _ => HPP.out j)).calm ((Keeps.refl _ w12).alloc _)⟩
          case measure => simp [intOf]; omega
    · obtain rfl : k = kp.length := by omega
      rw [List.take_length] at hgk ⊢
      have HW := hidden (hW.congr (Q := fun j => kp[j]? = some true) (fun j hj => ⟨fun h => h.elim (fun h => absurd hj (by rw [HNS.out]; omega)) id, .inr⟩))
      obtain ⟨v0, v1, v2, -, -, -⟩ := hW.var.cells
      have hvz := blk_lt hW.var
      unfold rV at v1
      have CC := hidden (fun (W : World) (hk : Keeps (fun _ => False) wr W) (A' : Option Addr) (hi : Ints W A' [(it : Int)]) => HW.out.coll HNS.out.symm hk hi)
      have CL := hidden (fun (W : World) (h : WE w W hb ns kp A7 c7) => h.live)
      generalize kp.countP (! ·) = g at *
      clear hW
      go_wp2_with (first | (go_at_call 55; refine (CC.out _ ((Keeps.refl _ wr).alloc _) _ (ints_lit wr it _ rfl)).mono ?_; rintro e w20 ⟨rfl, h20⟩; have E20 := hidden h20; clear h20) | (go_at_call 30; refine (CL.out _ E20.out).mono ?_; rintro e w21 ⟨rfl, rfl⟩))
      go_loopw [130] (fun i wq => ∃ k : Nat, k ≤ kp.length ∧ i = .int .i64 k ∧ WE w wq hb ns kp A7 c7) (fun i _ => kp.length - (intOf i).toNat)
      case atStart => exact ⟨0, Nat.zero_le _, rfl, E20.out⟩
      case round =>
        clear E20
        obtain ⟨k, hkl3, rfl, hE⟩ := hrel
        by_cases hlt3 : k < kp.length
        · have hkk : kp[k]? = some kp[k] := List.getElem?_eq_getElem hlt3
          generalize kp[k] = bk at hkk
          obtain ⟨⟨F, H, s, Fc, hHd, -, hRow, -, -⟩, -⟩ := id hE
          obtain ⟨bb, bo, rfl, hcb⟩ := (HKP.out.far hHd.K) k bk hkk
          obtain ⟨rb, ro, rfl, h0, h1, h2⟩ := Vals.own hRow.1 k (rV (ns.getD k 0 : Nat)) (by
            rw [List.getElem?_map, List.getElem?_eq_getElem (by rw [HNS.out]; exact hlt3), List.getD_eq_getElem?_getD, List.getElem?_eq_getElem (by rw [HNS.out]; exact hlt3)]; rfl)
          unfold rV at h0 h1 h2
          have HE := hidden hE
          have HB := hidden hkk
          clear hHd hRow hkk hE
          have hkn : k < ns.length := by rw [HNS.out]; exact hlt3
          obtain ⟨nk, hnk⟩ : ∃ n : Nat, n = ns.getD k 0 := ⟨_, rfl⟩
          rw [← hnk] at h1
          cases bk with
          | true =>
            have CO := hidden (HE.out.of_ok (j := k) (by rw [HNS.out]; exact hlt3) HB.out)
            rw [← hnk] at CO
            clear hnk
            unfold V.val at CO
            go_wp2_with (go_at_call 32; refine CO.out.mono ?_; rintro e w22 ⟨pp, rfl, h22⟩; have K22 := hidden h22; clear h22)
            go_roundw
            case rel => exact ⟨k + 1, hlt3, by go_num, HE.out.calm K22.out⟩
            case measure => simp [intOf]; omega
          | false =>
            have CO := hidden (HE.out.of_no (j := k) (by rw [HNS.out]; exact hlt3) HB.out)
            rw [← hnk] at CO
            clear hnk
            unfold V.val at CO
            go_wp2_with (go_at_call 32; refine CO.out.mono ?_; rintro e w22 ⟨rfl, h22⟩; have K22 := hidden h22; clear h22)
            go_roundw
            case rel => exact ⟨k + 1, hlt3, by go_num, HE.out.calm K22.out⟩
            case measure => simp [intOf]; omega
        · obtain ⟨⟨F, H, s, Fc, hHd, -, hRow, -, -⟩, -⟩ := id hE
          have HD := hidden hHd
          clear hHd hRow hE
          go_wp2_with fail
          exact hR.out _ _ ⟨rfl, HD.out.K.below (Nat.le_refl _) (fun _ h => h)⟩
end Go.Proofs.Ytpaefeknbpfpmaa
