/- Layer 4: same: a list has just these values. -/
import Derived.Test.YtpaefeknbpfpmaaHead4
namespace Go.Proofs.Ytpaefeknbpfpmaa
open Go.RowKit

set_option maxHeartbeats 1000000 in
theorem same_true (w : World) (F : Nat → Prop) (b : Nat) (xs : List V) (A : Option Addr) (n c : Nat) (h : IsList w F b xs) (hv : Vals w A xs) (hn : n = xs.length) (hl : xs.length ≤ 1048576) :
    Calls Try.prog 48 #[.pointer (some ⟨b, 0, none⟩), .slice A n c] w fun e w' => e = .returned (.bool true) ∧ Keeps (fun _ => False) w w' := by
  subst hn
  have HL := hidden h
  have HV := hidden hv
  clear h hv
  refine post_gen fun R hR => ?_
  go_enter Try.func48, Try.ntmps48
  go_wp2_with fail
  refine (list_Len w F b xs HL.out).mono ?_
  rintro e _ ⟨rfl, rfl⟩
  go_wp2_with fail
  refine (list_All w F b xs HL.out (by omega)).mono ?_
  rintro e w1 ⟨A5, c5, F5, rfl, hRow, hin, hK, hF⟩
  have HA := hidden (Vals.own hRow.1)
  have HK := hidden hK
  clear hRow hin hK hF
  go_wp2
  go_loopw [26] (fun i wr => ∃ k : Nat, k ≤ xs.length ∧ i = .int .i64 k ∧ Keeps (fun _ => False) w1 wr) (fun i _ => xs.length - (intOf i).toNat)
  case atStart => exact ⟨0, Nat.zero_le _, rfl, Keeps.refl _ _⟩
  case round =>
    obtain ⟨k, hk, rfl, hK⟩ := hrel
    have HKr := hidden (HK.out.trans hK (fun _ _ h => h))
    by_cases hlt : k < xs.length
    · obtain ⟨rb, ro, rfl, h0, h1, h2⟩ := (HV.out.keeps HKr.out (fun _ _ _ _ h => h)) k xs[k] (List.getElem?_eq_getElem hlt)
      obtain ⟨qb, qo, rfl, g0, g1, g2⟩ := (HA.out.keeps hK (fun _ _ _ _ h => h)) k xs[k] (List.getElem?_eq_getElem hlt)
      have HX := hidden (show xs[k]? = some xs[k] from List.getElem?_eq_getElem hlt)
      have key := hidden (fun W (hk : Keeps (fun _ => False) w W) => list_Get_some W F b xs k xs[k] (HL.out.none hk) (List.getElem?_eq_getElem hlt))
      generalize xs[k] = x at *
      go_wp2
      go_quiet (fail)
      go_wp2_with fail
      refine (key.out _ (HKr.out.drewN _)).mono ?_
      rintro e w2 ⟨rfl, hk2⟩
      have hk3 : Keeps (fun _ => False) wr w2 := ((Keeps.refl _ wr).drewN _).trans hk2 (fun _ _ h => h)
      have h0 := hk3.cell h0 (fun h => h)
      have h1 := hk3.cell h1 (fun h => h)
      have h2 := hk3.cell h2 (fun h => h)
      have hr := World.block_lt_of_cell? w2 _ h0
      have HK3 := hidden (hK.trans hk3 (fun _ _ h => h))
      clear hk2 hk3 g0 g1 g2
      unfold V.val
      go_wp2
      go_quiet (fail)
      go_wp2
      go_roundw
      case rel => exact ⟨k + 1, hlt, by go_num, (HK3.out.alloc _).drewN _⟩
      case measure => simp [intOf]; omega
    · obtain rfl : k = xs.length := by omega
      go_wp2_with fail
      refine (list_Get_none wr F b xs xs.length (HL.out.none HKr.out) (by omega)).mono ?_
      rintro e w2 ⟨rfl, hk2⟩
      have HK2 := hidden (HKr.out.trans hk2 (fun _ _ h => h))
      clear hk2
      unfold V.val V.null
      go_wp2_with fail
      refine (list_Get_none _ F b xs (-1) (HL.out.none (HK2.out.alloc _)) (by omega)).mono ?_
      rintro e w3 ⟨rfl, hk3⟩
      have HK3 := hidden ((HK2.out.alloc _).trans hk3 (fun _ _ h => h))
      clear hk3
      unfold V.val V.null
      go_wp2
      exact hR.out _ _ ⟨rfl, HK3.out.alloc _⟩
end Go.Proofs.Ytpaefeknbpfpmaa
