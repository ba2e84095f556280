/- The walk of the statement SinkReads. -/
import Derived.Test.YtcikeaabijfmpaaSmall
namespace Go.Proofs.Ytcikeaabijfmpaa
open Go.RowKit

set_option maxHeartbeats 1000000 in
theorem sinkReads_walk (w : World) (A : Option Addr) (c : Nat) (ls : List ByteArray) (more : Int) (hs : Strs w A ls) (hl : ls.length * 16 ≤ 140737488355328) (hm : -9223372036854775808 ≤ more ∧ more ≤ 9223372036854775807) :
    Calls Try.prog 4 #[.slice A ls.length c, .int .i64 more] w fun e w' => e = .returned (.bool true) ∧ Below w.heap.size w w' := by
  have HS := hidden hs
  clear hs
  refine post_gen fun R hR => ?_
  by_cases h1 : 100 < ls.length
  · go_enter Try.func4, Try.ntmps4
    go_wp2_with (go_at_call 12; refine (prints_true _).mono ?_; rintro e w1 ⟨rfl, hB⟩; have HB := hidden hB; clear hB)
    exact hR.out _ _ ⟨rfl, HB.out⟩
  by_cases h2 : more < 0
  · go_enter Try.func4, Try.ntmps4
    go_wp2_with (go_at_call 12; refine (prints_true _).mono ?_; rintro e w1 ⟨rfl, hB⟩; have HB := hidden hB; clear hB)
    exact hR.out _ _ ⟨rfl, HB.out⟩
  by_cases h3 : 5 < more
  · go_enter Try.func4, Try.ntmps4
    go_wp2_with (go_at_call 12; refine (prints_true _).mono ?_; rintro e w1 ⟨rfl, hB⟩; have HB := hidden hB; clear hB)
    exact hR.out _ _ ⟨rfl, HB.out⟩
  obtain ⟨m, rfl⟩ := Int.eq_ofNat_of_zero_le (show 0 ≤ more by omega)
  have h2 : ¬ ((m : Int) < 0) := by omega
  go_enter Try.func4, Try.ntmps4
  go_wp2_with (first | (go_at_call 12; refine (prints_true _).mono ?_; rintro e w1 ⟨rfl, hB⟩; have HB := hidden hB; clear hB) | (go_at_call 20; refine (source_Read _ _ c ls (HS.out.below HB.out) hl).mono ?_; rintro e w2 ⟨rb, RF, rfl, hr, hK, hF⟩; have HR := hidden hr; have HK := hidden hK; have HF := hidden hF; clear hr hK hF))
  go_loopw [29] (fun i wr => ∃ k : Nat, k ≤ ls.length ∧ i = .int .i64 k ∧ IsSource wr RF rb ls k ∧ Keeps RF w2 wr) (fun i _ => ls.length - (intOf i).toNat)
  case atStart => exact ⟨0, Nat.zero_le _, rfl, HR.out, Keeps.refl _ _⟩
  case round =>
    obtain ⟨k, hk, rfl, hS, hK⟩ := hrel
    have HR := hidden hS
    have HK2 := hidden hK
    clear hS hK
    have hge := HF.out.ge (B := w.heap.size) (fun _ h => h.elim) HB.out.size
    have KK := hidden ((below_keeps HB.out).step (fun _ h => h.elim) HK.out)
    have KK2 := hidden (KK.out.step hge HK2.out)
    clear hge
    by_cases hlt : k < ls.length
    · obtain ⟨ab, ao, rfl, hc⟩ := (HS.out.below (KK2.out.below (Nat.le_refl _) (fun _ h => h))) k _ (List.getElem?_eq_getElem hlt)
      go_wp2_with (first | (go_at_call 21; refine (source_Next_some _ RF rb ls k hlt (by omega) HR.out).mono ?_; rintro e w3 ⟨rfl, hr, hK⟩; have HR3 := hidden hr; have HK3 := hidden hK; clear hr hK) | (go_at_call 22; refine (source_Taken _ RF rb ls _ HR3.out).mono ?_; rintro e _ ⟨rfl, rfl⟩))
      go_roundw
      case rel => exact ⟨k + 1, hlt, by go_num, HR3.out, HK2.out.trans HK3.out (fun _ _ h => h)⟩
      case measure => simp [intOf]; omega
    · obtain rfl : k = ls.length := by omega
      go_wp2
      go_loopw [55] (fun i wr => ∃ j : Nat, j ≤ m ∧ i = .int .i64 j ∧ IsSource wr RF rb ls ls.length ∧ Keeps RF w2 wr) (fun i _ => m - (intOf i).toNat)
      case atStart => exact ⟨0, Nat.zero_le _, rfl, HR.out, HK2.out⟩
      case round =>
        obtain ⟨j, hj, rfl, hS, hK⟩ := hrel
        have HR4 := hidden hS
        have HK4 := hidden hK
        clear hS hK
        by_cases hlt : j < m
        · go_wp2_with (first | (go_at_call 21; refine (source_Next_none _ RF rb ls HR4.out).mono ?_; rintro e w3 ⟨rfl, hr, hK⟩; have HR3 := hidden hr; have HK3 := hidden hK; clear hr hK) | (go_at_call 22; refine (source_Taken _ RF rb ls _ HR3.out).mono ?_; rintro e _ ⟨rfl, rfl⟩))
          go_roundw
          case rel => exact ⟨j + 1, hlt, by go_num, HR3.out, HK4.out.trans HK3.out (fun _ _ h => h)⟩
          case measure => simp [intOf]; omega
        · go_wp2
          exact hR.out _ _ ⟨rfl, (KK.out.step (HF.out.ge (B := w.heap.size) (fun _ h => h.elim) HB.out.size) HK4.out).below (Nat.le_refl _) (fun _ h => h)⟩
end Go.Proofs.Ytcikeaabijfmpaa
