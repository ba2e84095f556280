/- The walk of the statement ValueCells. -/
import Derived.Test.YtmjkglmkckofgaaVal3
import Derived.Test.YtmjkglmkckofgaaInts
import Derived.Deep.RegionHeld3
namespace Go.Proofs.Ytmjkglmkckofgaa
open Go.RowKit
set_option maxRecDepth 100000
set_option maxHeartbeats 4000000 in
theorem valueCells_walk (w : World) (A : Option Addr) (c : Nat) (xs : List V) (h : Vals w A xs) (hl : xs.length ≤ 4398046511104) :
    Calls Try.prog 8 #[.slice A xs.length c] w fun e w' => e = .returned (.bool true) ∧ Below w.heap.size w w' := by
  have HV := hidden h
  clear h
  have kt := hidden (fun W => tells_true W)
  have d10 := hidden (fun (n : Int) W => value_Ref n W)
  simp only [V.val] at d10
  have hnn := cellNums_length xs
  refine post_gen fun R hR => ?_
  by_cases hbig : 200 < xs.length
  · go_enter Try.func8, Try.ntmps8
    go_wp2_with fail
    refine (kt.out _).mono ?_
    rintro e w1 ⟨rfl, hK⟩
    have HK1 := hidden hK
    clear hK
    go_wp2_with fail
    exact hR.out _ _ ⟨rfl, HK1.out.toNew (fun _ h => h.elim)⟩
  have kr := hidden (fun (W : World) (hs : Vals W A xs) => right_any W A c xs hs (by omega))
  have kc := hidden (fun (W : World) (hs : Vals W A xs) => value_Cells W A c xs hs (by omega))
  cases hok : xs.all V.ok with
  | false =>
    rw [hok] at kr
    clear hok
    go_enter Try.func8, Try.ntmps8
    go_wp2_with fail
    refine (kt.out _).mono ?_
    rintro e w1 ⟨rfl, hK⟩
    have HK1 := hidden hK
    clear hK
    go_wp2_with fail
    refine (kr.out _ (HV.out.keeps HK1.out (fun _ _ _ _ h => h))).mono ?_
    rintro e w2 ⟨rfl, hK⟩
    have HK2 := hidden (HK1.out.trans hK (fun _ _ h => h))
    clear hK HK1
    go_wp2_with fail
    exact hR.out _ _ ⟨rfl, HK2.out.toNew (fun _ h => h.elim)⟩
  | true =>
    rw [hok] at kr
    have HOK := hidden (List.all_eq_true.1 hok)
    clear hok
    go_enter Try.func8, Try.ntmps8
    go_wp2_with fail
    refine (kt.out _).mono ?_
    rintro e w1 ⟨rfl, hK⟩
    have HK1 := hidden hK
    clear hK
    go_wp2_with fail
    refine (kr.out _ (HV.out.keeps HK1.out (fun _ _ _ _ h => h))).mono ?_
    rintro e w2 ⟨rfl, hK⟩
    have HK2 := hidden (HK1.out.trans hK (fun _ _ h => h))
    clear hK HK1
    go_wp2_with fail
    refine (kc.out _ (HV.out.keeps HK2.out (fun _ _ _ _ h => h))).mono ?_
    rintro e w3 ⟨A', c', F', rfl, hRow, hin, hK, hF⟩
    have HK3 := hidden (HK2.out.trans hK (fun _ _ h => h))
    have HI := hidden (Ints.own hRow.1)
    clear hK HK2 hRow hin hF kt kr kc
    obtain ⟨tot, htot⟩ : ∃ n, n = (cellNums xs).length := ⟨_, rfl⟩
    have HT := hidden htot
    clear hnn
    rw [← htot]
    clear htot
    go_wp2_with fail
    go_loopw [4, 21] (fun kk i wr => ∃ m k : Nat, m ≤ xs.length ∧ i = .int .i64 m ∧ kk = .int .i64 k ∧ Hid (k = (cellNums (xs.take m)).length) ∧ k ≤ m ∧ Keeps (fun _ => False) w3 wr) (fun _ i _ => xs.length - (intOf i).toNat)
    case atStart => exact ⟨0, 0, Nat.zero_le _, rfl, rfl, hidden rfl, Nat.le_refl _, Keeps.refl _ _⟩
    case round =>
      obtain ⟨m, k, hm, rfl, rfl, HE, hkm, hK⟩ := hrel
      have HKr := hidden hK
      by_cases hlt : m < xs.length
      · obtain ⟨rb, ro, hA, h0, h1, h2⟩ := (HV.out.keeps (HK3.out.trans hK (fun _ _ h => h)) (fun _ _ _ _ h => h)) m xs[m] (List.getElem?_eq_getElem hlt)
        subst hA
        have hr := World.block_lt_of_cell? wr _ h0
        have HS := hidden (cellNums_succ hlt)
        have HOKx := hidden (HOK.out _ (List.getElem_mem hlt))
        by_cases h4 : xs[m].k = 4
        · have hat := cellNums_at hlt h4
          rw [← HE.out] at hat
          have hlt2 : k < tot := by rw [HT.out]; exact (List.getElem?_eq_some_iff.1 hat).1
          obtain ⟨g, o, rfl, hc⟩ := (HI.out.keeps hK (fun _ _ _ _ h => h)) k _ hat
          have hg := World.block_lt_of_cell? wr _ hc
          have HS2 := hidden (show (cellNums (xs.take (m + 1))).length = k + 1 by rw [HS.out, if_pos h4, List.length_append, ← HE.out]; rfl)
          have ht := (ok_is HOKx.out).2.2.2.1 (by omega)
          clear HS HOKx hat hK
          generalize xs[m] = x at *
          obtain ⟨xk, xn, xt⟩ := x
          simp only at h0 h1 h2 hc h4 ht
          subst h4
          subst ht
          have dd : decide ((tot : Int) ≤ (k : Int)) = false := by simp; omega
          have dd2 : decide ((k : Int) ≥ (tot : Int)) = false := by simp; omega
          have dd3 : decide ((k : Int) < (tot : Int)) = true := by simp; omega
          have dd4 : decide (tot ≤ k) = false := by simp; omega
          go_wp2_with fail
          have hc0 : (wr.alloc (.cells #[.int .i64 4, .int .i64 xn, .string ⟨#[]⟩] 23)).cell? ⟨wr.heap.size, 0, none⟩ = some (.int .i64 4) := by rw [blk_cell (blk_new wr _)]; rfl
          have hc1 : (wr.alloc (.cells #[.int .i64 4, .int .i64 xn, .string ⟨#[]⟩] 23)).cell? ⟨wr.heap.size, 1, none⟩ = some (.int .i64 xn) := by rw [blk_cell (blk_new wr _)]; rfl
          have hc2 : (wr.alloc (.cells #[.int .i64 4, .int .i64 xn, .string ⟨#[]⟩] 23)).cell? ⟨wr.heap.size, 2, none⟩ = some (.string ⟨#[]⟩) := by rw [blk_cell (blk_new wr _)]; rfl
          have hcg : (wr.alloc (.cells #[.int .i64 4, .int .i64 xn, .string ⟨#[]⟩] 23)).cell? ⟨g, o + k, none⟩ = some (.int .i64 xn) := ((Keeps.refl (fun _ => False) wr).alloc _).cell hc (fun h => h)
          have hK0 : Keeps (fun _ => False) wr (wr.alloc (.cells #[.int .i64 4, .int .i64 xn, .string ⟨#[]⟩] 23)) := (Keeps.refl _ _).alloc _
          have HK4 := hidden (HKr.out.trans hK0 (fun _ _ h => h))
          have hsz : wr.heap.size < (wr.alloc (.cells #[.int .i64 4, .int .i64 xn, .string ⟨#[]⟩] 23)).heap.size := by simp
          clear hK0 h0 h1 h2 hc hr
          generalize (wr.alloc (.cells #[.int .i64 4, .int .i64 xn, .string ⟨#[]⟩] 23)) = W at *
          generalize wr.heap.size = vb at *
          go_region_held3 (fun w' => w'.cell? ⟨g, o + k, none⟩ = some (.int .i64 xn) ∧ w'.cell? ⟨vb, 0, none⟩ = some (.int .i64 4) ∧ w'.cell? ⟨vb, 1, none⟩ = some (.int .i64 xn) ∧ w'.cell? ⟨vb, 2, none⟩ = some (.string ⟨#[]⟩)) (first | exact ⟨hcg, hc0, hc1, hc2⟩ | exact ⟨dcg, d0, d1, d2⟩) (first | (go_at_call 41; refine (d10.out _ _).mono ?_; rintro e w5 ⟨rfl, hK⟩; have HK5 := hidden ((HK4.out.drewN _).trans hK (fun _ _ h => h)); have dcg := hK.cell (p := ⟨g, o + k, none⟩) (v := .int .i64 xn) hcg (fun h => h); have d0 := hK.cell (p := ⟨vb, 0, none⟩) (v := .int .i64 4) hc0 (fun h => h); have d1 := hK.cell (p := ⟨vb, 1, none⟩) (v := .int .i64 xn) hc1 (fun h => h); have d2 := hK.cell (p := ⟨vb, 2, none⟩) (v := .string ⟨#[]⟩) hc2 (fun h => h); clear hK) | fail)
          go_wp2_with fail
          go_roundw
          case rel => exact ⟨m + 1, k + 1, hlt, by go_num, by go_num, hidden HS2.out.symm, by omega, by first | exact HK5.out | exact HK5.out.drewN _⟩
          case measure => simp [intOf]; omega
        · have HS2 := hidden (show (cellNums (xs.take (m + 1))).length = k by rw [HS.out, if_neg h4, HE.out]; simp)
          clear HS HOKx hK
          generalize xs[m] = x at *
          obtain ⟨xk, xn, xt⟩ := x
          simp only at h0 h1 h2 h4
          have i4 : (xk == 4) = false := by simpa using h4
          have j4 : (xk != 4) = true := by simpa using h4
          go_wp2_with fail
          go_roundw
          case rel => exact ⟨m + 1, k, hlt, by go_num, rfl, hidden HS2.out.symm, by omega, HKr.out.alloc _⟩
          case measure => simp [intOf]; omega
      · obtain rfl : m = xs.length := by omega
        have hk : k = tot := by rw [HE.out, HT.out, List.take_length]
        subst hk
        go_wp2_with fail
        exact hR.out _ _ ⟨rfl, (HK3.out.trans HKr.out (fun _ _ h => h)).toNew (fun _ h => h.elim)⟩
end Go.Proofs.Ytmjkglmkckofgaa
