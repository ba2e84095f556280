/- The walk of the statement ListFinds. -/
import Derived.Test.YtcikeaabijfmpaaListF
import Derived.Test.YtcikeaabijfmpaaLawSlices
namespace Go.Proofs.Ytcikeaabijfmpaa
open Go.RowKit

theorem firstAt_succ {xs : List V} {y : V} {k : Nat} (hk : k < xs.length) : firstAt (xs.take (k + 1)) y = if xs[k] = y ∧ firstAt (xs.take k) y < 0 then (k : Int) else firstAt (xs.take k) y := by
  have ht : (xs.take k).length = k := by simp; omega
  by_cases hm : y ∈ xs.take k
  · have h0 : firstAt (xs.take k) y = ((xs.take k).idxOf y : Int) := if_pos hm
    rw [if_neg (by rw [h0]; omega), h0, List.take_add_one]
    rw [firstAt, if_pos (List.mem_append_left _ hm), List.idxOf_append, if_pos hm]
  · have h0 : firstAt (xs.take k) y = -1 := if_neg hm
    rw [h0]
    by_cases he : xs[k] = y
    · rw [if_pos ⟨he, by omega⟩]
      refine firstAt_at (by simp; omega) (by simp [he]) (fun j hj => ?_)
      rw [List.getElem?_take, if_pos (by omega)]
      intro hx
      exact hm (List.mem_iff_getElem?.2 ⟨j, by rw [List.getElem?_take, if_pos hj]; exact hx⟩)
    · rw [if_neg (fun h => he h.1)]
      refine if_neg (fun h => ?_)
      rw [List.take_add_one, List.getElem?_eq_getElem hk, List.mem_append] at h
      rcases h with h | h
      · exact hm h
      · exact he (by simpa using h : y = xs[k]).symm
theorem cellNums_len_succ {xs : List V} {k : Nat} (hk : k < xs.length) : (cellNums (xs.take (k + 1))).length = (cellNums (xs.take k)).length + (if xs[k].k = 4 then 1 else 0) := by
  rw [cellNums_succ hk, List.length_append]
  split <;> simp

set_option maxRecDepth 100000 in
set_option maxHeartbeats 4000000 in
theorem listFinds_walk (w : World) (A : Option Addr) (c : Nat) (xs : List V) (y : V) (hv : Vals w A xs) (hl : xs.length ≤ 4398046511104) :
    Calls Try.prog 9 #[.slice A xs.length c, y.val] w fun e w' => e = .returned (.bool true) ∧ Below w.heap.size w w' := by
  have HV0 := hidden hv
  clear hv
  unfold V.val
  refine post_gen fun R hR => ?_
  go_enter Try.func9, Try.ntmps9
  go_wp2_with fail
  refine (keeps4_true _).mono ?_
  rintro e w1 ⟨rfl, hB1⟩
  have HB := hidden (((Keeps.refl (fun k => w.heap.size ≤ k) w).alloc (.cells #[.int .i64 y.k, .int .i64 y.n, .string y.t] 50)).trans (Keeps.of_below hB1) (fun i h1 h2 => by simp at h2; omega))
  have HY := hidden ((IsVar.new w y).keeps (Keeps.of_below hB1) (by simp))
  have hlt1 : w.heap.size < w1.heap.size := by have := hB1.size; simp at this; omega
  clear hB1
  have hB : w.heap.size ≤ w1.heap.size := by omega
  have HV := hidden (HV0.out.far HB.out)
  by_cases hlen : 200 < xs.length
  · go_wp2
    exact hR.out _ _ ⟨rfl, HB.out.below (Nat.le_refl _) (fun _ h => h)⟩
  have hright := hidden (right_any w1 A c xs HV.out hl)
  cases hall : xs.all (fun x => x.chk == 0) with
  | false =>
    rw [hall] at hright
    go_wp2_with fail
    refine hright.out.mono ?_
    rintro e w2 ⟨rfl, hK⟩
    obtain ⟨HK, hB⟩ := Keeps.stepNone HB hB hK
    clear hK
    go_wp2
    exact hR.out _ _ ⟨rfl, HK.out.below (Nat.le_refl _) (fun _ h => h)⟩
  | true =>
    rw [hall] at hright
    clear hall
    go_wp2_with fail
    refine hright.out.mono ?_
    rintro e w2 ⟨rfl, hK⟩
    obtain ⟨HK, hB⟩ := Keeps.stepNone HB hB hK
    have HV := hidden (HV.out.keeps hK (fun _ _ _ _ h => h))
    have HY := hidden (HY.out.keeps hK (fun h => h))
    have hlt2 : w.heap.size < w2.heap.size := Nat.lt_of_lt_of_le hlt1 hK.size
    clear hK HB hright
    obtain ⟨c0, c1, c2, _⟩ := HY.out.cells
    go_wp2_with fail
    refine (right_any _ (some ⟨w2.heap.size, 0, none⟩) 1 [y] (Vals.lit w2 [y] 50 rfl) (by simp)).mono ?_
    rintro e w3 ⟨rfl, hK⟩
    have hk3 : Keeps (fun _ => False) w2 w3 := ((Keeps.refl _ w2).alloc _).trans hK (fun _ _ h => h)
    obtain ⟨HK, hB⟩ := Keeps.stepNone HK hB hk3
    have HV := hidden (HV.out.keeps hk3 (fun _ _ _ _ h => h))
    have HY := hidden (HY.out.keeps hk3 (fun h => h))
    have hlt3 : w.heap.size < w3.heap.size := Nat.lt_of_lt_of_le hlt2 hk3.size
    clear hK hk3 c0 c1 c2
    rw [show ([y].all fun x => x.chk == 0) = (y.chk == 0) by simp]
    cases hy : (y.chk == 0) with
    | false =>
      go_wp2
      exact hR.out _ _ ⟨rfl, HK.out.below (Nat.le_refl _) (fun _ h => h)⟩
    | true =>
      clear hy
      go_wp2_with fail
      refine (list_New w3 A c xs HV.out (by omega) (vals_nil HV.out)).mono ?_
      rintro e w4 ⟨lb, LF, rfl, hL, hK, hF⟩
      have HV := hidden (HV.out.keeps hK (fun _ _ _ _ h => h))
      have HY := hidden (HY.out.keeps hK (fun h => h))
      have HL := hidden hL
      have hlt4 : w.heap.size < w4.heap.size := Nat.lt_of_lt_of_le hlt3 hK.size
      obtain ⟨HK, hB⟩ := Keeps.stepNone HK hB hK
      clear hK hL hF
      go_wp2
      go_loopw [6, 7, 31] (fun a m i wr => ∃ k : Nat, k ≤ xs.length ∧ i = .int .i64 k ∧ a = .int .i64 (firstAt (xs.take k) y) ∧ m = .int .i64 ((cellNums (xs.take k)).length : Int) ∧ Keeps (fun _ => False) w4 wr) (fun _ _ i _ => xs.length - (intOf i).toNat)
      case atStart => exact ⟨0, Nat.zero_le _, rfl, rfl, rfl, Keeps.refl _ _⟩
      case round =>
        obtain ⟨k, hk, rfl, rfl, rfl, hK⟩ := hrel
        have HK4 := hidden hK
        by_cases hlt : k < xs.length
        · obtain ⟨rb, ro, rfl, h0, h1, h2⟩ := (HV.out.keeps hK (fun _ _ _ _ h => h)) k xs[k] (List.getElem?_eq_getElem hlt)
          have hr := World.block_lt_of_cell? wr _ h0
          have hbx : w.heap.size < wr.heap.size := Nat.lt_of_lt_of_le hlt4 hK.size
          obtain ⟨y0, y1, y2, _⟩ := (HY.out.keeps hK (fun h => h)).cells
          have HS1 := hidden (firstAt_succ (y := y) hlt)
          have HS2 := hidden (cellNums_len_succ hlt)
          have hbn : (cellNums (xs.take k)).length ≤ 200 := Nat.le_trans (cellNums_length _) (by simp; omega)
          generalize (cellNums (xs.take k)).length = m at *
          generalize firstAt (xs.take k) y = a at *
          generalize xs[k] = x at *
          clear hK
          by_cases hx : x = y
          · subst hx
            by_cases ha : a < 0 <;> by_cases h4 : x.k = 4
            all_goals
              have HS1 := hidden (HS1.out)
              have HS2 := hidden (HS2.out)
              go_wp2
            all_goals
              go_roundw
              case rel => exact ⟨k + 1, hlt, by go_num, by rw [HS1.out]; simp [ha], by rw [HS2.out]; simp [h4], HK4.out.alloc _⟩
              case measure => simp [intOf]; omega
          · have HX := hidden hx
            rcases V.ne_cases (fun e : y = x => hx e.symm) with e0 | ⟨e0, e1⟩ | ⟨e0, e1, e2⟩
            all_goals
              clear hx
              by_cases h4 : x.k = 4
            all_goals
              go_wp2
            all_goals
              go_roundw
              case rel => exact ⟨k + 1, hlt, by go_num, by rw [HS1.out, if_neg (fun h => HX.out h.1)], by rw [HS2.out]; simp [h4], HK4.out.alloc _⟩
              case measure => simp [intOf]; omega
        · obtain rfl : k = xs.length := by omega
          rw [List.take_length]
          have HL := hidden (HL.out.none hK)
          have HV := hidden (HV.out.keeps hK (fun _ _ _ _ h => h))
          have HY := hidden (HY.out.keeps hK (fun h => h))
          have hlt5 : w.heap.size < wr.heap.size := Nat.lt_of_lt_of_le hlt4 hK.size
          obtain ⟨HK, hB⟩ := Keeps.stepNone HK hB hK
          clear hK HK4 hlt
          go_wp2_with fail
          refine (list_Clone wr LF lb xs HL.out (by omega)).mono ?_
          rintro e w5 ⟨cb, CF, rfl, hC, hK, hF⟩
          have HC := hidden hC
          have HCF := hidden (hF.ge (B := w.heap.size) (fun _ h => h.elim) hB)
          have HCN := hidden (show ¬ CF w.heap.size from fun h => by rcases hF _ h with h | h; exact h; omega)
          have HA := hidden (show Apart CF LF from Apart.fresh (Apart.none LF) hF HL.out.inw)
          have HL := hidden (HL.out.none hK)
          have HY := hidden (HY.out.keeps hK (fun h => h))
          have hlt6 : w.heap.size < w5.heap.size := Nat.lt_of_lt_of_le hlt5 hK.size
          obtain ⟨HK, hB⟩ := Keeps.stepNone HK hB hK
          obtain ⟨c0, c1, c2, _⟩ := HY.out.cells
          clear hK hC hF
          go_wp2_with fail
          refine (list_Push_ok _ CF cb xs [y] (some ⟨w5.heap.size, 0, none⟩) 1 (HC.out.alloc _) (Vals.lit w5 [y] 50 rfl) (by simp; omega)).mono ?_
          rintro e w6 ⟨CF1, rfl, hC, hK, hF⟩
          have HA1 := hidden (HA.out.fresh hF (HL.out.alloc _).inw)
          have HL := hidden ((HL.out.alloc _).keeps hK HA.out.symm)
          have HY := hidden (HY.out.keeps (((Keeps.refl CF w5).alloc _).trans hK (fun _ _ h => h)) HCN.out)
          have hlt7 : w.heap.size < w6.heap.size := by have := hK.size; simp at this; omega
          obtain ⟨HK, HCF, hB⟩ := Keeps.step' (hidden (HK.out.alloc _)) HCF (by simp; omega) hK hF
          have HC := hidden hC
          clear hK hC hF HA c0 c1 c2
          obtain ⟨c0, c1, c2, _⟩ := HY.out.cells
          have hfind := hidden (list_Find w6 LF lb xs y HL.out (by omega))
          unfold V.val at hfind
          go_wp2_with fail
          refine hfind.out.mono ?_
          rintro e w7 ⟨rfl, hK⟩
          have HL := hidden (HL.out.none hK)
          have HC := hidden (HC.out.none hK)
          obtain ⟨HK, hB⟩ := Keeps.stepNone HK hB hK
          clear hK hfind c0 c1 c2
          generalize firstAt xs y = fa at *
          go_wp2_with fail
          refine (list_Cells w7 LF lb xs HL.out (by omega)).mono ?_
          rintro e w8 ⟨A8, c8, F8, rfl, _, _, hK, _⟩
          have HL := hidden (HL.out.none hK)
          have HC := hidden (HC.out.none hK)
          obtain ⟨HK, hB⟩ := Keeps.stepNone HK hB hK
          clear hK
          generalize (cellNums xs).length = cn at *
          have HV8 := hidden (HV0.out.far HK.out)
          go_wp2_with fail
          refine (same_true w8 LF lb xs A _ _ HL.out HV8.out rfl (by omega)).mono ?_
          rintro e w9 ⟨rfl, hK⟩
          have HC := hidden (HC.out.none hK)
          obtain ⟨HK, hB⟩ := Keeps.stepNone HK hB hK
          clear hK
          go_wp2_with fail
          refine (list_Len w9 CF1 cb _ HC.out).mono ?_
          rintro e _ ⟨rfl, rfl⟩
          rw [show ((xs ++ [y]).length : Int) = (xs.length : Int) + 1 by simp]
          go_wp2
          exact hR.out _ _ ⟨rfl, HK.out.below (Nat.le_refl _) (fun _ h => h)⟩
end Go.Proofs.Ytcikeaabijfmpaa
