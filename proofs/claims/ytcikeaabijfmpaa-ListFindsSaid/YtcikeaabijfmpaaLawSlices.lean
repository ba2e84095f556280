/- The walk of the statement ListSlices. -/
import Derived.Test.YtcikeaabijfmpaaSame4
import Derived.Test.YtcikeaabijfmpaaOpenV
namespace Go.Proofs.Ytcikeaabijfmpaa
open Go.RowKit

theorem Vals.far {w wi : World} {A : Option Addr} {xs : List V} (h : Vals w A xs) (hk : Keeps (fun k => w.heap.size ≤ k) w wi) : Vals wi A xs := h.keeps hk (fun h0 b o hA hS => by have := h.lt h0 b o hA; omega)
theorem vals_sub0 {w : World} {A : Option Addr} {xs : List V} (h : Vals w A xs) (i j : Nat) : Vals w (A.map fun x => x.add (i * 3)) ((xs.drop i).take (j - i)) := h.sub i (j - i)
set_option maxRecDepth 100000 in
set_option maxHeartbeats 4000000 in
theorem listSlices_walk (w : World) (A : Option Addr) (c : Nat) (xs : List V) (f t : Int) (hv : Vals w A xs) (hc : xs.length ≤ c) (hl : xs.length ≤ 4398046511104) (hf : -9223372036854775808 ≤ f ∧ f ≤ 9223372036854775807) (ht : -9223372036854775808 ≤ t ∧ t ≤ 9223372036854775807) :
    Calls Try.prog 6 #[.slice A xs.length c, .int .i64 f, .int .i64 t] w fun e w' => e = .returned (.bool true) ∧ Below w.heap.size w w' := by
  have HV := hidden hv
  have HV0 := hidden hv
  obtain ⟨hf0, hf1⟩ := hf
  obtain ⟨ht0, ht1⟩ := ht
  clear hv
  refine post_gen fun R hR => ?_
  go_enter Try.func6, Try.ntmps6
  go_wp2_with fail
  refine (keeps4_true w).mono ?_
  rintro e w1 ⟨rfl, hB1⟩
  have HB := hidden (Keeps.of_below hB1)
  have HV := hidden (HV.out.below hB1)
  have hB := hB1.size
  clear hB1
  by_cases hlen : 200 < xs.length
  · go_wp2
    exact hR.out _ _ ⟨rfl, HB.out.below (Nat.le_refl _) (fun _ h => h)⟩
  have hright := hidden (right_any w1 A c xs HV.out hl)
  cases hall : xs.all (fun x => x.chk == 0) with
  | false =>
    rw [hall] at hright
    go_wp2_with fail
    refine hright.out.mono ?_
    rintro e w2 ⟨rfl, hK⟩
    obtain ⟨HK, hB⟩ := Keeps.stepNone HB hB hK
    clear hK
    go_wp2
    exact hR.out _ _ ⟨rfl, HK.out.below (Nat.le_refl _) (fun _ h => h)⟩
  | true =>
    rw [hall] at hright
    clear hall
    go_wp2_with fail
    refine hright.out.mono ?_
    rintro e w2 ⟨rfl, hK⟩
    obtain ⟨HK, hB⟩ := Keeps.stepNone HB hB hK
    have HV := hidden (HV.out.keeps hK (fun _ _ _ _ h => h))
    clear hK HB
    go_wp2_with fail
    refine (list_New w2 A c xs HV.out (by omega) (vals_nil HV.out)).mono ?_
    rintro e w3 ⟨lb, LF, rfl, hL, hK, hF⟩
    have HV := hidden (HV.out.keeps hK (fun _ _ _ _ h => h))
    have HL := hidden hL
    have HLF := hidden (hF.ge (B := w.heap.size) (fun _ h => h.elim) hB)
    obtain ⟨HK, hB⟩ := Keeps.stepNone HK hB hK
    clear hK hL hF
    by_cases hbad : fromEnd xs.length f < 0 ∨ fromEnd xs.length t < fromEnd xs.length f ∨ (xs.length : Int) < fromEnd xs.length t
    · go_wp2_with fail
      refine (list_Slice_bad w3 LF lb xs f t HL.out (by omega) ⟨hf0, hf1⟩ ⟨ht0, ht1⟩ hbad).mono ?_
      rintro e _ ⟨rfl, rfl⟩
      unfold fromEnd at hbad
      by_cases g1 : f < 0 <;> by_cases g2 : t < 0
      all_goals
        simp only [g1, g2, if_true, if_false] at hbad
        rcases hbad with hbad | hbad | hbad
      all_goals
        try (exfalso; omega; done)
      all_goals go_wp2
      all_goals exact hR.out _ _ ⟨rfl, HK.out.below (Nat.le_refl _) (fun _ h => h)⟩
    · obtain ⟨i, hi⟩ : ∃ i : Nat, fromEnd xs.length f = i := ⟨(fromEnd xs.length f).toNat, by omega⟩
      obtain ⟨j, hj⟩ : ∃ j : Nat, fromEnd xs.length t = j := ⟨(fromEnd xs.length t).toNat, by omega⟩
      have hij : i ≤ j := by omega
      have hjn : j ≤ xs.length := by omega
      have hsl : ((xs.drop i).take (j - i)).length = j - i := by simp; omega
      clear hbad
      go_wp2_with fail
      refine (list_Slice_ok w3 LF lb xs f t i j HL.out (by omega) ⟨hf0, hf1⟩ ⟨ht0, ht1⟩ hi hj hij hjn).mono ?_
      rintro e w4 ⟨sb, SF, rfl, hS, hK, hF⟩
      have HV := hidden (HV.out.keeps hK (fun _ _ _ _ h => h))
      have HS := hidden hS
      have HSF := hidden (hF.ge (B := w.heap.size) (fun _ h => h.elim) hB)
      have HA := hidden (show Apart SF LF from (Apart.fresh (Apart.none LF) hF HL.out.inw))
      have HL := hidden (HL.out.none hK)
      obtain ⟨HK, hB⟩ := Keeps.stepNone HK hB hK
      clear hK hS hF
      have key := hidden (fun (A' : Option Addr) (c' : Nat) (hv' : Vals w4 A' ((xs.drop i).take (j - i))) => same_true w4 SF sb _ A' (j - i) c' HS.out hv' hsl.symm (by omega))
      have key1 := hidden (fun c' => key.out _ c' (HV.out.sub i (j - i)))
      have key2 := hidden (fun (h : xs.length ≤ i) c' => key.out A c' (by rw [List.drop_eq_nil_of_le h]; simp; exact Vals.nil _ _))
      unfold fromEnd at hi hj
      clear key
      have hs2 : (c = i ∧ Calls Try.prog 30 #[.pointer (some ⟨sb, 0, none⟩), .slice A (j - i) 0] w4 fun e w' => e = .returned (.bool true) ∧ Keeps (fun _ => False) w4 w') ∨
          (¬ c = i ∧ Calls Try.prog 30 #[.pointer (some ⟨sb, 0, none⟩), .slice (A.map fun x => x.add (i * 3)) (j - i) (c - i)] w4 fun e w' => e = .returned (.bool true) ∧ Keeps (fun _ => False) w4 w') := by
        by_cases hci : c = i
        · exact .inl ⟨hci, key2.out (by omega) 0⟩
        · exact .inr ⟨hci, key1.out _⟩
      rcases hs2 with ⟨hci, hsame⟩ | ⟨hci, hsame⟩
      all_goals
        have hsame' := hidden hsame
        clear hsame key1 key2
        by_cases g1 : f < 0 <;> by_cases g2 : t < 0
      all_goals
        simp only [g1, g2, if_true, if_false] at hi hj
        try (exfalso; omega; done)
      all_goals
        go_wp2_with fail
      all_goals
        refine hsame'.out.mono ?_
        rintro e w5 ⟨rfl, hK⟩
        have HS := hidden (HS.out.none hK)
        have HL := hidden (HL.out.none hK)
        obtain ⟨HK, hB⟩ := Keeps.stepNone HK hB hK
        clear hK
        go_wp2_with fail
        refine (value_Int 1 _).mono ?_
        rintro e w6 ⟨rfl, hK⟩
        have HS := hidden (HS.out.none hK)
        have HL := hidden (HL.out.none hK)
        obtain ⟨HK, hB⟩ := Keeps.stepNone HK hB hK
        clear hK
        unfold V.val
        go_wp2_with fail
        refine (list_Push_ok _ SF sb _ [vI 1] (some ⟨w6.heap.size, 0, none⟩) 1 (HS.out.alloc _) (Vals.lit w6 [vI 1] 50 rfl) (by rw [hsl]; simp; omega)).mono ?_
        rintro e w7 ⟨SF1, rfl, hS, hK, hF⟩
        have HA1 := hidden (HA.out.fresh hF (HL.out.alloc _).inw)
        have HL := hidden ((HL.out.alloc _).keeps hK HA.out.symm)
        obtain ⟨HK, HSF, hB⟩ := Keeps.step' (hidden (HK.out.alloc _)) HSF (by simp; omega) hK hF
        have HS := hidden hS
        clear hK hS hF HA
        go_wp2_with fail
        refine (list_Reverse w7 SF1 sb _ HS.out (by simp; omega)).mono ?_
        rintro e w8 ⟨rfl, hS, hK⟩
        have HL := hidden (HL.out.keeps hK HA1.out.symm)
        obtain ⟨HK, HSF, hB⟩ := Keeps.step' HK HSF hB hK (Fresh.refl _ _)
        clear hK hS HA1
        have HV8 := hidden (HV0.out.far HK.out)
        go_wp2_with fail
        refine (same_true w8 LF lb xs A _ _ HL.out HV8.out rfl (by omega)).mono ?_
        rintro e w9 ⟨rfl, hK⟩
        obtain ⟨HK, hB⟩ := Keeps.stepNone HK hB hK
        go_wp2
        exact hR.out _ _ ⟨rfl, HK.out.below (Nat.le_refl _) (fun _ h => h)⟩
end Go.Proofs.Ytcikeaabijfmpaa
