/- The walk of the statement StrSlices. -/
import Derived.Test.YtggkkonigeohhaaStrT
namespace Go.Proofs.Ytggkkonigeohhaa
open Go.RowKit
set_option maxRecDepth 100000

theorem extract_at (s : ByteArray) {i j : Nat} : ∀ k (h : k < (s.extract i j).size) (h2 : i + k < s.size), (s.extract i j)[k]'h = s[i + k]'h2 := by
  intro k h h2
  have e : (s.extract i j).data.toList = (s.data.toList.take j).drop i := by
    rw [ByteArray.data_extract, Array.toList_extract, List.extract_eq_take_drop, List.drop_take]
  have h3 : k < ((s.data.toList.take j).drop i).length := by rw [← e, list_len]; exact h
  rw [← at_list (s.extract i j) h, ← at_list s h2]
  have : (s.extract i j).data.toList[k]'(by rw [list_len]; exact h) = ((s.data.toList.take j).drop i)[k]'h3 := by simp only [e]
  rw [this, List.getElem_drop, List.getElem_take]
set_option maxHeartbeats 1000000 in
theorem strSlices_walk (w : World) (s : ByteArray) (x y m : Int) (hm : w.cell? ⟨0, 0, none⟩ = some (.int .i64 m)) (hx : -9223372036854775808 ≤ x ∧ x ≤ 9223372036854775807) (hy : -9223372036854775808 ≤ y ∧ y ≤ 9223372036854775807) :
    Calls Try.prog 5 #[.string s, .int .i64 x, .int .i64 y] w fun e w' => e = .returned (.bool true) ∧ Below w.heap.size w w' := by
  have HT := hidden (texts_true w m hm)
  clear hm
  refine post_gen fun R hR => ?_
  by_cases hbig : 500 < s.size
  · go_enter Try.func5, Try.ntmps5
    go_wp2_with fail
    refine HT.out.mono ?_
    rintro e w1 ⟨rfl, hK⟩
    go_wp2_with fail
    exact hR.out _ _ ⟨rfl, hK.toNew (fun _ h => h.elim)⟩
  have k1 := hidden (fun W => str_Slice s x y W (by omega) hx hy)
  obtain ⟨hx1, hx2⟩ := hx
  obtain ⟨hy1, hy2⟩ := hy
  by_cases hxn : x < 0
  · by_cases hyn : y < 0
    · simp only [slcAns, plc, if_pos hxn, if_pos hyn] at k1
      by_cases hbad : x + s.size < 0 ∨ y + s.size < x + s.size ∨ (s.size : Int) < y + s.size
      · simp only [if_pos hbad] at k1
        rcases (show x + s.size < 0 ∨ (0 ≤ x + s.size ∧ y + s.size < x + s.size) ∨ (0 ≤ x + s.size ∧ x + s.size ≤ y + s.size ∧ (s.size : Int) < y + s.size) by omega) with h | ⟨h, h2⟩ | ⟨h, h2, h3⟩
        all_goals
          first
            | (exfalso; omega)
            | (clear hbad
               go_enter Try.func5, Try.ntmps5
               go_wp2_with fail
               refine HT.out.mono ?_
               rintro e w1 ⟨rfl, hK⟩
               have HK := hidden hK
               clear hK
               go_wp2_with fail
               refine (k1.out _).mono ?_
               rintro e _ ⟨rfl, rfl⟩
               go_wp2_with fail
               all_goals exact hR.out _ _ ⟨rfl, HK.out.toNew (fun _ h => h.elim)⟩)
      · simp only [if_neg hbad] at k1
        obtain ⟨i, hi⟩ := Int.eq_ofNat_of_zero_le (show 0 ≤ x + s.size by omega)
        obtain ⟨j, hj⟩ := Int.eq_ofNat_of_zero_le (show 0 ≤ y + s.size by omega)
        have t1 : (x + s.size).toNat = i := by omega
        have t2 : (y + s.size).toNat = j := by omega
        rw [t1, t2] at k1
        have hij : i ≤ j := by omega
        have hjs : j ≤ s.size := by omega
        have l1 : 0 ≤ x + s.size := by omega
        have l2 : x + s.size ≤ y + s.size := by omega
        have l3 : y + s.size ≤ s.size := by omega
        have HI := hidden hi
        have HJ := hidden hj
        have hz : (s.extract i j).size = j - i := by simp; omega
        have hat := extract_at s (i := i) (j := j)
        generalize s.extract i j = p at k1 hz hat
        have q1 : ((p.size : Int) != y + s.size - (x + s.size)) = false := by simp; omega
        have ps : p.size ≤ 500 := by omega
        have HZ := hidden hz
        have HAT := hidden hat
        have HI := hidden hi
        have HJ := hidden hj
        clear hi hj t1 t2 hbad hz hat
        go_enter Try.func5, Try.ntmps5
        go_wp2_with fail
        refine HT.out.mono ?_
        rintro e w1 ⟨rfl, hK⟩
        have HK := hidden hK
        clear hK
        go_wp2_with fail
        refine (k1.out _).mono ?_
        rintro e _ ⟨rfl, rfl⟩
        go_wp2_with fail
        go_loopw [69] (fun n wr => ∃ k : Nat, k ≤ p.size ∧ n = .int .i64 k ∧ Keeps (fun _ => False) w wr) (fun n _ => p.size - (intOf n).toNat)
        case atStart => exact ⟨0, Nat.zero_le _, rfl, HK.out⟩
        case round =>
          obtain ⟨k, hk, rfl, hK⟩ := hrel
          have HK := hidden hK
          clear hK
          by_cases hlt : k < p.size
          · have hik : i + k < s.size := by have := HZ.out; omega
            have hv := hidden (HAT.out k hlt hik)
            have g1 : ((p[k]'hlt).toNat : Int) == ((s[i + k]'hik).toNat : Int) := by rw [hv.out]; simp
            have g2 : (((p[k]'hlt).toNat : Int) != ((s[i + k]'hik).toNat : Int)) = false := by rw [hv.out]; simp
            have p1 : (k : Int) < p.size := by omega
            have p2 : 0 ≤ x + s.size + (k : Int) := by omega
            have p3 : (x + s.size + (k : Int)).toNat = i + k := by have := HI.out; omega
            have p4 : x + s.size + (k : Int) < s.size := by have := HI.out; omega
            have p5 : IntKind.i64.wrap (x + s.size + (k : Int)) = x + s.size + k := IntWalk.i64_in _ (by have := HI.out; omega)
            go_wp2_with fail
            go_quiet (fail)
            clear p5
            go_wp2_with fail
            go_roundw
            case rel => exact ⟨k + 1, hlt, by go_num, HK.out.drewN _⟩
            case measure => simp [intOf]; omega
          · obtain rfl : k = p.size := by omega
            go_wp2_with fail
            exact hR.out _ _ ⟨rfl, HK.out.toNew (fun _ h => h.elim)⟩
    · simp only [slcAns, plc, if_pos hxn, if_neg hyn] at k1
      by_cases hbad : x + s.size < 0 ∨ y < x + s.size ∨ (s.size : Int) < y
      · simp only [if_pos hbad] at k1
        rcases (show x + s.size < 0 ∨ (0 ≤ x + s.size ∧ y < x + s.size) ∨ (0 ≤ x + s.size ∧ x + s.size ≤ y ∧ (s.size : Int) < y) by omega) with h | ⟨h, h2⟩ | ⟨h, h2, h3⟩
        all_goals
          first
            | (exfalso; omega)
            | (clear hbad
               go_enter Try.func5, Try.ntmps5
               go_wp2_with fail
               refine HT.out.mono ?_
               rintro e w1 ⟨rfl, hK⟩
               have HK := hidden hK
               clear hK
               go_wp2_with fail
               refine (k1.out _).mono ?_
               rintro e _ ⟨rfl, rfl⟩
               go_wp2_with fail
               all_goals exact hR.out _ _ ⟨rfl, HK.out.toNew (fun _ h => h.elim)⟩)
      · simp only [if_neg hbad] at k1
        obtain ⟨i, hi⟩ := Int.eq_ofNat_of_zero_le (show 0 ≤ x + s.size by omega)
        obtain ⟨j, hj⟩ := Int.eq_ofNat_of_zero_le (show 0 ≤ y by omega)
        have t1 : (x + s.size).toNat = i := by omega
        have t2 : (y).toNat = j := by omega
        rw [t1, t2] at k1
        have hij : i ≤ j := by omega
        have hjs : j ≤ s.size := by omega
        have l1 : 0 ≤ x + s.size := by omega
        have l2 : x + s.size ≤ y := by omega
        have l3 : y ≤ s.size := by omega
        have HI := hidden hi
        have HJ := hidden hj
        have hz : (s.extract i j).size = j - i := by simp; omega
        have hat := extract_at s (i := i) (j := j)
        generalize s.extract i j = p at k1 hz hat
        have q1 : ((p.size : Int) != y - (x + s.size)) = false := by simp; omega
        have ps : p.size ≤ 500 := by omega
        have HZ := hidden hz
        have HAT := hidden hat
        have HI := hidden hi
        have HJ := hidden hj
        clear hi hj t1 t2 hbad hz hat
        go_enter Try.func5, Try.ntmps5
        go_wp2_with fail
        refine HT.out.mono ?_
        rintro e w1 ⟨rfl, hK⟩
        have HK := hidden hK
        clear hK
        go_wp2_with fail
        refine (k1.out _).mono ?_
        rintro e _ ⟨rfl, rfl⟩
        go_wp2_with fail
        go_loopw [69] (fun n wr => ∃ k : Nat, k ≤ p.size ∧ n = .int .i64 k ∧ Keeps (fun _ => False) w wr) (fun n _ => p.size - (intOf n).toNat)
        case atStart => exact ⟨0, Nat.zero_le _, rfl, HK.out⟩
        case round =>
          obtain ⟨k, hk, rfl, hK⟩ := hrel
          have HK := hidden hK
          clear hK
          by_cases hlt : k < p.size
          · have hik : i + k < s.size := by have := HZ.out; omega
            have hv := hidden (HAT.out k hlt hik)
            have g1 : ((p[k]'hlt).toNat : Int) == ((s[i + k]'hik).toNat : Int) := by rw [hv.out]; simp
            have g2 : (((p[k]'hlt).toNat : Int) != ((s[i + k]'hik).toNat : Int)) = false := by rw [hv.out]; simp
            have p1 : (k : Int) < p.size := by omega
            have p2 : 0 ≤ x + s.size + (k : Int) := by omega
            have p3 : (x + s.size + (k : Int)).toNat = i + k := by have := HI.out; omega
            have p4 : x + s.size + (k : Int) < s.size := by have := HI.out; omega
            have p5 : IntKind.i64.wrap (x + s.size + (k : Int)) = x + s.size + k := IntWalk.i64_in _ (by have := HI.out; omega)
            go_wp2_with fail
            go_quiet (fail)
            clear p5
            go_wp2_with fail
            go_roundw
            case rel => exact ⟨k + 1, hlt, by go_num, HK.out.drewN _⟩
            case measure => simp [intOf]; omega
          · obtain rfl : k = p.size := by omega
            go_wp2_with fail
            exact hR.out _ _ ⟨rfl, HK.out.toNew (fun _ h => h.elim)⟩
  · by_cases hyn : y < 0
    · simp only [slcAns, plc, if_neg hxn, if_pos hyn] at k1
      by_cases hbad : x < 0 ∨ y + s.size < x ∨ (s.size : Int) < y + s.size
      · simp only [if_pos hbad] at k1
        rcases (show x < 0 ∨ (0 ≤ x ∧ y + s.size < x) ∨ (0 ≤ x ∧ x ≤ y + s.size ∧ (s.size : Int) < y + s.size) by omega) with h | ⟨h, h2⟩ | ⟨h, h2, h3⟩
        all_goals
          first
            | (exfalso; omega)
            | (clear hbad
               go_enter Try.func5, Try.ntmps5
               go_wp2_with fail
               refine HT.out.mono ?_
               rintro e w1 ⟨rfl, hK⟩
               have HK := hidden hK
               clear hK
               go_wp2_with fail
               refine (k1.out _).mono ?_
               rintro e _ ⟨rfl, rfl⟩
               go_wp2_with fail
               all_goals exact hR.out _ _ ⟨rfl, HK.out.toNew (fun _ h => h.elim)⟩)
      · simp only [if_neg hbad] at k1
        obtain ⟨i, hi⟩ := Int.eq_ofNat_of_zero_le (show 0 ≤ x by omega)
        obtain ⟨j, hj⟩ := Int.eq_ofNat_of_zero_le (show 0 ≤ y + s.size by omega)
        have t1 : (x).toNat = i := by omega
        have t2 : (y + s.size).toNat = j := by omega
        rw [t1, t2] at k1
        have hij : i ≤ j := by omega
        have hjs : j ≤ s.size := by omega
        have l1 : 0 ≤ x := by omega
        have l2 : x ≤ y + s.size := by omega
        have l3 : y + s.size ≤ s.size := by omega
        have HI := hidden hi
        have HJ := hidden hj
        have hz : (s.extract i j).size = j - i := by simp; omega
        have hat := extract_at s (i := i) (j := j)
        generalize s.extract i j = p at k1 hz hat
        have q1 : ((p.size : Int) != y + s.size - (x)) = false := by simp; omega
        have ps : p.size ≤ 500 := by omega
        have HZ := hidden hz
        have HAT := hidden hat
        have HI := hidden hi
        have HJ := hidden hj
        clear hi hj t1 t2 hbad hz hat
        go_enter Try.func5, Try.ntmps5
        go_wp2_with fail
        refine HT.out.mono ?_
        rintro e w1 ⟨rfl, hK⟩
        have HK := hidden hK
        clear hK
        go_wp2_with fail
        refine (k1.out _).mono ?_
        rintro e _ ⟨rfl, rfl⟩
        go_wp2_with fail
        go_loopw [69] (fun n wr => ∃ k : Nat, k ≤ p.size ∧ n = .int .i64 k ∧ Keeps (fun _ => False) w wr) (fun n _ => p.size - (intOf n).toNat)
        case atStart => exact ⟨0, Nat.zero_le _, rfl, HK.out⟩
        case round =>
          obtain ⟨k, hk, rfl, hK⟩ := hrel
          have HK := hidden hK
          clear hK
          by_cases hlt : k < p.size
          · have hik : i + k < s.size := by have := HZ.out; omega
            have hv := hidden (HAT.out k hlt hik)
            have g1 : ((p[k]'hlt).toNat : Int) == ((s[i + k]'hik).toNat : Int) := by rw [hv.out]; simp
            have g2 : (((p[k]'hlt).toNat : Int) != ((s[i + k]'hik).toNat : Int)) = false := by rw [hv.out]; simp
            have p1 : (k : Int) < p.size := by omega
            have p2 : 0 ≤ x + (k : Int) := by omega
            have p3 : (x + (k : Int)).toNat = i + k := by have := HI.out; omega
            have p4 : x + (k : Int) < s.size := by have := HI.out; omega
            have p5 : IntKind.i64.wrap (x + (k : Int)) = x + k := IntWalk.i64_in _ (by have := HI.out; omega)
            go_wp2_with fail
            go_quiet (fail)
            clear p5
            go_wp2_with fail
            go_roundw
            case rel => exact ⟨k + 1, hlt, by go_num, HK.out.drewN _⟩
            case measure => simp [intOf]; omega
          · obtain rfl : k = p.size := by omega
            go_wp2_with fail
            exact hR.out _ _ ⟨rfl, HK.out.toNew (fun _ h => h.elim)⟩
    · simp only [slcAns, plc, if_neg hxn, if_neg hyn] at k1
      by_cases hbad : x < 0 ∨ y < x ∨ (s.size : Int) < y
      · simp only [if_pos hbad] at k1
        rcases (show x < 0 ∨ (0 ≤ x ∧ y < x) ∨ (0 ≤ x ∧ x ≤ y ∧ (s.size : Int) < y) by omega) with h | ⟨h, h2⟩ | ⟨h, h2, h3⟩
        all_goals
          first
            | (exfalso; omega)
            | (clear hbad
               go_enter Try.func5, Try.ntmps5
               go_wp2_with fail
               refine HT.out.mono ?_
               rintro e w1 ⟨rfl, hK⟩
               have HK := hidden hK
               clear hK
               go_wp2_with fail
               refine (k1.out _).mono ?_
               rintro e _ ⟨rfl, rfl⟩
               go_wp2_with fail
               all_goals exact hR.out _ _ ⟨rfl, HK.out.toNew (fun _ h => h.elim)⟩)
      · simp only [if_neg hbad] at k1
        obtain ⟨i, hi⟩ := Int.eq_ofNat_of_zero_le (show 0 ≤ x by omega)
        obtain ⟨j, hj⟩ := Int.eq_ofNat_of_zero_le (show 0 ≤ y by omega)
        have t1 : (x).toNat = i := by omega
        have t2 : (y).toNat = j := by omega
        rw [t1, t2] at k1
        have hij : i ≤ j := by omega
        have hjs : j ≤ s.size := by omega
        have l1 : 0 ≤ x := by omega
        have l2 : x ≤ y := by omega
        have l3 : y ≤ s.size := by omega
        have HI := hidden hi
        have HJ := hidden hj
        have hz : (s.extract i j).size = j - i := by simp; omega
        have hat := extract_at s (i := i) (j := j)
        generalize s.extract i j = p at k1 hz hat
        have q1 : ((p.size : Int) != y - (x)) = false := by simp; omega
        have ps : p.size ≤ 500 := by omega
        have HZ := hidden hz
        have HAT := hidden hat
        have HI := hidden hi
        have HJ := hidden hj
        clear hi hj t1 t2 hbad hz hat
        go_enter Try.func5, Try.ntmps5
        go_wp2_with fail
        refine HT.out.mono ?_
        rintro e w1 ⟨rfl, hK⟩
        have HK := hidden hK
        clear hK
        go_wp2_with fail
        refine (k1.out _).mono ?_
        rintro e _ ⟨rfl, rfl⟩
        go_wp2_with fail
        go_loopw [69] (fun n wr => ∃ k : Nat, k ≤ p.size ∧ n = .int .i64 k ∧ Keeps (fun _ => False) w wr) (fun n _ => p.size - (intOf n).toNat)
        case atStart => exact ⟨0, Nat.zero_le _, rfl, HK.out⟩
        case round =>
          obtain ⟨k, hk, rfl, hK⟩ := hrel
          have HK := hidden hK
          clear hK
          by_cases hlt : k < p.size
          · have hik : i + k < s.size := by have := HZ.out; omega
            have hv := hidden (HAT.out k hlt hik)
            have g1 : ((p[k]'hlt).toNat : Int) == ((s[i + k]'hik).toNat : Int) := by rw [hv.out]; simp
            have g2 : (((p[k]'hlt).toNat : Int) != ((s[i + k]'hik).toNat : Int)) = false := by rw [hv.out]; simp
            have p1 : (k : Int) < p.size := by omega
            have p2 : 0 ≤ x + (k : Int) := by omega
            have p3 : (x + (k : Int)).toNat = i + k := by have := HI.out; omega
            have p4 : x + (k : Int) < s.size := by have := HI.out; omega
            have p5 : IntKind.i64.wrap (x + (k : Int)) = x + k := IntWalk.i64_in _ (by have := HI.out; omega)
            go_wp2_with fail
            go_quiet (fail)
            clear p5
            go_wp2_with fail
            go_roundw
            case rel => exact ⟨k + 1, hlt, by go_num, HK.out.drewN _⟩
            case measure => simp [intOf]; omega
          · obtain rfl : k = p.size := by omega
            go_wp2_with fail
            exact hR.out _ _ ⟨rfl, HK.out.toNew (fun _ h => h.elim)⟩
end Go.Proofs.Ytggkkonigeohhaa
