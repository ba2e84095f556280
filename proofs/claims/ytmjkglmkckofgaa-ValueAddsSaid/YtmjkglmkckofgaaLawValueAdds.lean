/- The walk of the statement ValueAdds. -/
import Derived.Test.YtmjkglmkckofgaaVal3
namespace Go.Proofs.Ytmjkglmkckofgaa
open Go.RowKit
set_option maxRecDepth 100000

theorem mk_app (s u : ByteArray) : mkS (s.data.toList ++ u.data.toList) = s ++ u := by
  apply ByteArray.ext
  simp [mkS]
set_option maxHeartbeats 8000000 in
theorem valueAdds_walk (w : World) (a b : V) (ha : -9223372036854775808 ≤ a.n ∧ a.n ≤ 9223372036854775807) (hb : -9223372036854775808 ≤ b.n ∧ b.n ≤ 9223372036854775807) :
    Calls Try.prog 6 #[a.val, b.val] w fun e w' => e = .returned (.bool true) ∧ Below w.heap.size w w' := by
  have kt := hidden (fun W => tells_true W)
  have kr := hidden (fun (W : World) (A : Option Addr) (hs : Vals W A [a, b]) => right_any W A 2 [a, b] hs (by simp))
  have hall : [a, b].all V.ok = (a.ok && b.ok) := by simp
  rw [hall] at kr
  clear hall
  refine post_gen fun R hR => ?_
  cases hok : (a.ok && b.ok) with
  | false =>
    rw [hok] at kr
    obtain ⟨k, n, t⟩ := a
    obtain ⟨k2, n2, t2⟩ := b
    clear hok
    obtain ⟨va, vb, hK0⟩ := box2 w k n k2 n2 t t2
    have VA := hidden va
    have VB := hidden vb
    have HK0 := hidden hK0
    clear va vb hK0
    unfold V.val at *
    go_enter Try.func6, Try.ntmps6
    go_wp2_with fail
    refine (kt.out _).mono ?_
    rintro e w1 ⟨rfl, hK⟩
    have HK1 := hidden ((HK0.out).trans hK (fun _ _ h => h))
    have VA1 := hidden (show IsVar w1 w.heap.size ⟨k, n, t⟩ from hK.heap VA.out (fun h => h))
    have VB1 := hidden (show IsVar w1 (w.heap.size + 1) ⟨k2, n2, t2⟩ from hK.heap VB.out (fun h => h))
    obtain ⟨a0, a1, a2, -⟩ := VA1.out.cells
    obtain ⟨b0, b1, b2, -⟩ := VB1.out.cells
    simp only at a0 a1 a2 b0 b1 b2
    clear hK
    go_wp2_with fail
    refine (kr.out _ _ (Vals.lit w1 [⟨k, n, t⟩, ⟨k2, n2, t2⟩] _ rfl)).mono ?_
    rintro e w2 ⟨rfl, hK⟩
    have HK2 := hidden ((HK1.out.alloc _).trans hK (fun _ _ h => h))
    have VA2 := hidden (show IsVar w2 w.heap.size ⟨k, n, t⟩ from hK.heap (blk_alloc VA1.out _) (fun h => h))
    have VB2 := hidden (show IsVar w2 (w.heap.size + 1) ⟨k2, n2, t2⟩ from hK.heap (blk_alloc VB1.out _) (fun h => h))
    clear hK a0 a1 a2 b0 b1 b2 VA1 VB1 HK1
    go_wp2_with fail
    exact hR.out _ _ ⟨rfl, HK2.out.toNew (fun _ h => h.elim)⟩
  | true =>
    rw [hok] at kr
    simp only [Bool.and_eq_true] at hok
    have hs1 := txt_size hok.1 ha
    have hs2 := txt_size hok.2 hb
    have hka := (ok_is hok.1).2
    have hkb := (ok_is hok.2).2
    have ka0 := hka.1
    have ka4 := hka.2.1
    have kb0 := hkb.1
    have kb4 := hkb.2.1
    clear hok hka hkb
    have hd : V.add a b = if a.k = 2 ∧ b.k = 2 then (⟨2, nAdd a.n b.n, ⟨#[]⟩⟩, 0) else if a.k ≠ 3 ∧ b.k ≠ 3 then (V.null, 30) else if a.txt.2 ≠ 0 ∨ b.txt.2 ≠ 0 then (V.null, 30) else (⟨3, 0, a.txt.1 ++ b.txt.1⟩, 0) := by
      unfold V.add
      rw [mk_app, if_neg (by omega : ¬ 1048576 < a.txt.1.size + b.txt.1.size)]
    have hf : a.txt.2 = if a.k = 0 ∨ a.k = 1 ∨ a.k = 2 ∨ a.k = 3 then 0 else 30 := by
      unfold V.txt; split <;> (try split) <;> (try split) <;> (try split) <;> simp_all
    have hg : b.txt.2 = if b.k = 0 ∨ b.k = 1 ∨ b.k = 2 ∨ b.k = 3 then 0 else 30 := by
      unfold V.txt; split <;> (try split) <;> (try split) <;> (try split) <;> simp_all
    obtain ⟨⟨s, f⟩, hp⟩ : ∃ p, a.txt = p := ⟨_, rfl⟩
    obtain ⟨⟨u, g⟩, hq⟩ : ∃ p, b.txt = p := ⟨_, rfl⟩
    rw [hp, hq] at hd
    rw [hp] at hf
    rw [hq] at hg
    simp only at hd hf hg
    by_cases A1 : a.k = 2
    · by_cases A2 : b.k = 2
      · rw [if_pos ⟨A1, A2⟩] at hd
        have e1 := hidden (fun W => num_Add a.n b.n W)
        have d10 := hidden (fun (n : Int) W => value_Int n W)
        simp only [V.val] at d10
        clear hf hg
        obtain ⟨k, n, t⟩ := a
        obtain ⟨k2, n2, t2⟩ := b
        simp only at *
        subst A1 A2
        have c1 := hidden (fun W => value_Add ⟨2, n, t⟩ ⟨2, n2, t2⟩ W ha hb (Nat.le_trans hs1 (by decide)) (Nat.le_trans hs2 (by decide)))
        rw [hd] at c1
        clear hd
        clear hs1 hs2 hp hq
        unfold V.val at c1
        obtain ⟨va, vb, hK0⟩ := box2 w 2 n 2 n2 t t2
        have VA := hidden va
        have VB := hidden vb
        have HK0 := hidden hK0
        clear va vb hK0
        unfold V.val at *
        go_enter Try.func6, Try.ntmps6
        go_wp2_with fail
        refine (kt.out _).mono ?_
        rintro e w1 ⟨rfl, hK⟩
        have HK1 := hidden ((HK0.out).trans hK (fun _ _ h => h))
        have VA1 := hidden (show IsVar w1 w.heap.size ⟨2, n, t⟩ from hK.heap VA.out (fun h => h))
        have VB1 := hidden (show IsVar w1 (w.heap.size + 1) ⟨2, n2, t2⟩ from hK.heap VB.out (fun h => h))
        obtain ⟨a0, a1, a2, -⟩ := VA1.out.cells
        obtain ⟨b0, b1, b2, -⟩ := VB1.out.cells
        simp only at a0 a1 a2 b0 b1 b2
        clear hK
        go_wp2_with fail
        refine (kr.out _ _ (Vals.lit w1 [⟨2, n, t⟩, ⟨2, n2, t2⟩] _ rfl)).mono ?_
        rintro e w2 ⟨rfl, hK⟩
        have HK2 := hidden ((HK1.out.alloc _).trans hK (fun _ _ h => h))
        have VA2 := hidden (show IsVar w2 w.heap.size ⟨2, n, t⟩ from hK.heap (blk_alloc VA1.out _) (fun h => h))
        have VB2 := hidden (show IsVar w2 (w.heap.size + 1) ⟨2, n2, t2⟩ from hK.heap (blk_alloc VB1.out _) (fun h => h))
        clear hK a0 a1 a2 b0 b1 b2 VA1 VB1 HK1
        obtain ⟨a0, a1, a2, -⟩ := VA2.out.cells
        obtain ⟨b0, b1, b2, -⟩ := VB2.out.cells
        simp only at a0 a1 a2 b0 b1 b2
        have hz2 := blk_lt VB2.out
        go_wp2_with fail
        refine (c1.out _).mono ?_
        rintro e w3 ⟨rfl, hK⟩
        have VA3 := hidden (show IsVar w3 w.heap.size ⟨2, n, t⟩ from hK.heap VA2.out (fun h => h))
        have VB3 := hidden (show IsVar w3 (w.heap.size + 1) ⟨2, n2, t2⟩ from hK.heap VB2.out (fun h => h))
        have HK3 := hidden (HK2.out.trans hK (fun _ _ h => h))
        clear hK a0 a1 a2 b0 b1 b2 hz2
        obtain ⟨a0, a1, a2, -⟩ := VA3.out.cells
        obtain ⟨b0, b1, b2, -⟩ := VB3.out.cells
        simp only at a0 a1 a2 b0 b1 b2
        have hz3 := blk_lt VB3.out
        have hy3 := blk_lt VA3.out
        have VX := hidden (show IsVar (w3.alloc (.cells #[.int .i64 2, .int .i64 (nAdd n n2), .string ⟨#[]⟩] 23)) w3.heap.size ⟨2, nAdd n n2, ⟨#[]⟩⟩ from blk_new w3 _)
        have VAn := hidden (blk_alloc VA3.out (.cells #[.int .i64 2, .int .i64 (nAdd n n2), .string ⟨#[]⟩] 23))
        have VBn := hidden (blk_alloc VB3.out (.cells #[.int .i64 2, .int .i64 (nAdd n n2), .string ⟨#[]⟩] 23))
        go_wp2_with fail
        go_region_law (first | (go_simp; go_at_call 28; refine (e1.out _).mono ?_; rintro e W1 ⟨rfl, rfl⟩) | (go_simp; go_at_call 27; refine (d10.out _ _).mono ?_; rintro e w6 ⟨rfl, hK⟩; have VX6 := hidden (show IsVar w6 w3.heap.size ⟨2, nAdd n n2, ⟨#[]⟩⟩ from hK.heap VX.out (fun h => h)); have HK6 := hidden (((HK3.out.alloc _).drewN _).trans hK (fun _ _ h => h)); obtain ⟨x0, x1, x2, -⟩ := VX6.out.cells; simp only at x0 x1 x2; clear hK))
        all_goals go_wp2_with fail
        all_goals go_ret
        all_goals exact hR.out _ _ ⟨(by first | rfl | simp [Act.put]), HK6.out.toNew (fun _ h => h.elim)⟩
      · by_cases B3 : b.k = 3
        · have hf0 : f = 0 := by rw [hf]; split <;> omega
          have hg0 : g = 0 := by rw [hg]; split <;> omega
          subst hf0 hg0
          rw [if_neg (by omega), if_neg (by omega), if_neg (by omega)] at hd
          clear hf hg
          have d11 := hidden (fun (s : ByteArray) W => value_Str s W)
          simp only [V.val] at d11
          obtain ⟨k, n, t⟩ := a
          obtain ⟨k2, n2, t2⟩ := b
          simp only at *
          subst A1
          subst B3
          have c1 := hidden (fun W => value_Add ⟨2, n, t⟩ ⟨3, n2, t2⟩ W ha hb (Nat.le_trans hs1 (by decide)) (Nat.le_trans hs2 (by decide)))
          rw [hd] at c1
          clear hd
          have c2 := hidden (fun W => value_Text ⟨2, n, t⟩ W ha)
          have c3 := hidden (fun W => value_Text ⟨3, n2, t2⟩ W hb)
          rw [hp] at c2
          rw [hq] at c3
          have hs3 := hs1
          have hs4 := hs2
          rw [hp] at hs3
          rw [hq] at hs4
          simp only at hs3 hs4
          have hadd := fun W : World => run_string_add_sum (P := Try.prog) (w := W) s u (by omega)
          have hsum : ¬ (9223372036854775807 < s.size + u.size) := by omega
          have hsum2 : ¬ (s.size + u.size > 9223372036854775807) := by omega
          clear hs1 hs2 hp hq
          unfold V.val at c1
          obtain ⟨va, vb, hK0⟩ := box2 w 2 n 3 n2 t t2
          have VA := hidden va
          have VB := hidden vb
          have HK0 := hidden hK0
          clear va vb hK0
          unfold V.val at *
          go_enter Try.func6, Try.ntmps6
          go_wp2_with fail
          refine (kt.out _).mono ?_
          rintro e w1 ⟨rfl, hK⟩
          have HK1 := hidden ((HK0.out).trans hK (fun _ _ h => h))
          have VA1 := hidden (show IsVar w1 w.heap.size ⟨2, n, t⟩ from hK.heap VA.out (fun h => h))
          have VB1 := hidden (show IsVar w1 (w.heap.size + 1) ⟨3, n2, t2⟩ from hK.heap VB.out (fun h => h))
          obtain ⟨a0, a1, a2, -⟩ := VA1.out.cells
          obtain ⟨b0, b1, b2, -⟩ := VB1.out.cells
          simp only at a0 a1 a2 b0 b1 b2
          clear hK
          go_wp2_with fail
          refine (kr.out _ _ (Vals.lit w1 [⟨2, n, t⟩, ⟨3, n2, t2⟩] _ rfl)).mono ?_
          rintro e w2 ⟨rfl, hK⟩
          have HK2 := hidden ((HK1.out.alloc _).trans hK (fun _ _ h => h))
          have VA2 := hidden (show IsVar w2 w.heap.size ⟨2, n, t⟩ from hK.heap (blk_alloc VA1.out _) (fun h => h))
          have VB2 := hidden (show IsVar w2 (w.heap.size + 1) ⟨3, n2, t2⟩ from hK.heap (blk_alloc VB1.out _) (fun h => h))
          clear hK a0 a1 a2 b0 b1 b2 VA1 VB1 HK1
          obtain ⟨a0, a1, a2, -⟩ := VA2.out.cells
          obtain ⟨b0, b1, b2, -⟩ := VB2.out.cells
          simp only at a0 a1 a2 b0 b1 b2
          have hz2 := blk_lt VB2.out
          go_wp2_with fail
          refine (c1.out _).mono ?_
          rintro e w3 ⟨rfl, hK⟩
          have VA3 := hidden (show IsVar w3 w.heap.size ⟨2, n, t⟩ from hK.heap VA2.out (fun h => h))
          have VB3 := hidden (show IsVar w3 (w.heap.size + 1) ⟨3, n2, t2⟩ from hK.heap VB2.out (fun h => h))
          have HK3 := hidden (HK2.out.trans hK (fun _ _ h => h))
          clear hK a0 a1 a2 b0 b1 b2 hz2
          obtain ⟨a0, a1, a2, -⟩ := VA3.out.cells
          obtain ⟨b0, b1, b2, -⟩ := VB3.out.cells
          simp only at a0 a1 a2 b0 b1 b2
          have hz3 := blk_lt VB3.out
          have hy3 := blk_lt VA3.out
          have VX := hidden (show IsVar (w3.alloc (.cells #[.int .i64 3, .int .i64 0, .string (s ++ u)] 23)) w3.heap.size ⟨3, 0, s ++ u⟩ from blk_new w3 _)
          have VAn := hidden (blk_alloc VA3.out (.cells #[.int .i64 3, .int .i64 0, .string (s ++ u)] 23))
          have VBn := hidden (blk_alloc VB3.out (.cells #[.int .i64 3, .int .i64 0, .string (s ++ u)] 23))
          go_wp2_with fail
          refine (c2.out _).mono ?_
          rintro e w4 ⟨rfl, hK⟩
          have VA4 := hidden (show IsVar w4 w.heap.size ⟨2, n, t⟩ from hK.heap VAn.out (fun h => h))
          have VB4 := hidden (show IsVar w4 (w.heap.size + 1) ⟨3, n2, t2⟩ from hK.heap VBn.out (fun h => h))
          have VX4 := hidden (show IsVar w4 w3.heap.size ⟨3, 0, s ++ u⟩ from hK.heap VX.out (fun h => h))
          have HK4 := hidden ((HK3.out.alloc _).trans hK (fun _ _ h => h))
          clear hK a0 a1 a2 b0 b1 b2
          obtain ⟨a0, a1, a2, -⟩ := VA4.out.cells
          obtain ⟨b0, b1, b2, -⟩ := VB4.out.cells
          simp only at a0 a1 a2 b0 b1 b2
          have hy4 := blk_lt VA4.out
          have hz4 := blk_lt VB4.out
          have hx4 := blk_lt VX4.out
          try clear x0 x1 x2
          obtain ⟨x0, x1, x2, -⟩ := VX4.out.cells
          simp only at x0 x1 x2
          go_wp2_with fail
          refine (c3.out _).mono ?_
          rintro e w5 ⟨rfl, hK⟩
          have VA5 := hidden (show IsVar w5 w.heap.size ⟨2, n, t⟩ from hK.heap VA4.out (fun h => h))
          have VB5 := hidden (show IsVar w5 (w.heap.size + 1) ⟨3, n2, t2⟩ from hK.heap VB4.out (fun h => h))
          have VX5 := hidden (show IsVar w5 w3.heap.size ⟨3, 0, s ++ u⟩ from hK.heap VX4.out (fun h => h))
          have HK5 := hidden (HK4.out.trans hK (fun _ _ h => h))
          clear hK a0 a1 a2 b0 b1 b2
          obtain ⟨a0, a1, a2, -⟩ := VA5.out.cells
          obtain ⟨b0, b1, b2, -⟩ := VB5.out.cells
          simp only at a0 a1 a2 b0 b1 b2
          have hy5 := blk_lt VA5.out
          have hz5 := blk_lt VB5.out
          have hx5 := blk_lt VX5.out
          try clear x0 x1 x2
          obtain ⟨x0, x1, x2, -⟩ := VX5.out.cells
          simp only at x0 x1 x2
          go_wp2_with fail
          go_region_law (go_simp; go_at_call 20; refine (d11.out _ _).mono ?_; rintro e w6 ⟨rfl, hK⟩; have VX6 := hidden (show IsVar w6 w3.heap.size ⟨3, 0, s ++ u⟩ from hK.heap VX5.out (fun h => h)); have HK6 := hidden ((HK5.out.drewN _).trans hK (fun _ _ h => h)); obtain ⟨x0, x1, x2, -⟩ := VX6.out.cells; simp only at x0 x1 x2; clear hK)
          all_goals go_wp2_with fail
          all_goals go_ret
          all_goals exact hR.out _ _ ⟨(by first | rfl | simp [Act.put]), HK6.out.toNew (fun _ h => h.elim)⟩
        · by_cases B4 : b.k = 4
          · have hf0 : f = 0 := by rw [hf]; split <;> omega
            have hg0 : g = 30 := by rw [hg]; split <;> omega
            subst hf0 hg0
            rw [if_neg (by omega), if_pos (by omega)] at hd
            clear hf hg
            have d11 := hidden (fun (s : ByteArray) W => value_Str s W)
            simp only [V.val] at d11
            obtain ⟨k, n, t⟩ := a
            obtain ⟨k2, n2, t2⟩ := b
            simp only at *
            subst A1
            subst B4
            have c1 := hidden (fun W => value_Add ⟨2, n, t⟩ ⟨4, n2, t2⟩ W ha hb (Nat.le_trans hs1 (by decide)) (Nat.le_trans hs2 (by decide)))
            rw [hd] at c1
            clear hd
            have c2 := hidden (fun W => value_Text ⟨2, n, t⟩ W ha)
            have c3 := hidden (fun W => value_Text ⟨4, n2, t2⟩ W hb)
            rw [hp] at c2
            rw [hq] at c3
            have hs3 := hs1
            have hs4 := hs2
            rw [hp] at hs3
            rw [hq] at hs4
            simp only at hs3 hs4
            have hadd := fun W : World => run_string_add_sum (P := Try.prog) (w := W) s u (by omega)
            have hsum : ¬ (9223372036854775807 < s.size + u.size) := by omega
            have hsum2 : ¬ (s.size + u.size > 9223372036854775807) := by omega
            clear hs1 hs2 hp hq
            unfold V.val at c1
            simp only [V.null] at c1
            obtain ⟨va, vb, hK0⟩ := box2 w 2 n 4 n2 t t2
            have VA := hidden va
            have VB := hidden vb
            have HK0 := hidden hK0
            clear va vb hK0
            unfold V.val at *
            go_enter Try.func6, Try.ntmps6
            go_wp2_with fail
            refine (kt.out _).mono ?_
            rintro e w1 ⟨rfl, hK⟩
            have HK1 := hidden ((HK0.out).trans hK (fun _ _ h => h))
            have VA1 := hidden (show IsVar w1 w.heap.size ⟨2, n, t⟩ from hK.heap VA.out (fun h => h))
            have VB1 := hidden (show IsVar w1 (w.heap.size + 1) ⟨4, n2, t2⟩ from hK.heap VB.out (fun h => h))
            obtain ⟨a0, a1, a2, -⟩ := VA1.out.cells
            obtain ⟨b0, b1, b2, -⟩ := VB1.out.cells
            simp only at a0 a1 a2 b0 b1 b2
            clear hK
            go_wp2_with fail
            refine (kr.out _ _ (Vals.lit w1 [⟨2, n, t⟩, ⟨4, n2, t2⟩] _ rfl)).mono ?_
            rintro e w2 ⟨rfl, hK⟩
            have HK2 := hidden ((HK1.out.alloc _).trans hK (fun _ _ h => h))
            have VA2 := hidden (show IsVar w2 w.heap.size ⟨2, n, t⟩ from hK.heap (blk_alloc VA1.out _) (fun h => h))
            have VB2 := hidden (show IsVar w2 (w.heap.size + 1) ⟨4, n2, t2⟩ from hK.heap (blk_alloc VB1.out _) (fun h => h))
            clear hK a0 a1 a2 b0 b1 b2 VA1 VB1 HK1
            obtain ⟨a0, a1, a2, -⟩ := VA2.out.cells
            obtain ⟨b0, b1, b2, -⟩ := VB2.out.cells
            simp only at a0 a1 a2 b0 b1 b2
            have hz2 := blk_lt VB2.out
            go_wp2_with fail
            refine (c1.out _).mono ?_
            rintro e w3 ⟨rfl, hK⟩
            have VA3 := hidden (show IsVar w3 w.heap.size ⟨2, n, t⟩ from hK.heap VA2.out (fun h => h))
            have VB3 := hidden (show IsVar w3 (w.heap.size + 1) ⟨4, n2, t2⟩ from hK.heap VB2.out (fun h => h))
            have HK3 := hidden (HK2.out.trans hK (fun _ _ h => h))
            clear hK a0 a1 a2 b0 b1 b2 hz2
            obtain ⟨a0, a1, a2, -⟩ := VA3.out.cells
            obtain ⟨b0, b1, b2, -⟩ := VB3.out.cells
            simp only at a0 a1 a2 b0 b1 b2
            have hz3 := blk_lt VB3.out
            have hy3 := blk_lt VA3.out
            have VX := hidden (show IsVar (w3.alloc (.cells #[.int .i64 0, .int .i64 0, .string ⟨#[]⟩] 23)) w3.heap.size ⟨0, 0, ⟨#[]⟩⟩ from blk_new w3 _)
            have VAn := hidden (blk_alloc VA3.out (.cells #[.int .i64 0, .int .i64 0, .string ⟨#[]⟩] 23))
            have VBn := hidden (blk_alloc VB3.out (.cells #[.int .i64 0, .int .i64 0, .string ⟨#[]⟩] 23))
            go_wp2_with fail
            refine (c2.out _).mono ?_
            rintro e w4 ⟨rfl, hK⟩
            have VA4 := hidden (show IsVar w4 w.heap.size ⟨2, n, t⟩ from hK.heap VAn.out (fun h => h))
            have VB4 := hidden (show IsVar w4 (w.heap.size + 1) ⟨4, n2, t2⟩ from hK.heap VBn.out (fun h => h))
            have VX4 := hidden (show IsVar w4 w3.heap.size ⟨0, 0, ⟨#[]⟩⟩ from hK.heap VX.out (fun h => h))
            have HK4 := hidden ((HK3.out.alloc _).trans hK (fun _ _ h => h))
            clear hK a0 a1 a2 b0 b1 b2
            obtain ⟨a0, a1, a2, -⟩ := VA4.out.cells
            obtain ⟨b0, b1, b2, -⟩ := VB4.out.cells
            simp only at a0 a1 a2 b0 b1 b2
            have hy4 := blk_lt VA4.out
            have hz4 := blk_lt VB4.out
            have hx4 := blk_lt VX4.out
            try clear x0 x1 x2
            obtain ⟨x0, x1, x2, -⟩ := VX4.out.cells
            simp only at x0 x1 x2
            go_wp2_with fail
            refine (c3.out _).mono ?_
            rintro e w5 ⟨rfl, hK⟩
            have VA5 := hidden (show IsVar w5 w.heap.size ⟨2, n, t⟩ from hK.heap VA4.out (fun h => h))
            have VB5 := hidden (show IsVar w5 (w.heap.size + 1) ⟨4, n2, t2⟩ from hK.heap VB4.out (fun h => h))
            have VX5 := hidden (show IsVar w5 w3.heap.size ⟨0, 0, ⟨#[]⟩⟩ from hK.heap VX4.out (fun h => h))
            have HK5 := hidden (HK4.out.trans hK (fun _ _ h => h))
            clear hK a0 a1 a2 b0 b1 b2
            obtain ⟨a0, a1, a2, -⟩ := VA5.out.cells
            obtain ⟨b0, b1, b2, -⟩ := VB5.out.cells
            simp only at a0 a1 a2 b0 b1 b2
            have hy5 := blk_lt VA5.out
            have hz5 := blk_lt VB5.out
            have hx5 := blk_lt VX5.out
            try clear x0 x1 x2
            obtain ⟨x0, x1, x2, -⟩ := VX5.out.cells
            simp only at x0 x1 x2
            go_wp2_with fail
            exact hR.out _ _ ⟨rfl, HK5.out.toNew (fun _ h => h.elim)⟩
          · have hf0 : f = 0 := by rw [hf]; split <;> omega
            have hg0 : g = 0 := by rw [hg]; split <;> omega
            subst hf0 hg0
            rw [if_neg (by omega), if_pos (by omega)] at hd
            clear hf hg
            have d11 := hidden (fun (s : ByteArray) W => value_Str s W)
            simp only [V.val] at d11
            obtain ⟨k, n, t⟩ := a
            obtain ⟨k2, n2, t2⟩ := b
            simp only at *
            subst A1
            have j2 : (k2 == 2) = false := by simpa using (show ¬ k2 = 2 by omega)
            have jn2 : (k2 != 2) = true := by simpa using (show ¬ k2 = 2 by omega)
            have j3 : (k2 == 3) = false := by simpa using (show ¬ k2 = 3 by omega)
            have jn3 : (k2 != 3) = true := by simpa using (show ¬ k2 = 3 by omega)
            have c1 := hidden (fun W => value_Add ⟨2, n, t⟩ ⟨k2, n2, t2⟩ W ha hb (Nat.le_trans hs1 (by decide)) (Nat.le_trans hs2 (by decide)))
            rw [hd] at c1
            clear hd
            have c2 := hidden (fun W => value_Text ⟨2, n, t⟩ W ha)
            have c3 := hidden (fun W => value_Text ⟨k2, n2, t2⟩ W hb)
            rw [hp] at c2
            rw [hq] at c3
            have hs3 := hs1
            have hs4 := hs2
            rw [hp] at hs3
            rw [hq] at hs4
            simp only at hs3 hs4
            have hadd := fun W : World => run_string_add_sum (P := Try.prog) (w := W) s u (by omega)
            have hsum : ¬ (9223372036854775807 < s.size + u.size) := by omega
            have hsum2 : ¬ (s.size + u.size > 9223372036854775807) := by omega
            clear hs1 hs2 hp hq
            unfold V.val at c1
            simp only [V.null] at c1
            obtain ⟨va, vb, hK0⟩ := box2 w 2 n k2 n2 t t2
            have VA := hidden va
            have VB := hidden vb
            have HK0 := hidden hK0
            clear va vb hK0
            unfold V.val at *
            go_enter Try.func6, Try.ntmps6
            go_wp2_with fail
            refine (kt.out _).mono ?_
            rintro e w1 ⟨rfl, hK⟩
            have HK1 := hidden ((HK0.out).trans hK (fun _ _ h => h))
            have VA1 := hidden (show IsVar w1 w.heap.size ⟨2, n, t⟩ from hK.heap VA.out (fun h => h))
            have VB1 := hidden (show IsVar w1 (w.heap.size + 1) ⟨k2, n2, t2⟩ from hK.heap VB.out (fun h => h))
            obtain ⟨a0, a1, a2, -⟩ := VA1.out.cells
            obtain ⟨b0, b1, b2, -⟩ := VB1.out.cells
            simp only at a0 a1 a2 b0 b1 b2
            clear hK
            go_wp2_with fail
            refine (kr.out _ _ (Vals.lit w1 [⟨2, n, t⟩, ⟨k2, n2, t2⟩] _ rfl)).mono ?_
            rintro e w2 ⟨rfl, hK⟩
            have HK2 := hidden ((HK1.out.alloc _).trans hK (fun _ _ h => h))
            have VA2 := hidden (show IsVar w2 w.heap.size ⟨2, n, t⟩ from hK.heap (blk_alloc VA1.out _) (fun h => h))
            have VB2 := hidden (show IsVar w2 (w.heap.size + 1) ⟨k2, n2, t2⟩ from hK.heap (blk_alloc VB1.out _) (fun h => h))
            clear hK a0 a1 a2 b0 b1 b2 VA1 VB1 HK1
            obtain ⟨a0, a1, a2, -⟩ := VA2.out.cells
            obtain ⟨b0, b1, b2, -⟩ := VB2.out.cells
            simp only at a0 a1 a2 b0 b1 b2
            have hz2 := blk_lt VB2.out
            go_wp2_with fail
            refine (c1.out _).mono ?_
            rintro e w3 ⟨rfl, hK⟩
            have VA3 := hidden (show IsVar w3 w.heap.size ⟨2, n, t⟩ from hK.heap VA2.out (fun h => h))
            have VB3 := hidden (show IsVar w3 (w.heap.size + 1) ⟨k2, n2, t2⟩ from hK.heap VB2.out (fun h => h))
            have HK3 := hidden (HK2.out.trans hK (fun _ _ h => h))
            clear hK a0 a1 a2 b0 b1 b2 hz2
            obtain ⟨a0, a1, a2, -⟩ := VA3.out.cells
            obtain ⟨b0, b1, b2, -⟩ := VB3.out.cells
            simp only at a0 a1 a2 b0 b1 b2
            have hz3 := blk_lt VB3.out
            have hy3 := blk_lt VA3.out
            have VX := hidden (show IsVar (w3.alloc (.cells #[.int .i64 0, .int .i64 0, .string ⟨#[]⟩] 23)) w3.heap.size ⟨0, 0, ⟨#[]⟩⟩ from blk_new w3 _)
            have VAn := hidden (blk_alloc VA3.out (.cells #[.int .i64 0, .int .i64 0, .string ⟨#[]⟩] 23))
            have VBn := hidden (blk_alloc VB3.out (.cells #[.int .i64 0, .int .i64 0, .string ⟨#[]⟩] 23))
            go_wp2_with fail
            refine (c2.out _).mono ?_
            rintro e w4 ⟨rfl, hK⟩
            have VA4 := hidden (show IsVar w4 w.heap.size ⟨2, n, t⟩ from hK.heap VAn.out (fun h => h))
            have VB4 := hidden (show IsVar w4 (w.heap.size + 1) ⟨k2, n2, t2⟩ from hK.heap VBn.out (fun h => h))
            have VX4 := hidden (show IsVar w4 w3.heap.size ⟨0, 0, ⟨#[]⟩⟩ from hK.heap VX.out (fun h => h))
            have HK4 := hidden ((HK3.out.alloc _).trans hK (fun _ _ h => h))
            clear hK a0 a1 a2 b0 b1 b2
            obtain ⟨a0, a1, a2, -⟩ := VA4.out.cells
            obtain ⟨b0, b1, b2, -⟩ := VB4.out.cells
            simp only at a0 a1 a2 b0 b1 b2
            have hy4 := blk_lt VA4.out
            have hz4 := blk_lt VB4.out
            have hx4 := blk_lt VX4.out
            try clear x0 x1 x2
            obtain ⟨x0, x1, x2, -⟩ := VX4.out.cells
            simp only at x0 x1 x2
            go_wp2_with fail
            refine (c3.out _).mono ?_
            rintro e w5 ⟨rfl, hK⟩
            have VA5 := hidden (show IsVar w5 w.heap.size ⟨2, n, t⟩ from hK.heap VA4.out (fun h => h))
            have VB5 := hidden (show IsVar w5 (w.heap.size + 1) ⟨k2, n2, t2⟩ from hK.heap VB4.out (fun h => h))
            have VX5 := hidden (show IsVar w5 w3.heap.size ⟨0, 0, ⟨#[]⟩⟩ from hK.heap VX4.out (fun h => h))
            have HK5 := hidden (HK4.out.trans hK (fun _ _ h => h))
            clear hK a0 a1 a2 b0 b1 b2
            obtain ⟨a0, a1, a2, -⟩ := VA5.out.cells
            obtain ⟨b0, b1, b2, -⟩ := VB5.out.cells
            simp only at a0 a1 a2 b0 b1 b2
            have hy5 := blk_lt VA5.out
            have hz5 := blk_lt VB5.out
            have hx5 := blk_lt VX5.out
            try clear x0 x1 x2
            obtain ⟨x0, x1, x2, -⟩ := VX5.out.cells
            simp only at x0 x1 x2
            go_wp2_with fail
            exact hR.out _ _ ⟨rfl, HK5.out.toNew (fun _ h => h.elim)⟩
    · by_cases A3 : a.k = 3
      · by_cases B4 : b.k = 4
        · have hf0 : f = 0 := by rw [hf]; split <;> omega
          have hg0 : g = 30 := by rw [hg]; split <;> omega
          subst hf0 hg0
          rw [if_neg (by omega), if_neg (by omega), if_pos (by omega)] at hd
          clear hf hg
          have d11 := hidden (fun (s : ByteArray) W => value_Str s W)
          simp only [V.val] at d11
          obtain ⟨k, n, t⟩ := a
          obtain ⟨k2, n2, t2⟩ := b
          simp only at *
          subst A3
          subst B4
          have c1 := hidden (fun W => value_Add ⟨3, n, t⟩ ⟨4, n2, t2⟩ W ha hb (Nat.le_trans hs1 (by decide)) (Nat.le_trans hs2 (by decide)))
          rw [hd] at c1
          clear hd
          have c2 := hidden (fun W => value_Text ⟨3, n, t⟩ W ha)
          have c3 := hidden (fun W => value_Text ⟨4, n2, t2⟩ W hb)
          rw [hp] at c2
          rw [hq] at c3
          have hs3 := hs1
          have hs4 := hs2
          rw [hp] at hs3
          rw [hq] at hs4
          simp only at hs3 hs4
          have hadd := fun W : World => run_string_add_sum (P := Try.prog) (w := W) s u (by omega)
          have hsum : ¬ (9223372036854775807 < s.size + u.size) := by omega
          have hsum2 : ¬ (s.size + u.size > 9223372036854775807) := by omega
          clear hs1 hs2 hp hq
          unfold V.val at c1
          simp only [V.null] at c1
          obtain ⟨va, vb, hK0⟩ := box2 w 3 n 4 n2 t t2
          have VA := hidden va
          have VB := hidden vb
          have HK0 := hidden hK0
          clear va vb hK0
          unfold V.val at *
          go_enter Try.func6, Try.ntmps6
          go_wp2_with fail
          refine (kt.out _).mono ?_
          rintro e w1 ⟨rfl, hK⟩
          have HK1 := hidden ((HK0.out).trans hK (fun _ _ h => h))
          have VA1 := hidden (show IsVar w1 w.heap.size ⟨3, n, t⟩ from hK.heap VA.out (fun h => h))
          have VB1 := hidden (show IsVar w1 (w.heap.size + 1) ⟨4, n2, t2⟩ from hK.heap VB.out (fun h => h))
          obtain ⟨a0, a1, a2, -⟩ := VA1.out.cells
          obtain ⟨b0, b1, b2, -⟩ := VB1.out.cells
          simp only at a0 a1 a2 b0 b1 b2
          clear hK
          go_wp2_with fail
          refine (kr.out _ _ (Vals.lit w1 [⟨3, n, t⟩, ⟨4, n2, t2⟩] _ rfl)).mono ?_
          rintro e w2 ⟨rfl, hK⟩
          have HK2 := hidden ((HK1.out.alloc _).trans hK (fun _ _ h => h))
          have VA2 := hidden (show IsVar w2 w.heap.size ⟨3, n, t⟩ from hK.heap (blk_alloc VA1.out _) (fun h => h))
          have VB2 := hidden (show IsVar w2 (w.heap.size + 1) ⟨4, n2, t2⟩ from hK.heap (blk_alloc VB1.out _) (fun h => h))
          clear hK a0 a1 a2 b0 b1 b2 VA1 VB1 HK1
          obtain ⟨a0, a1, a2, -⟩ := VA2.out.cells
          obtain ⟨b0, b1, b2, -⟩ := VB2.out.cells
          simp only at a0 a1 a2 b0 b1 b2
          have hz2 := blk_lt VB2.out
          go_wp2_with fail
          refine (c1.out _).mono ?_
          rintro e w3 ⟨rfl, hK⟩
          have VA3 := hidden (show IsVar w3 w.heap.size ⟨3, n, t⟩ from hK.heap VA2.out (fun h => h))
          have VB3 := hidden (show IsVar w3 (w.heap.size + 1) ⟨4, n2, t2⟩ from hK.heap VB2.out (fun h => h))
          have HK3 := hidden (HK2.out.trans hK (fun _ _ h => h))
          clear hK a0 a1 a2 b0 b1 b2 hz2
          obtain ⟨a0, a1, a2, -⟩ := VA3.out.cells
          obtain ⟨b0, b1, b2, -⟩ := VB3.out.cells
          simp only at a0 a1 a2 b0 b1 b2
          have hz3 := blk_lt VB3.out
          have hy3 := blk_lt VA3.out
          have VX := hidden (show IsVar (w3.alloc (.cells #[.int .i64 0, .int .i64 0, .string ⟨#[]⟩] 23)) w3.heap.size ⟨0, 0, ⟨#[]⟩⟩ from blk_new w3 _)
          have VAn := hidden (blk_alloc VA3.out (.cells #[.int .i64 0, .int .i64 0, .string ⟨#[]⟩] 23))
          have VBn := hidden (blk_alloc VB3.out (.cells #[.int .i64 0, .int .i64 0, .string ⟨#[]⟩] 23))
          go_wp2_with fail
          refine (c2.out _).mono ?_
          rintro e w4 ⟨rfl, hK⟩
          have VA4 := hidden (show IsVar w4 w.heap.size ⟨3, n, t⟩ from hK.heap VAn.out (fun h => h))
          have VB4 := hidden (show IsVar w4 (w.heap.size + 1) ⟨4, n2, t2⟩ from hK.heap VBn.out (fun h => h))
          have VX4 := hidden (show IsVar w4 w3.heap.size ⟨0, 0, ⟨#[]⟩⟩ from hK.heap VX.out (fun h => h))
          have HK4 := hidden ((HK3.out.alloc _).trans hK (fun _ _ h => h))
          clear hK a0 a1 a2 b0 b1 b2
          obtain ⟨a0, a1, a2, -⟩ := VA4.out.cells
          obtain ⟨b0, b1, b2, -⟩ := VB4.out.cells
          simp only at a0 a1 a2 b0 b1 b2
          have hy4 := blk_lt VA4.out
          have hz4 := blk_lt VB4.out
          have hx4 := blk_lt VX4.out
          try clear x0 x1 x2
          obtain ⟨x0, x1, x2, -⟩ := VX4.out.cells
          simp only at x0 x1 x2
          go_wp2_with fail
          refine (c3.out _).mono ?_
          rintro e w5 ⟨rfl, hK⟩
          have VA5 := hidden (show IsVar w5 w.heap.size ⟨3, n, t⟩ from hK.heap VA4.out (fun h => h))
          have VB5 := hidden (show IsVar w5 (w.heap.size + 1) ⟨4, n2, t2⟩ from hK.heap VB4.out (fun h => h))
          have VX5 := hidden (show IsVar w5 w3.heap.size ⟨0, 0, ⟨#[]⟩⟩ from hK.heap VX4.out (fun h => h))
          have HK5 := hidden (HK4.out.trans hK (fun _ _ h => h))
          clear hK a0 a1 a2 b0 b1 b2
          obtain ⟨a0, a1, a2, -⟩ := VA5.out.cells
          obtain ⟨b0, b1, b2, -⟩ := VB5.out.cells
          simp only at a0 a1 a2 b0 b1 b2
          have hy5 := blk_lt VA5.out
          have hz5 := blk_lt VB5.out
          have hx5 := blk_lt VX5.out
          try clear x0 x1 x2
          obtain ⟨x0, x1, x2, -⟩ := VX5.out.cells
          simp only at x0 x1 x2
          go_wp2_with fail
          exact hR.out _ _ ⟨rfl, HK5.out.toNew (fun _ h => h.elim)⟩
        · have hf0 : f = 0 := by rw [hf]; split <;> omega
          have hg0 : g = 0 := by rw [hg]; split <;> omega
          subst hf0 hg0
          rw [if_neg (by omega), if_neg (by omega), if_neg (by omega)] at hd
          clear hf hg
          have d11 := hidden (fun (s : ByteArray) W => value_Str s W)
          simp only [V.val] at d11
          obtain ⟨k, n, t⟩ := a
          obtain ⟨k2, n2, t2⟩ := b
          simp only at *
          subst A3
          have c1 := hidden (fun W => value_Add ⟨3, n, t⟩ ⟨k2, n2, t2⟩ W ha hb (Nat.le_trans hs1 (by decide)) (Nat.le_trans hs2 (by decide)))
          rw [hd] at c1
          clear hd
          have c2 := hidden (fun W => value_Text ⟨3, n, t⟩ W ha)
          have c3 := hidden (fun W => value_Text ⟨k2, n2, t2⟩ W hb)
          rw [hp] at c2
          rw [hq] at c3
          have hs3 := hs1
          have hs4 := hs2
          rw [hp] at hs3
          rw [hq] at hs4
          simp only at hs3 hs4
          have hadd := fun W : World => run_string_add_sum (P := Try.prog) (w := W) s u (by omega)
          have hsum : ¬ (9223372036854775807 < s.size + u.size) := by omega
          have hsum2 : ¬ (s.size + u.size > 9223372036854775807) := by omega
          clear hs1 hs2 hp hq
          unfold V.val at c1
          obtain ⟨va, vb, hK0⟩ := box2 w 3 n k2 n2 t t2
          have VA := hidden va
          have VB := hidden vb
          have HK0 := hidden hK0
          clear va vb hK0
          unfold V.val at *
          go_enter Try.func6, Try.ntmps6
          go_wp2_with fail
          refine (kt.out _).mono ?_
          rintro e w1 ⟨rfl, hK⟩
          have HK1 := hidden ((HK0.out).trans hK (fun _ _ h => h))
          have VA1 := hidden (show IsVar w1 w.heap.size ⟨3, n, t⟩ from hK.heap VA.out (fun h => h))
          have VB1 := hidden (show IsVar w1 (w.heap.size + 1) ⟨k2, n2, t2⟩ from hK.heap VB.out (fun h => h))
          obtain ⟨a0, a1, a2, -⟩ := VA1.out.cells
          obtain ⟨b0, b1, b2, -⟩ := VB1.out.cells
          simp only at a0 a1 a2 b0 b1 b2
          clear hK
          go_wp2_with fail
          refine (kr.out _ _ (Vals.lit w1 [⟨3, n, t⟩, ⟨k2, n2, t2⟩] _ rfl)).mono ?_
          rintro e w2 ⟨rfl, hK⟩
          have HK2 := hidden ((HK1.out.alloc _).trans hK (fun _ _ h => h))
          have VA2 := hidden (show IsVar w2 w.heap.size ⟨3, n, t⟩ from hK.heap (blk_alloc VA1.out _) (fun h => h))
          have VB2 := hidden (show IsVar w2 (w.heap.size + 1) ⟨k2, n2, t2⟩ from hK.heap (blk_alloc VB1.out _) (fun h => h))
          clear hK a0 a1 a2 b0 b1 b2 VA1 VB1 HK1
          obtain ⟨a0, a1, a2, -⟩ := VA2.out.cells
          obtain ⟨b0, b1, b2, -⟩ := VB2.out.cells
          simp only at a0 a1 a2 b0 b1 b2
          have hz2 := blk_lt VB2.out
          go_wp2_with fail
          refine (c1.out _).mono ?_
          rintro e w3 ⟨rfl, hK⟩
          have VA3 := hidden (show IsVar w3 w.heap.size ⟨3, n, t⟩ from hK.heap VA2.out (fun h => h))
          have VB3 := hidden (show IsVar w3 (w.heap.size + 1) ⟨k2, n2, t2⟩ from hK.heap VB2.out (fun h => h))
          have HK3 := hidden (HK2.out.trans hK (fun _ _ h => h))
          clear hK a0 a1 a2 b0 b1 b2 hz2
          obtain ⟨a0, a1, a2, -⟩ := VA3.out.cells
          obtain ⟨b0, b1, b2, -⟩ := VB3.out.cells
          simp only at a0 a1 a2 b0 b1 b2
          have hz3 := blk_lt VB3.out
          have hy3 := blk_lt VA3.out
          have VX := hidden (show IsVar (w3.alloc (.cells #[.int .i64 3, .int .i64 0, .string (s ++ u)] 23)) w3.heap.size ⟨3, 0, s ++ u⟩ from blk_new w3 _)
          have VAn := hidden (blk_alloc VA3.out (.cells #[.int .i64 3, .int .i64 0, .string (s ++ u)] 23))
          have VBn := hidden (blk_alloc VB3.out (.cells #[.int .i64 3, .int .i64 0, .string (s ++ u)] 23))
          go_wp2_with fail
          refine (c2.out _).mono ?_
          rintro e w4 ⟨rfl, hK⟩
          have VA4 := hidden (show IsVar w4 w.heap.size ⟨3, n, t⟩ from hK.heap VAn.out (fun h => h))
          have VB4 := hidden (show IsVar w4 (w.heap.size + 1) ⟨k2, n2, t2⟩ from hK.heap VBn.out (fun h => h))
          have VX4 := hidden (show IsVar w4 w3.heap.size ⟨3, 0, s ++ u⟩ from hK.heap VX.out (fun h => h))
          have HK4 := hidden ((HK3.out.alloc _).trans hK (fun _ _ h => h))
          clear hK a0 a1 a2 b0 b1 b2
          obtain ⟨a0, a1, a2, -⟩ := VA4.out.cells
          obtain ⟨b0, b1, b2, -⟩ := VB4.out.cells
          simp only at a0 a1 a2 b0 b1 b2
          have hy4 := blk_lt VA4.out
          have hz4 := blk_lt VB4.out
          have hx4 := blk_lt VX4.out
          try clear x0 x1 x2
          obtain ⟨x0, x1, x2, -⟩ := VX4.out.cells
          simp only at x0 x1 x2
          go_wp2_with fail
          refine (c3.out _).mono ?_
          rintro e w5 ⟨rfl, hK⟩
          have VA5 := hidden (show IsVar w5 w.heap.size ⟨3, n, t⟩ from hK.heap VA4.out (fun h => h))
          have VB5 := hidden (show IsVar w5 (w.heap.size + 1) ⟨k2, n2, t2⟩ from hK.heap VB4.out (fun h => h))
          have VX5 := hidden (show IsVar w5 w3.heap.size ⟨3, 0, s ++ u⟩ from hK.heap VX4.out (fun h => h))
          have HK5 := hidden (HK4.out.trans hK (fun _ _ h => h))
          clear hK a0 a1 a2 b0 b1 b2
          obtain ⟨a0, a1, a2, -⟩ := VA5.out.cells
          obtain ⟨b0, b1, b2, -⟩ := VB5.out.cells
          simp only at a0 a1 a2 b0 b1 b2
          have hy5 := blk_lt VA5.out
          have hz5 := blk_lt VB5.out
          have hx5 := blk_lt VX5.out
          try clear x0 x1 x2
          obtain ⟨x0, x1, x2, -⟩ := VX5.out.cells
          simp only at x0 x1 x2
          go_wp2_with fail
          go_region_law (go_simp; go_at_call 20; refine (d11.out _ _).mono ?_; rintro e w6 ⟨rfl, hK⟩; have VX6 := hidden (show IsVar w6 w3.heap.size ⟨3, 0, s ++ u⟩ from hK.heap VX5.out (fun h => h)); have HK6 := hidden ((HK5.out.drewN _).trans hK (fun _ _ h => h)); obtain ⟨x0, x1, x2, -⟩ := VX6.out.cells; simp only at x0 x1 x2; clear hK)
          all_goals go_wp2_with fail
          all_goals go_ret
          all_goals exact hR.out _ _ ⟨(by first | rfl | simp [Act.put]), HK6.out.toNew (fun _ h => h.elim)⟩
      · by_cases B3 : b.k = 3
        · by_cases A4 : a.k = 4
          · have hf0 : f = 30 := by rw [hf]; split <;> omega
            have hg0 : g = 0 := by rw [hg]; split <;> omega
            subst hf0 hg0
            rw [if_neg (by omega), if_neg (by omega), if_pos (by omega)] at hd
            clear hf hg
            have d11 := hidden (fun (s : ByteArray) W => value_Str s W)
            simp only [V.val] at d11
            obtain ⟨k, n, t⟩ := a
            obtain ⟨k2, n2, t2⟩ := b
            simp only at *
            subst A4
            subst B3
            have c1 := hidden (fun W => value_Add ⟨4, n, t⟩ ⟨3, n2, t2⟩ W ha hb (Nat.le_trans hs1 (by decide)) (Nat.le_trans hs2 (by decide)))
            rw [hd] at c1
            clear hd
            have c2 := hidden (fun W => value_Text ⟨4, n, t⟩ W ha)
            have c3 := hidden (fun W => value_Text ⟨3, n2, t2⟩ W hb)
            rw [hp] at c2
            rw [hq] at c3
            have hs3 := hs1
            have hs4 := hs2
            rw [hp] at hs3
            rw [hq] at hs4
            simp only at hs3 hs4
            have hadd := fun W : World => run_string_add_sum (P := Try.prog) (w := W) s u (by omega)
            have hsum : ¬ (9223372036854775807 < s.size + u.size) := by omega
            have hsum2 : ¬ (s.size + u.size > 9223372036854775807) := by omega
            clear hs1 hs2 hp hq
            unfold V.val at c1
            simp only [V.null] at c1
            obtain ⟨va, vb, hK0⟩ := box2 w 4 n 3 n2 t t2
            have VA := hidden va
            have VB := hidden vb
            have HK0 := hidden hK0
            clear va vb hK0
            unfold V.val at *
            go_enter Try.func6, Try.ntmps6
            go_wp2_with fail
            refine (kt.out _).mono ?_
            rintro e w1 ⟨rfl, hK⟩
            have HK1 := hidden ((HK0.out).trans hK (fun _ _ h => h))
            have VA1 := hidden (show IsVar w1 w.heap.size ⟨4, n, t⟩ from hK.heap VA.out (fun h => h))
            have VB1 := hidden (show IsVar w1 (w.heap.size + 1) ⟨3, n2, t2⟩ from hK.heap VB.out (fun h => h))
            obtain ⟨a0, a1, a2, -⟩ := VA1.out.cells
            obtain ⟨b0, b1, b2, -⟩ := VB1.out.cells
            simp only at a0 a1 a2 b0 b1 b2
            clear hK
            go_wp2_with fail
            refine (kr.out _ _ (Vals.lit w1 [⟨4, n, t⟩, ⟨3, n2, t2⟩] _ rfl)).mono ?_
            rintro e w2 ⟨rfl, hK⟩
            have HK2 := hidden ((HK1.out.alloc _).trans hK (fun _ _ h => h))
            have VA2 := hidden (show IsVar w2 w.heap.size ⟨4, n, t⟩ from hK.heap (blk_alloc VA1.out _) (fun h => h))
            have VB2 := hidden (show IsVar w2 (w.heap.size + 1) ⟨3, n2, t2⟩ from hK.heap (blk_alloc VB1.out _) (fun h => h))
            clear hK a0 a1 a2 b0 b1 b2 VA1 VB1 HK1
            obtain ⟨a0, a1, a2, -⟩ := VA2.out.cells
            obtain ⟨b0, b1, b2, -⟩ := VB2.out.cells
            simp only at a0 a1 a2 b0 b1 b2
            have hz2 := blk_lt VB2.out
            go_wp2_with fail
            refine (c1.out _).mono ?_
            rintro e w3 ⟨rfl, hK⟩
            have VA3 := hidden (show IsVar w3 w.heap.size ⟨4, n, t⟩ from hK.heap VA2.out (fun h => h))
            have VB3 := hidden (show IsVar w3 (w.heap.size + 1) ⟨3, n2, t2⟩ from hK.heap VB2.out (fun h => h))
            have HK3 := hidden (HK2.out.trans hK (fun _ _ h => h))
            clear hK a0 a1 a2 b0 b1 b2 hz2
            obtain ⟨a0, a1, a2, -⟩ := VA3.out.cells
            obtain ⟨b0, b1, b2, -⟩ := VB3.out.cells
            simp only at a0 a1 a2 b0 b1 b2
            have hz3 := blk_lt VB3.out
            have hy3 := blk_lt VA3.out
            have VX := hidden (show IsVar (w3.alloc (.cells #[.int .i64 0, .int .i64 0, .string ⟨#[]⟩] 23)) w3.heap.size ⟨0, 0, ⟨#[]⟩⟩ from blk_new w3 _)
            have VAn := hidden (blk_alloc VA3.out (.cells #[.int .i64 0, .int .i64 0, .string ⟨#[]⟩] 23))
            have VBn := hidden (blk_alloc VB3.out (.cells #[.int .i64 0, .int .i64 0, .string ⟨#[]⟩] 23))
            go_wp2_with fail
            refine (c2.out _).mono ?_
            rintro e w4 ⟨rfl, hK⟩
            have VA4 := hidden (show IsVar w4 w.heap.size ⟨4, n, t⟩ from hK.heap VAn.out (fun h => h))
            have VB4 := hidden (show IsVar w4 (w.heap.size + 1) ⟨3, n2, t2⟩ from hK.heap VBn.out (fun h => h))
            have VX4 := hidden (show IsVar w4 w3.heap.size ⟨0, 0, ⟨#[]⟩⟩ from hK.heap VX.out (fun h => h))
            have HK4 := hidden ((HK3.out.alloc _).trans hK (fun _ _ h => h))
            clear hK a0 a1 a2 b0 b1 b2
            obtain ⟨a0, a1, a2, -⟩ := VA4.out.cells
            obtain ⟨b0, b1, b2, -⟩ := VB4.out.cells
            simp only at a0 a1 a2 b0 b1 b2
            have hy4 := blk_lt VA4.out
            have hz4 := blk_lt VB4.out
            have hx4 := blk_lt VX4.out
            try clear x0 x1 x2
            obtain ⟨x0, x1, x2, -⟩ := VX4.out.cells
            simp only at x0 x1 x2
            go_wp2_with fail
            refine (c3.out _).mono ?_
            rintro e w5 ⟨rfl, hK⟩
            have VA5 := hidden (show IsVar w5 w.heap.size ⟨4, n, t⟩ from hK.heap VA4.out (fun h => h))
            have VB5 := hidden (show IsVar w5 (w.heap.size + 1) ⟨3, n2, t2⟩ from hK.heap VB4.out (fun h => h))
            have VX5 := hidden (show IsVar w5 w3.heap.size ⟨0, 0, ⟨#[]⟩⟩ from hK.heap VX4.out (fun h => h))
            have HK5 := hidden (HK4.out.trans hK (fun _ _ h => h))
            clear hK a0 a1 a2 b0 b1 b2
            obtain ⟨a0, a1, a2, -⟩ := VA5.out.cells
            obtain ⟨b0, b1, b2, -⟩ := VB5.out.cells
            simp only at a0 a1 a2 b0 b1 b2
            have hy5 := blk_lt VA5.out
            have hz5 := blk_lt VB5.out
            have hx5 := blk_lt VX5.out
            try clear x0 x1 x2
            obtain ⟨x0, x1, x2, -⟩ := VX5.out.cells
            simp only at x0 x1 x2
            go_wp2_with fail
            exact hR.out _ _ ⟨rfl, HK5.out.toNew (fun _ h => h.elim)⟩
          · have hf0 : f = 0 := by rw [hf]; split <;> omega
            have hg0 : g = 0 := by rw [hg]; split <;> omega
            subst hf0 hg0
            rw [if_neg (by omega), if_neg (by omega), if_neg (by omega)] at hd
            clear hf hg
            have d11 := hidden (fun (s : ByteArray) W => value_Str s W)
            simp only [V.val] at d11
            obtain ⟨k, n, t⟩ := a
            obtain ⟨k2, n2, t2⟩ := b
            simp only at *
            subst B3
            have i2 : (k == 2) = false := by simpa using (show ¬ k = 2 by omega)
            have in2 : (k != 2) = true := by simpa using (show ¬ k = 2 by omega)
            have i3 : (k == 3) = false := by simpa using (show ¬ k = 3 by omega)
            have in3 : (k != 3) = true := by simpa using (show ¬ k = 3 by omega)
            have c1 := hidden (fun W => value_Add ⟨k, n, t⟩ ⟨3, n2, t2⟩ W ha hb (Nat.le_trans hs1 (by decide)) (Nat.le_trans hs2 (by decide)))
            rw [hd] at c1
            clear hd
            have c2 := hidden (fun W => value_Text ⟨k, n, t⟩ W ha)
            have c3 := hidden (fun W => value_Text ⟨3, n2, t2⟩ W hb)
            rw [hp] at c2
            rw [hq] at c3
            have hs3 := hs1
            have hs4 := hs2
            rw [hp] at hs3
            rw [hq] at hs4
            simp only at hs3 hs4
            have hadd := fun W : World => run_string_add_sum (P := Try.prog) (w := W) s u (by omega)
            have hsum : ¬ (9223372036854775807 < s.size + u.size) := by omega
            have hsum2 : ¬ (s.size + u.size > 9223372036854775807) := by omega
            clear hs1 hs2 hp hq
            unfold V.val at c1
            obtain ⟨va, vb, hK0⟩ := box2 w k n 3 n2 t t2
            have VA := hidden va
            have VB := hidden vb
            have HK0 := hidden hK0
            clear va vb hK0
            unfold V.val at *
            go_enter Try.func6, Try.ntmps6
            go_wp2_with fail
            refine (kt.out _).mono ?_
            rintro e w1 ⟨rfl, hK⟩
            have HK1 := hidden ((HK0.out).trans hK (fun _ _ h => h))
            have VA1 := hidden (show IsVar w1 w.heap.size ⟨k, n, t⟩ from hK.heap VA.out (fun h => h))
            have VB1 := hidden (show IsVar w1 (w.heap.size + 1) ⟨3, n2, t2⟩ from hK.heap VB.out (fun h => h))
            obtain ⟨a0, a1, a2, -⟩ := VA1.out.cells
            obtain ⟨b0, b1, b2, -⟩ := VB1.out.cells
            simp only at a0 a1 a2 b0 b1 b2
            clear hK
            go_wp2_with fail
            refine (kr.out _ _ (Vals.lit w1 [⟨k, n, t⟩, ⟨3, n2, t2⟩] _ rfl)).mono ?_
            rintro e w2 ⟨rfl, hK⟩
            have HK2 := hidden ((HK1.out.alloc _).trans hK (fun _ _ h => h))
            have VA2 := hidden (show IsVar w2 w.heap.size ⟨k, n, t⟩ from hK.heap (blk_alloc VA1.out _) (fun h => h))
            have VB2 := hidden (show IsVar w2 (w.heap.size + 1) ⟨3, n2, t2⟩ from hK.heap (blk_alloc VB1.out _) (fun h => h))
            clear hK a0 a1 a2 b0 b1 b2 VA1 VB1 HK1
            obtain ⟨a0, a1, a2, -⟩ := VA2.out.cells
            obtain ⟨b0, b1, b2, -⟩ := VB2.out.cells
            simp only at a0 a1 a2 b0 b1 b2
            have hz2 := blk_lt VB2.out
            go_wp2_with fail
            refine (c1.out _).mono ?_
            rintro e w3 ⟨rfl, hK⟩
            have VA3 := hidden (show IsVar w3 w.heap.size ⟨k, n, t⟩ from hK.heap VA2.out (fun h => h))
            have VB3 := hidden (show IsVar w3 (w.heap.size + 1) ⟨3, n2, t2⟩ from hK.heap VB2.out (fun h => h))
            have HK3 := hidden (HK2.out.trans hK (fun _ _ h => h))
            clear hK a0 a1 a2 b0 b1 b2 hz2
            obtain ⟨a0, a1, a2, -⟩ := VA3.out.cells
            obtain ⟨b0, b1, b2, -⟩ := VB3.out.cells
            simp only at a0 a1 a2 b0 b1 b2
            have hz3 := blk_lt VB3.out
            have hy3 := blk_lt VA3.out
            have VX := hidden (show IsVar (w3.alloc (.cells #[.int .i64 3, .int .i64 0, .string (s ++ u)] 23)) w3.heap.size ⟨3, 0, s ++ u⟩ from blk_new w3 _)
            have VAn := hidden (blk_alloc VA3.out (.cells #[.int .i64 3, .int .i64 0, .string (s ++ u)] 23))
            have VBn := hidden (blk_alloc VB3.out (.cells #[.int .i64 3, .int .i64 0, .string (s ++ u)] 23))
            go_wp2_with fail
            refine (c2.out _).mono ?_
            rintro e w4 ⟨rfl, hK⟩
            have VA4 := hidden (show IsVar w4 w.heap.size ⟨k, n, t⟩ from hK.heap VAn.out (fun h => h))
            have VB4 := hidden (show IsVar w4 (w.heap.size + 1) ⟨3, n2, t2⟩ from hK.heap VBn.out (fun h => h))
            have VX4 := hidden (show IsVar w4 w3.heap.size ⟨3, 0, s ++ u⟩ from hK.heap VX.out (fun h => h))
            have HK4 := hidden ((HK3.out.alloc _).trans hK (fun _ _ h => h))
            clear hK a0 a1 a2 b0 b1 b2
            obtain ⟨a0, a1, a2, -⟩ := VA4.out.cells
            obtain ⟨b0, b1, b2, -⟩ := VB4.out.cells
            simp only at a0 a1 a2 b0 b1 b2
            have hy4 := blk_lt VA4.out
            have hz4 := blk_lt VB4.out
            have hx4 := blk_lt VX4.out
            try clear x0 x1 x2
            obtain ⟨x0, x1, x2, -⟩ := VX4.out.cells
            simp only at x0 x1 x2
            go_wp2_with fail
            refine (c3.out _).mono ?_
            rintro e w5 ⟨rfl, hK⟩
            have VA5 := hidden (show IsVar w5 w.heap.size ⟨k, n, t⟩ from hK.heap VA4.out (fun h => h))
            have VB5 := hidden (show IsVar w5 (w.heap.size + 1) ⟨3, n2, t2⟩ from hK.heap VB4.out (fun h => h))
            have VX5 := hidden (show IsVar w5 w3.heap.size ⟨3, 0, s ++ u⟩ from hK.heap VX4.out (fun h => h))
            have HK5 := hidden (HK4.out.trans hK (fun _ _ h => h))
            clear hK a0 a1 a2 b0 b1 b2
            obtain ⟨a0, a1, a2, -⟩ := VA5.out.cells
            obtain ⟨b0, b1, b2, -⟩ := VB5.out.cells
            simp only at a0 a1 a2 b0 b1 b2
            have hy5 := blk_lt VA5.out
            have hz5 := blk_lt VB5.out
            have hx5 := blk_lt VX5.out
            try clear x0 x1 x2
            obtain ⟨x0, x1, x2, -⟩ := VX5.out.cells
            simp only at x0 x1 x2
            go_wp2_with fail
            go_region_law (go_simp; go_at_call 20; refine (d11.out _ _).mono ?_; rintro e w6 ⟨rfl, hK⟩; have VX6 := hidden (show IsVar w6 w3.heap.size ⟨3, 0, s ++ u⟩ from hK.heap VX5.out (fun h => h)); have HK6 := hidden ((HK5.out.drewN _).trans hK (fun _ _ h => h)); obtain ⟨x0, x1, x2, -⟩ := VX6.out.cells; simp only at x0 x1 x2; clear hK)
            all_goals go_wp2_with fail
            all_goals go_ret
            all_goals exact hR.out _ _ ⟨(by first | rfl | simp [Act.put]), HK6.out.toNew (fun _ h => h.elim)⟩
        · by_cases A4 : a.k = 4
          · by_cases B4 : b.k = 4
            · have hf0 : f = 30 := by rw [hf]; split <;> omega
              have hg0 : g = 30 := by rw [hg]; split <;> omega
              subst hf0 hg0
              rw [if_neg (by omega), if_pos (by omega)] at hd
              clear hf hg
              have d11 := hidden (fun (s : ByteArray) W => value_Str s W)
              simp only [V.val] at d11
              obtain ⟨k, n, t⟩ := a
              obtain ⟨k2, n2, t2⟩ := b
              simp only at *
              subst A4
              subst B4
              have c1 := hidden (fun W => value_Add ⟨4, n, t⟩ ⟨4, n2, t2⟩ W ha hb (Nat.le_trans hs1 (by decide)) (Nat.le_trans hs2 (by decide)))
              rw [hd] at c1
              clear hd
              have c2 := hidden (fun W => value_Text ⟨4, n, t⟩ W ha)
              have c3 := hidden (fun W => value_Text ⟨4, n2, t2⟩ W hb)
              rw [hp] at c2
              rw [hq] at c3
              have hs3 := hs1
              have hs4 := hs2
              rw [hp] at hs3
              rw [hq] at hs4
              simp only at hs3 hs4
              have hadd := fun W : World => run_string_add_sum (P := Try.prog) (w := W) s u (by omega)
              have hsum : ¬ (9223372036854775807 < s.size + u.size) := by omega
              have hsum2 : ¬ (s.size + u.size > 9223372036854775807) := by omega
              clear hs1 hs2 hp hq
              unfold V.val at c1
              simp only [V.null] at c1
              obtain ⟨va, vb, hK0⟩ := box2 w 4 n 4 n2 t t2
              have VA := hidden va
              have VB := hidden vb
              have HK0 := hidden hK0
              clear va vb hK0
              unfold V.val at *
              go_enter Try.func6, Try.ntmps6
              go_wp2_with fail
              refine (kt.out _).mono ?_
              rintro e w1 ⟨rfl, hK⟩
              have HK1 := hidden ((HK0.out).trans hK (fun _ _ h => h))
              have VA1 := hidden (show IsVar w1 w.heap.size ⟨4, n, t⟩ from hK.heap VA.out (fun h => h))
              have VB1 := hidden (show IsVar w1 (w.heap.size + 1) ⟨4, n2, t2⟩ from hK.heap VB.out (fun h => h))
              obtain ⟨a0, a1, a2, -⟩ := VA1.out.cells
              obtain ⟨b0, b1, b2, -⟩ := VB1.out.cells
              simp only at a0 a1 a2 b0 b1 b2
              clear hK
              go_wp2_with fail
              refine (kr.out _ _ (Vals.lit w1 [⟨4, n, t⟩, ⟨4, n2, t2⟩] _ rfl)).mono ?_
              rintro e w2 ⟨rfl, hK⟩
              have HK2 := hidden ((HK1.out.alloc _).trans hK (fun _ _ h => h))
              have VA2 := hidden (show IsVar w2 w.heap.size ⟨4, n, t⟩ from hK.heap (blk_alloc VA1.out _) (fun h => h))
              have VB2 := hidden (show IsVar w2 (w.heap.size + 1) ⟨4, n2, t2⟩ from hK.heap (blk_alloc VB1.out _) (fun h => h))
              clear hK a0 a1 a2 b0 b1 b2 VA1 VB1 HK1
              obtain ⟨a0, a1, a2, -⟩ := VA2.out.cells
              obtain ⟨b0, b1, b2, -⟩ := VB2.out.cells
              simp only at a0 a1 a2 b0 b1 b2
              have hz2 := blk_lt VB2.out
              go_wp2_with fail
              refine (c1.out _).mono ?_
              rintro e w3 ⟨rfl, hK⟩
              have VA3 := hidden (show IsVar w3 w.heap.size ⟨4, n, t⟩ from hK.heap VA2.out (fun h => h))
              have VB3 := hidden (show IsVar w3 (w.heap.size + 1) ⟨4, n2, t2⟩ from hK.heap VB2.out (fun h => h))
              have HK3 := hidden (HK2.out.trans hK (fun _ _ h => h))
              clear hK a0 a1 a2 b0 b1 b2 hz2
              obtain ⟨a0, a1, a2, -⟩ := VA3.out.cells
              obtain ⟨b0, b1, b2, -⟩ := VB3.out.cells
              simp only at a0 a1 a2 b0 b1 b2
              have hz3 := blk_lt VB3.out
              have hy3 := blk_lt VA3.out
              have VX := hidden (show IsVar (w3.alloc (.cells #[.int .i64 0, .int .i64 0, .string ⟨#[]⟩] 23)) w3.heap.size ⟨0, 0, ⟨#[]⟩⟩ from blk_new w3 _)
              have VAn := hidden (blk_alloc VA3.out (.cells #[.int .i64 0, .int .i64 0, .string ⟨#[]⟩] 23))
              have VBn := hidden (blk_alloc VB3.out (.cells #[.int .i64 0, .int .i64 0, .string ⟨#[]⟩] 23))
              go_wp2_with fail
              refine (c2.out _).mono ?_
              rintro e w4 ⟨rfl, hK⟩
              have VA4 := hidden (show IsVar w4 w.heap.size ⟨4, n, t⟩ from hK.heap VAn.out (fun h => h))
              have VB4 := hidden (show IsVar w4 (w.heap.size + 1) ⟨4, n2, t2⟩ from hK.heap VBn.out (fun h => h))
              have VX4 := hidden (show IsVar w4 w3.heap.size ⟨0, 0, ⟨#[]⟩⟩ from hK.heap VX.out (fun h => h))
              have HK4 := hidden ((HK3.out.alloc _).trans hK (fun _ _ h => h))
              clear hK a0 a1 a2 b0 b1 b2
              obtain ⟨a0, a1, a2, -⟩ := VA4.out.cells
              obtain ⟨b0, b1, b2, -⟩ := VB4.out.cells
              simp only at a0 a1 a2 b0 b1 b2
              have hy4 := blk_lt VA4.out
              have hz4 := blk_lt VB4.out
              have hx4 := blk_lt VX4.out
              try clear x0 x1 x2
              obtain ⟨x0, x1, x2, -⟩ := VX4.out.cells
              simp only at x0 x1 x2
              go_wp2_with fail
              refine (c3.out _).mono ?_
              rintro e w5 ⟨rfl, hK⟩
              have VA5 := hidden (show IsVar w5 w.heap.size ⟨4, n, t⟩ from hK.heap VA4.out (fun h => h))
              have VB5 := hidden (show IsVar w5 (w.heap.size + 1) ⟨4, n2, t2⟩ from hK.heap VB4.out (fun h => h))
              have VX5 := hidden (show IsVar w5 w3.heap.size ⟨0, 0, ⟨#[]⟩⟩ from hK.heap VX4.out (fun h => h))
              have HK5 := hidden (HK4.out.trans hK (fun _ _ h => h))
              clear hK a0 a1 a2 b0 b1 b2
              obtain ⟨a0, a1, a2, -⟩ := VA5.out.cells
              obtain ⟨b0, b1, b2, -⟩ := VB5.out.cells
              simp only at a0 a1 a2 b0 b1 b2
              have hy5 := blk_lt VA5.out
              have hz5 := blk_lt VB5.out
              have hx5 := blk_lt VX5.out
              try clear x0 x1 x2
              obtain ⟨x0, x1, x2, -⟩ := VX5.out.cells
              simp only at x0 x1 x2
              go_wp2_with fail
              exact hR.out _ _ ⟨rfl, HK5.out.toNew (fun _ h => h.elim)⟩
            · have hf0 : f = 30 := by rw [hf]; split <;> omega
              have hg0 : g = 0 := by rw [hg]; split <;> omega
              subst hf0 hg0
              rw [if_neg (by omega), if_pos (by omega)] at hd
              clear hf hg
              have d11 := hidden (fun (s : ByteArray) W => value_Str s W)
              simp only [V.val] at d11
              obtain ⟨k, n, t⟩ := a
              obtain ⟨k2, n2, t2⟩ := b
              simp only at *
              subst A4
              have j3 : (k2 == 3) = false := by simpa using (show ¬ k2 = 3 by omega)
              have jn3 : (k2 != 3) = true := by simpa using (show ¬ k2 = 3 by omega)
              have c1 := hidden (fun W => value_Add ⟨4, n, t⟩ ⟨k2, n2, t2⟩ W ha hb (Nat.le_trans hs1 (by decide)) (Nat.le_trans hs2 (by decide)))
              rw [hd] at c1
              clear hd
              have c2 := hidden (fun W => value_Text ⟨4, n, t⟩ W ha)
              have c3 := hidden (fun W => value_Text ⟨k2, n2, t2⟩ W hb)
              rw [hp] at c2
              rw [hq] at c3
              have hs3 := hs1
              have hs4 := hs2
              rw [hp] at hs3
              rw [hq] at hs4
              simp only at hs3 hs4
              have hadd := fun W : World => run_string_add_sum (P := Try.prog) (w := W) s u (by omega)
              have hsum : ¬ (9223372036854775807 < s.size + u.size) := by omega
              have hsum2 : ¬ (s.size + u.size > 9223372036854775807) := by omega
              clear hs1 hs2 hp hq
              unfold V.val at c1
              simp only [V.null] at c1
              obtain ⟨va, vb, hK0⟩ := box2 w 4 n k2 n2 t t2
              have VA := hidden va
              have VB := hidden vb
              have HK0 := hidden hK0
              clear va vb hK0
              unfold V.val at *
              go_enter Try.func6, Try.ntmps6
              go_wp2_with fail
              refine (kt.out _).mono ?_
              rintro e w1 ⟨rfl, hK⟩
              have HK1 := hidden ((HK0.out).trans hK (fun _ _ h => h))
              have VA1 := hidden (show IsVar w1 w.heap.size ⟨4, n, t⟩ from hK.heap VA.out (fun h => h))
              have VB1 := hidden (show IsVar w1 (w.heap.size + 1) ⟨k2, n2, t2⟩ from hK.heap VB.out (fun h => h))
              obtain ⟨a0, a1, a2, -⟩ := VA1.out.cells
              obtain ⟨b0, b1, b2, -⟩ := VB1.out.cells
              simp only at a0 a1 a2 b0 b1 b2
              clear hK
              go_wp2_with fail
              refine (kr.out _ _ (Vals.lit w1 [⟨4, n, t⟩, ⟨k2, n2, t2⟩] _ rfl)).mono ?_
              rintro e w2 ⟨rfl, hK⟩
              have HK2 := hidden ((HK1.out.alloc _).trans hK (fun _ _ h => h))
              have VA2 := hidden (show IsVar w2 w.heap.size ⟨4, n, t⟩ from hK.heap (blk_alloc VA1.out _) (fun h => h))
              have VB2 := hidden (show IsVar w2 (w.heap.size + 1) ⟨k2, n2, t2⟩ from hK.heap (blk_alloc VB1.out _) (fun h => h))
              clear hK a0 a1 a2 b0 b1 b2 VA1 VB1 HK1
              obtain ⟨a0, a1, a2, -⟩ := VA2.out.cells
              obtain ⟨b0, b1, b2, -⟩ := VB2.out.cells
              simp only at a0 a1 a2 b0 b1 b2
              have hz2 := blk_lt VB2.out
              go_wp2_with fail
              refine (c1.out _).mono ?_
              rintro e w3 ⟨rfl, hK⟩
              have VA3 := hidden (show IsVar w3 w.heap.size ⟨4, n, t⟩ from hK.heap VA2.out (fun h => h))
              have VB3 := hidden (show IsVar w3 (w.heap.size + 1) ⟨k2, n2, t2⟩ from hK.heap VB2.out (fun h => h))
              have HK3 := hidden (HK2.out.trans hK (fun _ _ h => h))
              clear hK a0 a1 a2 b0 b1 b2 hz2
              obtain ⟨a0, a1, a2, -⟩ := VA3.out.cells
              obtain ⟨b0, b1, b2, -⟩ := VB3.out.cells
              simp only at a0 a1 a2 b0 b1 b2
              have hz3 := blk_lt VB3.out
              have hy3 := blk_lt VA3.out
              have VX := hidden (show IsVar (w3.alloc (.cells #[.int .i64 0, .int .i64 0, .string ⟨#[]⟩] 23)) w3.heap.size ⟨0, 0, ⟨#[]⟩⟩ from blk_new w3 _)
              have VAn := hidden (blk_alloc VA3.out (.cells #[.int .i64 0, .int .i64 0, .string ⟨#[]⟩] 23))
              have VBn := hidden (blk_alloc VB3.out (.cells #[.int .i64 0, .int .i64 0, .string ⟨#[]⟩] 23))
              go_wp2_with fail
              refine (c2.out _).mono ?_
              rintro e w4 ⟨rfl, hK⟩
              have VA4 := hidden (show IsVar w4 w.heap.size ⟨4, n, t⟩ from hK.heap VAn.out (fun h => h))
              have VB4 := hidden (show IsVar w4 (w.heap.size + 1) ⟨k2, n2, t2⟩ from hK.heap VBn.out (fun h => h))
              have VX4 := hidden (show IsVar w4 w3.heap.size ⟨0, 0, ⟨#[]⟩⟩ from hK.heap VX.out (fun h => h))
              have HK4 := hidden ((HK3.out.alloc _).trans hK (fun _ _ h => h))
              clear hK a0 a1 a2 b0 b1 b2
              obtain ⟨a0, a1, a2, -⟩ := VA4.out.cells
              obtain ⟨b0, b1, b2, -⟩ := VB4.out.cells
              simp only at a0 a1 a2 b0 b1 b2
              have hy4 := blk_lt VA4.out
              have hz4 := blk_lt VB4.out
              have hx4 := blk_lt VX4.out
              try clear x0 x1 x2
              obtain ⟨x0, x1, x2, -⟩ := VX4.out.cells
              simp only at x0 x1 x2
              go_wp2_with fail
              refine (c3.out _).mono ?_
              rintro e w5 ⟨rfl, hK⟩
              have VA5 := hidden (show IsVar w5 w.heap.size ⟨4, n, t⟩ from hK.heap VA4.out (fun h => h))
              have VB5 := hidden (show IsVar w5 (w.heap.size + 1) ⟨k2, n2, t2⟩ from hK.heap VB4.out (fun h => h))
              have VX5 := hidden (show IsVar w5 w3.heap.size ⟨0, 0, ⟨#[]⟩⟩ from hK.heap VX4.out (fun h => h))
              have HK5 := hidden (HK4.out.trans hK (fun _ _ h => h))
              clear hK a0 a1 a2 b0 b1 b2
              obtain ⟨a0, a1, a2, -⟩ := VA5.out.cells
              obtain ⟨b0, b1, b2, -⟩ := VB5.out.cells
              simp only at a0 a1 a2 b0 b1 b2
              have hy5 := blk_lt VA5.out
              have hz5 := blk_lt VB5.out
              have hx5 := blk_lt VX5.out
              try clear x0 x1 x2
              obtain ⟨x0, x1, x2, -⟩ := VX5.out.cells
              simp only at x0 x1 x2
              go_wp2_with fail
              exact hR.out _ _ ⟨rfl, HK5.out.toNew (fun _ h => h.elim)⟩
          · by_cases B4 : b.k = 4
            · have hf0 : f = 0 := by rw [hf]; split <;> omega
              have hg0 : g = 30 := by rw [hg]; split <;> omega
              subst hf0 hg0
              rw [if_neg (by omega), if_pos (by omega)] at hd
              clear hf hg
              have d11 := hidden (fun (s : ByteArray) W => value_Str s W)
              simp only [V.val] at d11
              obtain ⟨k, n, t⟩ := a
              obtain ⟨k2, n2, t2⟩ := b
              simp only at *
              subst B4
              have i2 : (k == 2) = false := by simpa using (show ¬ k = 2 by omega)
              have in2 : (k != 2) = true := by simpa using (show ¬ k = 2 by omega)
              have i3 : (k == 3) = false := by simpa using (show ¬ k = 3 by omega)
              have in3 : (k != 3) = true := by simpa using (show ¬ k = 3 by omega)
              have c1 := hidden (fun W => value_Add ⟨k, n, t⟩ ⟨4, n2, t2⟩ W ha hb (Nat.le_trans hs1 (by decide)) (Nat.le_trans hs2 (by decide)))
              rw [hd] at c1
              clear hd
              have c2 := hidden (fun W => value_Text ⟨k, n, t⟩ W ha)
              have c3 := hidden (fun W => value_Text ⟨4, n2, t2⟩ W hb)
              rw [hp] at c2
              rw [hq] at c3
              have hs3 := hs1
              have hs4 := hs2
              rw [hp] at hs3
              rw [hq] at hs4
              simp only at hs3 hs4
              have hadd := fun W : World => run_string_add_sum (P := Try.prog) (w := W) s u (by omega)
              have hsum : ¬ (9223372036854775807 < s.size + u.size) := by omega
              have hsum2 : ¬ (s.size + u.size > 9223372036854775807) := by omega
              clear hs1 hs2 hp hq
              unfold V.val at c1
              simp only [V.null] at c1
              obtain ⟨va, vb, hK0⟩ := box2 w k n 4 n2 t t2
              have VA := hidden va
              have VB := hidden vb
              have HK0 := hidden hK0
              clear va vb hK0
              unfold V.val at *
              go_enter Try.func6, Try.ntmps6
              go_wp2_with fail
              refine (kt.out _).mono ?_
              rintro e w1 ⟨rfl, hK⟩
              have HK1 := hidden ((HK0.out).trans hK (fun _ _ h => h))
              have VA1 := hidden (show IsVar w1 w.heap.size ⟨k, n, t⟩ from hK.heap VA.out (fun h => h))
              have VB1 := hidden (show IsVar w1 (w.heap.size + 1) ⟨4, n2, t2⟩ from hK.heap VB.out (fun h => h))
              obtain ⟨a0, a1, a2, -⟩ := VA1.out.cells
              obtain ⟨b0, b1, b2, -⟩ := VB1.out.cells
              simp only at a0 a1 a2 b0 b1 b2
              clear hK
              go_wp2_with fail
              refine (kr.out _ _ (Vals.lit w1 [⟨k, n, t⟩, ⟨4, n2, t2⟩] _ rfl)).mono ?_
              rintro e w2 ⟨rfl, hK⟩
              have HK2 := hidden ((HK1.out.alloc _).trans hK (fun _ _ h => h))
              have VA2 := hidden (show IsVar w2 w.heap.size ⟨k, n, t⟩ from hK.heap (blk_alloc VA1.out _) (fun h => h))
              have VB2 := hidden (show IsVar w2 (w.heap.size + 1) ⟨4, n2, t2⟩ from hK.heap (blk_alloc VB1.out _) (fun h => h))
              clear hK a0 a1 a2 b0 b1 b2 VA1 VB1 HK1
              obtain ⟨a0, a1, a2, -⟩ := VA2.out.cells
              obtain ⟨b0, b1, b2, -⟩ := VB2.out.cells
              simp only at a0 a1 a2 b0 b1 b2
              have hz2 := blk_lt VB2.out
              go_wp2_with fail
              refine (c1.out _).mono ?_
              rintro e w3 ⟨rfl, hK⟩
              have VA3 := hidden (show IsVar w3 w.heap.size ⟨k, n, t⟩ from hK.heap VA2.out (fun h => h))
              have VB3 := hidden (show IsVar w3 (w.heap.size + 1) ⟨4, n2, t2⟩ from hK.heap VB2.out (fun h => h))
              have HK3 := hidden (HK2.out.trans hK (fun _ _ h => h))
              clear hK a0 a1 a2 b0 b1 b2 hz2
              obtain ⟨a0, a1, a2, -⟩ := VA3.out.cells
              obtain ⟨b0, b1, b2, -⟩ := VB3.out.cells
              simp only at a0 a1 a2 b0 b1 b2
              have hz3 := blk_lt VB3.out
              have hy3 := blk_lt VA3.out
              have VX := hidden (show IsVar (w3.alloc (.cells #[.int .i64 0, .int .i64 0, .string ⟨#[]⟩] 23)) w3.heap.size ⟨0, 0, ⟨#[]⟩⟩ from blk_new w3 _)
              have VAn := hidden (blk_alloc VA3.out (.cells #[.int .i64 0, .int .i64 0, .string ⟨#[]⟩] 23))
              have VBn := hidden (blk_alloc VB3.out (.cells #[.int .i64 0, .int .i64 0, .string ⟨#[]⟩] 23))
              go_wp2_with fail
              refine (c2.out _).mono ?_
              rintro e w4 ⟨rfl, hK⟩
              have VA4 := hidden (show IsVar w4 w.heap.size ⟨k, n, t⟩ from hK.heap VAn.out (fun h => h))
              have VB4 := hidden (show IsVar w4 (w.heap.size + 1) ⟨4, n2, t2⟩ from hK.heap VBn.out (fun h => h))
              have VX4 := hidden (show IsVar w4 w3.heap.size ⟨0, 0, ⟨#[]⟩⟩ from hK.heap VX.out (fun h => h))
              have HK4 := hidden ((HK3.out.alloc _).trans hK (fun _ _ h => h))
              clear hK a0 a1 a2 b0 b1 b2
              obtain ⟨a0, a1, a2, -⟩ := VA4.out.cells
              obtain ⟨b0, b1, b2, -⟩ := VB4.out.cells
              simp only at a0 a1 a2 b0 b1 b2
              have hy4 := blk_lt VA4.out
              have hz4 := blk_lt VB4.out
              have hx4 := blk_lt VX4.out
              try clear x0 x1 x2
              obtain ⟨x0, x1, x2, -⟩ := VX4.out.cells
              simp only at x0 x1 x2
              go_wp2_with fail
              refine (c3.out _).mono ?_
              rintro e w5 ⟨rfl, hK⟩
              have VA5 := hidden (show IsVar w5 w.heap.size ⟨k, n, t⟩ from hK.heap VA4.out (fun h => h))
              have VB5 := hidden (show IsVar w5 (w.heap.size + 1) ⟨4, n2, t2⟩ from hK.heap VB4.out (fun h => h))
              have VX5 := hidden (show IsVar w5 w3.heap.size ⟨0, 0, ⟨#[]⟩⟩ from hK.heap VX4.out (fun h => h))
              have HK5 := hidden (HK4.out.trans hK (fun _ _ h => h))
              clear hK a0 a1 a2 b0 b1 b2
              obtain ⟨a0, a1, a2, -⟩ := VA5.out.cells
              obtain ⟨b0, b1, b2, -⟩ := VB5.out.cells
              simp only at a0 a1 a2 b0 b1 b2
              have hy5 := blk_lt VA5.out
              have hz5 := blk_lt VB5.out
              have hx5 := blk_lt VX5.out
              try clear x0 x1 x2
              obtain ⟨x0, x1, x2, -⟩ := VX5.out.cells
              simp only at x0 x1 x2
              go_wp2_with fail
              exact hR.out _ _ ⟨rfl, HK5.out.toNew (fun _ h => h.elim)⟩
            · have hf0 : f = 0 := by rw [hf]; split <;> omega
              have hg0 : g = 0 := by rw [hg]; split <;> omega
              subst hf0 hg0
              rw [if_neg (by omega), if_pos (by omega)] at hd
              clear hf hg
              have d11 := hidden (fun (s : ByteArray) W => value_Str s W)
              simp only [V.val] at d11
              obtain ⟨k, n, t⟩ := a
              obtain ⟨k2, n2, t2⟩ := b
              simp only at *
              have i2 : (k == 2) = false := by simpa using (show ¬ k = 2 by omega)
              have in2 : (k != 2) = true := by simpa using (show ¬ k = 2 by omega)
              have i3 : (k == 3) = false := by simpa using (show ¬ k = 3 by omega)
              have in3 : (k != 3) = true := by simpa using (show ¬ k = 3 by omega)
              have j3 : (k2 == 3) = false := by simpa using (show ¬ k2 = 3 by omega)
              have jn3 : (k2 != 3) = true := by simpa using (show ¬ k2 = 3 by omega)
              have c1 := hidden (fun W => value_Add ⟨k, n, t⟩ ⟨k2, n2, t2⟩ W ha hb (Nat.le_trans hs1 (by decide)) (Nat.le_trans hs2 (by decide)))
              rw [hd] at c1
              clear hd
              have c2 := hidden (fun W => value_Text ⟨k, n, t⟩ W ha)
              have c3 := hidden (fun W => value_Text ⟨k2, n2, t2⟩ W hb)
              rw [hp] at c2
              rw [hq] at c3
              have hs3 := hs1
              have hs4 := hs2
              rw [hp] at hs3
              rw [hq] at hs4
              simp only at hs3 hs4
              have hadd := fun W : World => run_string_add_sum (P := Try.prog) (w := W) s u (by omega)
              have hsum : ¬ (9223372036854775807 < s.size + u.size) := by omega
              have hsum2 : ¬ (s.size + u.size > 9223372036854775807) := by omega
              clear hs1 hs2 hp hq
              unfold V.val at c1
              simp only [V.null] at c1
              obtain ⟨va, vb, hK0⟩ := box2 w k n k2 n2 t t2
              have VA := hidden va
              have VB := hidden vb
              have HK0 := hidden hK0
              clear va vb hK0
              unfold V.val at *
              go_enter Try.func6, Try.ntmps6
              go_wp2_with fail
              refine (kt.out _).mono ?_
              rintro e w1 ⟨rfl, hK⟩
              have HK1 := hidden ((HK0.out).trans hK (fun _ _ h => h))
              have VA1 := hidden (show IsVar w1 w.heap.size ⟨k, n, t⟩ from hK.heap VA.out (fun h => h))
              have VB1 := hidden (show IsVar w1 (w.heap.size + 1) ⟨k2, n2, t2⟩ from hK.heap VB.out (fun h => h))
              obtain ⟨a0, a1, a2, -⟩ := VA1.out.cells
              obtain ⟨b0, b1, b2, -⟩ := VB1.out.cells
              simp only at a0 a1 a2 b0 b1 b2
              clear hK
              go_wp2_with fail
              refine (kr.out _ _ (Vals.lit w1 [⟨k, n, t⟩, ⟨k2, n2, t2⟩] _ rfl)).mono ?_
              rintro e w2 ⟨rfl, hK⟩
              have HK2 := hidden ((HK1.out.alloc _).trans hK (fun _ _ h => h))
              have VA2 := hidden (show IsVar w2 w.heap.size ⟨k, n, t⟩ from hK.heap (blk_alloc VA1.out _) (fun h => h))
              have VB2 := hidden (show IsVar w2 (w.heap.size + 1) ⟨k2, n2, t2⟩ from hK.heap (blk_alloc VB1.out _) (fun h => h))
              clear hK a0 a1 a2 b0 b1 b2 VA1 VB1 HK1
              obtain ⟨a0, a1, a2, -⟩ := VA2.out.cells
              obtain ⟨b0, b1, b2, -⟩ := VB2.out.cells
              simp only at a0 a1 a2 b0 b1 b2
              have hz2 := blk_lt VB2.out
              go_wp2_with fail
              refine (c1.out _).mono ?_
              rintro e w3 ⟨rfl, hK⟩
              have VA3 := hidden (show IsVar w3 w.heap.size ⟨k, n, t⟩ from hK.heap VA2.out (fun h => h))
              have VB3 := hidden (show IsVar w3 (w.heap.size + 1) ⟨k2, n2, t2⟩ from hK.heap VB2.out (fun h => h))
              have HK3 := hidden (HK2.out.trans hK (fun _ _ h => h))
              clear hK a0 a1 a2 b0 b1 b2 hz2
              obtain ⟨a0, a1, a2, -⟩ := VA3.out.cells
              obtain ⟨b0, b1, b2, -⟩ := VB3.out.cells
              simp only at a0 a1 a2 b0 b1 b2
              have hz3 := blk_lt VB3.out
              have hy3 := blk_lt VA3.out
              have VX := hidden (show IsVar (w3.alloc (.cells #[.int .i64 0, .int .i64 0, .string ⟨#[]⟩] 23)) w3.heap.size ⟨0, 0, ⟨#[]⟩⟩ from blk_new w3 _)
              have VAn := hidden (blk_alloc VA3.out (.cells #[.int .i64 0, .int .i64 0, .string ⟨#[]⟩] 23))
              have VBn := hidden (blk_alloc VB3.out (.cells #[.int .i64 0, .int .i64 0, .string ⟨#[]⟩] 23))
              go_wp2_with fail
              refine (c2.out _).mono ?_
              rintro e w4 ⟨rfl, hK⟩
              have VA4 := hidden (show IsVar w4 w.heap.size ⟨k, n, t⟩ from hK.heap VAn.out (fun h => h))
              have VB4 := hidden (show IsVar w4 (w.heap.size + 1) ⟨k2, n2, t2⟩ from hK.heap VBn.out (fun h => h))
              have VX4 := hidden (show IsVar w4 w3.heap.size ⟨0, 0, ⟨#[]⟩⟩ from hK.heap VX.out (fun h => h))
              have HK4 := hidden ((HK3.out.alloc _).trans hK (fun _ _ h => h))
              clear hK a0 a1 a2 b0 b1 b2
              obtain ⟨a0, a1, a2, -⟩ := VA4.out.cells
              obtain ⟨b0, b1, b2, -⟩ := VB4.out.cells
              simp only at a0 a1 a2 b0 b1 b2
              have hy4 := blk_lt VA4.out
              have hz4 := blk_lt VB4.out
              have hx4 := blk_lt VX4.out
              try clear x0 x1 x2
              obtain ⟨x0, x1, x2, -⟩ := VX4.out.cells
              simp only at x0 x1 x2
              go_wp2_with fail
              refine (c3.out _).mono ?_
              rintro e w5 ⟨rfl, hK⟩
              have VA5 := hidden (show IsVar w5 w.heap.size ⟨k, n, t⟩ from hK.heap VA4.out (fun h => h))
              have VB5 := hidden (show IsVar w5 (w.heap.size + 1) ⟨k2, n2, t2⟩ from hK.heap VB4.out (fun h => h))
              have VX5 := hidden (show IsVar w5 w3.heap.size ⟨0, 0, ⟨#[]⟩⟩ from hK.heap VX4.out (fun h => h))
              have HK5 := hidden (HK4.out.trans hK (fun _ _ h => h))
              clear hK a0 a1 a2 b0 b1 b2
              obtain ⟨a0, a1, a2, -⟩ := VA5.out.cells
              obtain ⟨b0, b1, b2, -⟩ := VB5.out.cells
              simp only at a0 a1 a2 b0 b1 b2
              have hy5 := blk_lt VA5.out
              have hz5 := blk_lt VB5.out
              have hx5 := blk_lt VX5.out
              try clear x0 x1 x2
              obtain ⟨x0, x1, x2, -⟩ := VX5.out.cells
              simp only at x0 x1 x2
              go_wp2_with fail
              exact hR.out _ _ ⟨rfl, HK5.out.toNew (fun _ h => h.elim)⟩
end Go.Proofs.Ytmjkglmkckofgaa
