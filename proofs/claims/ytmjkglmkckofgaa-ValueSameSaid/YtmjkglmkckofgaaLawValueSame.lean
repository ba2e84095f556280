/- The walk of the statement ValueSame. -/
import Derived.Test.YtmjkglmkckofgaaVal3
import Derived.Deep.RegionHeld3
namespace Go.Proofs.Ytmjkglmkckofgaa
open Go.RowKit
set_option maxRecDepth 100000

theorem hash_ne {k n n2 : Int} {t t2 : ByteArray} (hk : k ≠ 3) (h0 : k ≠ 0) (ha : -9223372036854775808 ≤ n ∧ n ≤ 9223372036854775807) (hb : -9223372036854775808 ≤ n2 ∧ n2 ≤ 9223372036854775807) (hn : n ≠ n2) : V.hash ⟨k, n, t⟩ ≠ V.hash ⟨k, n2, t2⟩ := by
  intro h
  simp only [V.hash, if_neg hk, if_neg h0] at h
  apply hn
  apply hash0_inj n n2 ha hb
  have r : ∀ x, 0 ≤ hash0 x ∧ hash0 x < 18446744073709551616 := fun x => by
    rw [hash0_nat]
    have l : (x % 18446744073709551616).toNat < 18446744073709551616 := by omega
    refine ⟨Int.natCast_nonneg _, ?_⟩
    have : hashN (x % 18446744073709551616).toNat < 18446744073709551616 := by
      simp only [hashN]
      exact xor_lt _ 31 (Nat.mod_lt _ (by decide))
    omega
  have r1 := r n
  have r2 := r n2
  generalize IntKind.u64.wrap (IntKind.u64.wrap k * 11400714819323198485) = c at h
  rw [IntKind.wrap_u64, IntKind.wrap_u64] at h
  omega
set_option maxHeartbeats 8000000 in
theorem valueSame_walk (w : World) (a b : V) (ha : -9223372036854775808 ≤ a.n ∧ a.n ≤ 9223372036854775807) (hb : -9223372036854775808 ≤ b.n ∧ b.n ≤ 9223372036854775807) :
    Calls Try.prog 9 #[a.val, b.val] w fun e w' => e = .returned (.bool true) ∧ Below w.heap.size w w' := by
  have kt := hidden (fun W => tells_true W)
  have kr := hidden (fun (W : World) (A : Option Addr) (hs : Vals W A [a, b]) => right_any W A 2 [a, b] hs (by simp))
  have hall : [a, b].all V.ok = (a.ok && b.ok) := by simp
  rw [hall] at kr
  clear hall
  refine post_gen fun R hR => ?_
  cases hok : (a.ok && b.ok) with
  | false =>
    rw [hok] at kr
    obtain ⟨k, n, t⟩ := a
    obtain ⟨k2, n2, t2⟩ := b
    clear hok
    obtain ⟨va, vb, hK0⟩ := box2 w k n k2 n2 t t2
    have VA := hidden va
    have VB := hidden vb
    have HK0 := hidden hK0
    clear va vb hK0
    unfold V.val at *
    go_enter Try.func9, Try.ntmps9
    go_wp2_with fail
    refine (kt.out _).mono ?_
    rintro e w1 ⟨rfl, hK⟩
    have HK1 := hidden ((HK0.out).trans hK (fun _ _ h => h))
    have VA1 := hidden (show IsVar w1 w.heap.size ⟨k, n, t⟩ from hK.heap VA.out (fun h => h))
    have VB1 := hidden (show IsVar w1 (w.heap.size + 1) ⟨k2, n2, t2⟩ from hK.heap VB.out (fun h => h))
    obtain ⟨a0, a1, a2, -⟩ := VA1.out.cells
    obtain ⟨b0, b1, b2, -⟩ := VB1.out.cells
    simp only at a0 a1 a2 b0 b1 b2
    clear hK
    go_wp2_with fail
    refine (kr.out _ _ (Vals.lit w1 [⟨k, n, t⟩, ⟨k2, n2, t2⟩] _ rfl)).mono ?_
    rintro e w2 ⟨rfl, hK⟩
    have HK2 := hidden ((HK1.out.alloc _).trans hK (fun _ _ h => h))
    have VA2 := hidden (show IsVar w2 w.heap.size ⟨k, n, t⟩ from hK.heap (blk_alloc VA1.out _) (fun h => h))
    have VB2 := hidden (show IsVar w2 (w.heap.size + 1) ⟨k2, n2, t2⟩ from hK.heap (blk_alloc VB1.out _) (fun h => h))
    clear hK a0 a1 a2 b0 b1 b2 VA1 VB1 HK1
    go_wp2_with fail
    exact hR.out _ _ ⟨rfl, HK2.out.toNew (fun _ h => h.elim)⟩
  | true =>
    rw [hok] at kr
    simp only [Bool.and_eq_true] at hok
    obtain ⟨sa, ka0, ka4, ta, na, ba, ra⟩ := ok_is hok.1
    obtain ⟨sb, kb0, kb4, tb, nb, bb, rb⟩ := ok_is hok.2
    by_cases hab : a = b
    · subst hab
      have hsm : decide (a = a) = true := decide_eq_true rfl
      obtain ⟨k, n, t⟩ := a
      simp only at sa ka0 ka4
      clear hok ta na ba ra tb nb bb rb
      by_cases h3 : k = 3
      · subst h3
        have c1 := hidden (fun W => value_Same ⟨3, n, t⟩ ⟨3, n, t⟩ W)
        rw [hsm] at c1
        have c2 := hidden (fun W => value_Same ⟨3, n, t⟩ ⟨3, n, t⟩ W)
        rw [hsm] at c2
        have c3 := hidden (fun W => value_Hash ⟨3, n, t⟩ W (show t.size ≤ 140737488351232 by omega))
        have c4 := hidden (fun W => value_Hash ⟨3, n, t⟩ W (show t.size ≤ 140737488351232 by omega))
        generalize V.hash ⟨3, n, t⟩ = hx at *
        clear hsm
        obtain ⟨va, vb, hK0⟩ := box2 w 3 n 3 n t t
        have VA := hidden va
        have VB := hidden vb
        have HK0 := hidden hK0
        clear va vb hK0
        unfold V.val at *
        go_enter Try.func9, Try.ntmps9
        go_wp2_with fail
        refine (kt.out _).mono ?_
        rintro e w1 ⟨rfl, hK⟩
        have HK1 := hidden ((HK0.out).trans hK (fun _ _ h => h))
        have VA1 := hidden (show IsVar w1 w.heap.size ⟨3, n, t⟩ from hK.heap VA.out (fun h => h))
        have VB1 := hidden (show IsVar w1 (w.heap.size + 1) ⟨3, n, t⟩ from hK.heap VB.out (fun h => h))
        obtain ⟨a0, a1, a2, -⟩ := VA1.out.cells
        obtain ⟨b0, b1, b2, -⟩ := VB1.out.cells
        simp only at a0 a1 a2 b0 b1 b2
        clear hK
        go_wp2_with fail
        refine (kr.out _ _ (Vals.lit w1 [⟨3, n, t⟩, ⟨3, n, t⟩] _ rfl)).mono ?_
        rintro e w2 ⟨rfl, hK⟩
        have HK2 := hidden ((HK1.out.alloc _).trans hK (fun _ _ h => h))
        have VA2 := hidden (show IsVar w2 w.heap.size ⟨3, n, t⟩ from hK.heap (blk_alloc VA1.out _) (fun h => h))
        have VB2 := hidden (show IsVar w2 (w.heap.size + 1) ⟨3, n, t⟩ from hK.heap (blk_alloc VB1.out _) (fun h => h))
        clear hK a0 a1 a2 b0 b1 b2 VA1 VB1 HK1
        obtain ⟨a0, a1, a2, -⟩ := VA2.out.cells
        obtain ⟨b0, b1, b2, -⟩ := VB2.out.cells
        simp only at a0 a1 a2 b0 b1 b2
        have hz2 := blk_lt VB2.out
        go_wp2_with fail
        refine (c1.out _).mono ?_
        rintro e w3 ⟨rfl, hK⟩
        have VA3 := hidden (show IsVar w3 w.heap.size ⟨3, n, t⟩ from hK.heap VA2.out (fun h => h))
        have VB3 := hidden (show IsVar w3 (w.heap.size + 1) ⟨3, n, t⟩ from hK.heap VB2.out (fun h => h))
        have HK3 := hidden (HK2.out.trans hK (fun _ _ h => h))
        clear hK a0 a1 a2 b0 b1 b2 hz2
        obtain ⟨a0, a1, a2, -⟩ := VA3.out.cells
        obtain ⟨b0, b1, b2, -⟩ := VB3.out.cells
        simp only at a0 a1 a2 b0 b1 b2
        have hz3 := blk_lt VB3.out
        have hy3 := blk_lt VA3.out
        go_wp2_with fail
        refine (c2.out _).mono ?_
        rintro e w4 ⟨rfl, hK⟩
        have VA4 := hidden (show IsVar w4 w.heap.size ⟨3, n, t⟩ from hK.heap VA3.out (fun h => h))
        have VB4 := hidden (show IsVar w4 (w.heap.size + 1) ⟨3, n, t⟩ from hK.heap VB3.out (fun h => h))
        have HK4 := hidden (HK3.out.trans hK (fun _ _ h => h))
        clear hK a0 a1 a2 b0 b1 b2 hz3
        obtain ⟨a0, a1, a2, -⟩ := VA4.out.cells
        obtain ⟨b0, b1, b2, -⟩ := VB4.out.cells
        simp only at a0 a1 a2 b0 b1 b2
        have hz4 := blk_lt VB4.out
        have hy4 := blk_lt VA4.out
        go_wp2_with fail
        go_region_held3 (fun w' => w'.cell? ⟨w.heap.size, 0, none⟩ = some (.int .i64 3) ∧ w'.cell? ⟨w.heap.size, 1, none⟩ = some (.int .i64 n) ∧ w'.cell? ⟨w.heap.size, 2, none⟩ = some (.string t) ∧ w'.cell? ⟨w.heap.size + 1, 0, none⟩ = some (.int .i64 3) ∧ w'.cell? ⟨w.heap.size + 1, 1, none⟩ = some (.int .i64 n) ∧ w'.cell? ⟨w.heap.size + 1, 2, none⟩ = some (.string t)) (first | exact ⟨a0, a1, a2, b0, b1, b2⟩ | exact ⟨d0, d1, d2, d3, d4, d5⟩ | exact ⟨e0, e1, e2, e3, e4, e5⟩) (first | (go_at_call 42; refine (c3.out _).mono ?_; rintro e w5 ⟨rfl, hK⟩; clear c3; have VA5 := hidden (show IsVar w5 w.heap.size ⟨3, n, t⟩ from hK.heap VA4.out (fun h => h)); have VB5 := hidden (show IsVar w5 (w.heap.size + 1) ⟨3, n, t⟩ from hK.heap VB4.out (fun h => h)); have HK5 := hidden ((HK4.out.drewN _).trans hK (fun _ _ h => h)); clear hK; obtain ⟨d0, d1, d2, -⟩ := VA5.out.cells; obtain ⟨d3, d4, d5, -⟩ := VB5.out.cells; simp only at d0 d1 d2 d3 d4 d5) | (go_at_call 42; refine (c4.out _).mono ?_; rintro e w6 ⟨rfl, hK⟩; have VA6 := hidden (show IsVar w6 w.heap.size ⟨3, n, t⟩ from hK.heap VA5.out (fun h => h)); have VB6 := hidden (show IsVar w6 (w.heap.size + 1) ⟨3, n, t⟩ from hK.heap VB5.out (fun h => h)); have HK6 := hidden (HK5.out.trans hK (fun _ _ h => h)); clear hK; obtain ⟨e0, e1, e2, -⟩ := VA6.out.cells; obtain ⟨e3, e4, e5, -⟩ := VB6.out.cells; simp only at e0 e1 e2 e3 e4 e5; have hz6 := blk_lt VB6.out; have hy6 := blk_lt VA6.out))
        all_goals go_wp2_with fail
        all_goals go_quiet (fail)
        all_goals go_wp2_with fail
        all_goals exact hR.out _ _ ⟨rfl, (HK6.out.drewN _).toNew (fun _ h => h.elim)⟩
      · have i3 : (k == 3) = false := by simpa using h3
        have c1 := hidden (fun W => value_Same ⟨k, n, t⟩ ⟨k, n, t⟩ W)
        rw [hsm] at c1
        have c2 := hidden (fun W => value_Same ⟨k, n, t⟩ ⟨k, n, t⟩ W)
        rw [hsm] at c2
        have c3 := hidden (fun W => value_Hash ⟨k, n, t⟩ W (show t.size ≤ 140737488351232 by omega))
        have c4 := hidden (fun W => value_Hash ⟨k, n, t⟩ W (show t.size ≤ 140737488351232 by omega))
        generalize V.hash ⟨k, n, t⟩ = hx at *
        clear hsm
        obtain ⟨va, vb, hK0⟩ := box2 w k n k n t t
        have VA := hidden va
        have VB := hidden vb
        have HK0 := hidden hK0
        clear va vb hK0
        unfold V.val at *
        go_enter Try.func9, Try.ntmps9
        go_wp2_with fail
        refine (kt.out _).mono ?_
        rintro e w1 ⟨rfl, hK⟩
        have HK1 := hidden ((HK0.out).trans hK (fun _ _ h => h))
        have VA1 := hidden (show IsVar w1 w.heap.size ⟨k, n, t⟩ from hK.heap VA.out (fun h => h))
        have VB1 := hidden (show IsVar w1 (w.heap.size + 1) ⟨k, n, t⟩ from hK.heap VB.out (fun h => h))
        obtain ⟨a0, a1, a2, -⟩ := VA1.out.cells
        obtain ⟨b0, b1, b2, -⟩ := VB1.out.cells
        simp only at a0 a1 a2 b0 b1 b2
        clear hK
        go_wp2_with fail
        refine (kr.out _ _ (Vals.lit w1 [⟨k, n, t⟩, ⟨k, n, t⟩] _ rfl)).mono ?_
        rintro e w2 ⟨rfl, hK⟩
        have HK2 := hidden ((HK1.out.alloc _).trans hK (fun _ _ h => h))
        have VA2 := hidden (show IsVar w2 w.heap.size ⟨k, n, t⟩ from hK.heap (blk_alloc VA1.out _) (fun h => h))
        have VB2 := hidden (show IsVar w2 (w.heap.size + 1) ⟨k, n, t⟩ from hK.heap (blk_alloc VB1.out _) (fun h => h))
        clear hK a0 a1 a2 b0 b1 b2 VA1 VB1 HK1
        obtain ⟨a0, a1, a2, -⟩ := VA2.out.cells
        obtain ⟨b0, b1, b2, -⟩ := VB2.out.cells
        simp only at a0 a1 a2 b0 b1 b2
        have hz2 := blk_lt VB2.out
        go_wp2_with fail
        refine (c1.out _).mono ?_
        rintro e w3 ⟨rfl, hK⟩
        have VA3 := hidden (show IsVar w3 w.heap.size ⟨k, n, t⟩ from hK.heap VA2.out (fun h => h))
        have VB3 := hidden (show IsVar w3 (w.heap.size + 1) ⟨k, n, t⟩ from hK.heap VB2.out (fun h => h))
        have HK3 := hidden (HK2.out.trans hK (fun _ _ h => h))
        clear hK a0 a1 a2 b0 b1 b2 hz2
        obtain ⟨a0, a1, a2, -⟩ := VA3.out.cells
        obtain ⟨b0, b1, b2, -⟩ := VB3.out.cells
        simp only at a0 a1 a2 b0 b1 b2
        have hz3 := blk_lt VB3.out
        have hy3 := blk_lt VA3.out
        go_wp2_with fail
        refine (c2.out _).mono ?_
        rintro e w4 ⟨rfl, hK⟩
        have VA4 := hidden (show IsVar w4 w.heap.size ⟨k, n, t⟩ from hK.heap VA3.out (fun h => h))
        have VB4 := hidden (show IsVar w4 (w.heap.size + 1) ⟨k, n, t⟩ from hK.heap VB3.out (fun h => h))
        have HK4 := hidden (HK3.out.trans hK (fun _ _ h => h))
        clear hK a0 a1 a2 b0 b1 b2 hz3
        obtain ⟨a0, a1, a2, -⟩ := VA4.out.cells
        obtain ⟨b0, b1, b2, -⟩ := VB4.out.cells
        simp only at a0 a1 a2 b0 b1 b2
        have hz4 := blk_lt VB4.out
        have hy4 := blk_lt VA4.out
        go_wp2_with fail
        go_region_held3 (fun w' => w'.cell? ⟨w.heap.size, 0, none⟩ = some (.int .i64 k) ∧ w'.cell? ⟨w.heap.size, 1, none⟩ = some (.int .i64 n) ∧ w'.cell? ⟨w.heap.size, 2, none⟩ = some (.string t) ∧ w'.cell? ⟨w.heap.size + 1, 0, none⟩ = some (.int .i64 k) ∧ w'.cell? ⟨w.heap.size + 1, 1, none⟩ = some (.int .i64 n) ∧ w'.cell? ⟨w.heap.size + 1, 2, none⟩ = some (.string t)) (first | exact ⟨a0, a1, a2, b0, b1, b2⟩ | exact ⟨d0, d1, d2, d3, d4, d5⟩ | exact ⟨e0, e1, e2, e3, e4, e5⟩) (first | (go_at_call 42; refine (c3.out _).mono ?_; rintro e w5 ⟨rfl, hK⟩; clear c3; have VA5 := hidden (show IsVar w5 w.heap.size ⟨k, n, t⟩ from hK.heap VA4.out (fun h => h)); have VB5 := hidden (show IsVar w5 (w.heap.size + 1) ⟨k, n, t⟩ from hK.heap VB4.out (fun h => h)); have HK5 := hidden ((HK4.out.drewN _).trans hK (fun _ _ h => h)); clear hK; obtain ⟨d0, d1, d2, -⟩ := VA5.out.cells; obtain ⟨d3, d4, d5, -⟩ := VB5.out.cells; simp only at d0 d1 d2 d3 d4 d5) | (go_at_call 42; refine (c4.out _).mono ?_; rintro e w6 ⟨rfl, hK⟩; have VA6 := hidden (show IsVar w6 w.heap.size ⟨k, n, t⟩ from hK.heap VA5.out (fun h => h)); have VB6 := hidden (show IsVar w6 (w.heap.size + 1) ⟨k, n, t⟩ from hK.heap VB5.out (fun h => h)); have HK6 := hidden (HK5.out.trans hK (fun _ _ h => h)); clear hK; obtain ⟨e0, e1, e2, -⟩ := VA6.out.cells; obtain ⟨e3, e4, e5, -⟩ := VB6.out.cells; simp only at e0 e1 e2 e3 e4 e5; have hz6 := blk_lt VB6.out; have hy6 := blk_lt VA6.out))
        all_goals go_wp2_with fail
        all_goals go_quiet (fail)
        all_goals go_wp2_with fail
        all_goals exact hR.out _ _ ⟨rfl, (HK6.out.drewN _).toNew (fun _ h => h.elim)⟩
    have hsm : decide (a = b) = false := decide_eq_false hab
    by_cases hk : a.k = b.k
    · by_cases h3 : b.k = 3
      · have hn : a.n = b.n := by rw [na (.inr (by omega)), nb (.inr h3)]
        obtain ⟨k, n, t⟩ := a
        obtain ⟨k2, n2, t2⟩ := b
        simp only at *
        subst h3
        subst hk
        subst hn
        have hT : ¬ t = t2 := fun e => hab (by rw [e])
        have hT1 : (t.toList == t2.toList) = false := by simpa [toList_inj] using hT
        have hT2 : ¬ t.toList = t2.toList := by simpa [toList_inj] using hT
        clear hab hok ta na ba ra tb nb bb rb hT
        have c1 := hidden (fun W => value_Same ⟨3, n, t⟩ ⟨3, n, t2⟩ W)
        rw [hsm] at c1
        have c2 := hidden (fun W => value_Same ⟨3, n, t⟩ ⟨3, n, t⟩ W)
        rw [show decide ((⟨3, n, t⟩ : V) = ⟨3, n, t⟩) = true from decide_eq_true rfl] at c2
        have c3 := hidden (fun W => value_Hash ⟨3, n, t⟩ W (show t.size ≤ 140737488351232 by omega))
        have c4 := hidden (fun W => value_Hash ⟨3, n, t2⟩ W (show t2.size ≤ 140737488351232 by omega))
        try rw [hae] at c4
        generalize V.hash ⟨3, n, t⟩ = hx at *
        try generalize V.hash ⟨3, n, t2⟩ = hy at *
        clear hsm
        obtain ⟨va, vb, hK0⟩ := box2 w 3 n 3 n t t2
        have VA := hidden va
        have VB := hidden vb
        have HK0 := hidden hK0
        clear va vb hK0
        unfold V.val at *
        go_enter Try.func9, Try.ntmps9
        go_wp2_with fail
        refine (kt.out _).mono ?_
        rintro e w1 ⟨rfl, hK⟩
        have HK1 := hidden ((HK0.out).trans hK (fun _ _ h => h))
        have VA1 := hidden (show IsVar w1 w.heap.size ⟨3, n, t⟩ from hK.heap VA.out (fun h => h))
        have VB1 := hidden (show IsVar w1 (w.heap.size + 1) ⟨3, n, t2⟩ from hK.heap VB.out (fun h => h))
        obtain ⟨a0, a1, a2, -⟩ := VA1.out.cells
        obtain ⟨b0, b1, b2, -⟩ := VB1.out.cells
        simp only at a0 a1 a2 b0 b1 b2
        clear hK
        go_wp2_with fail
        refine (kr.out _ _ (Vals.lit w1 [⟨3, n, t⟩, ⟨3, n, t2⟩] _ rfl)).mono ?_
        rintro e w2 ⟨rfl, hK⟩
        have HK2 := hidden ((HK1.out.alloc _).trans hK (fun _ _ h => h))
        have VA2 := hidden (show IsVar w2 w.heap.size ⟨3, n, t⟩ from hK.heap (blk_alloc VA1.out _) (fun h => h))
        have VB2 := hidden (show IsVar w2 (w.heap.size + 1) ⟨3, n, t2⟩ from hK.heap (blk_alloc VB1.out _) (fun h => h))
        clear hK a0 a1 a2 b0 b1 b2 VA1 VB1 HK1
        obtain ⟨a0, a1, a2, -⟩ := VA2.out.cells
        obtain ⟨b0, b1, b2, -⟩ := VB2.out.cells
        simp only at a0 a1 a2 b0 b1 b2
        have hz2 := blk_lt VB2.out
        go_wp2_with fail
        refine (c1.out _).mono ?_
        rintro e w3 ⟨rfl, hK⟩
        have VA3 := hidden (show IsVar w3 w.heap.size ⟨3, n, t⟩ from hK.heap VA2.out (fun h => h))
        have VB3 := hidden (show IsVar w3 (w.heap.size + 1) ⟨3, n, t2⟩ from hK.heap VB2.out (fun h => h))
        have HK3 := hidden (HK2.out.trans hK (fun _ _ h => h))
        clear hK a0 a1 a2 b0 b1 b2 hz2
        obtain ⟨a0, a1, a2, -⟩ := VA3.out.cells
        obtain ⟨b0, b1, b2, -⟩ := VB3.out.cells
        simp only at a0 a1 a2 b0 b1 b2
        have hz3 := blk_lt VB3.out
        have hy3 := blk_lt VA3.out
        go_wp2_with fail
        refine (c2.out _).mono ?_
        rintro e w4 ⟨rfl, hK⟩
        have VA4 := hidden (show IsVar w4 w.heap.size ⟨3, n, t⟩ from hK.heap VA3.out (fun h => h))
        have VB4 := hidden (show IsVar w4 (w.heap.size + 1) ⟨3, n, t2⟩ from hK.heap VB3.out (fun h => h))
        have HK4 := hidden (HK3.out.trans hK (fun _ _ h => h))
        clear hK a0 a1 a2 b0 b1 b2 hz3
        obtain ⟨a0, a1, a2, -⟩ := VA4.out.cells
        obtain ⟨b0, b1, b2, -⟩ := VB4.out.cells
        simp only at a0 a1 a2 b0 b1 b2
        have hz4 := blk_lt VB4.out
        have hy4 := blk_lt VA4.out
        go_wp2_with fail
        go_quiet (fail)
        go_wp2_with fail
        go_quiet (fail)
        go_wp2_with fail
        exact hR.out _ _ ⟨rfl, ((HK4.out.drewN _).drewN _).toNew (fun _ h => h.elim)⟩
      · have e0 : b.k ≠ 0 := by
          intro e0
          have q3 := na (.inl (by omega))
          have q4 := nb (.inl e0)
          have q5 := ta (by omega)
          have q6 := tb (by omega)
          apply hab
          obtain ⟨k, n, t⟩ := a
          obtain ⟨k2, n2, t2⟩ := b
          simp only at *
          subst hk q3 q4 q5 q6
          rfl
        have hta := ta (by omega)
        have htb := tb h3
        obtain ⟨k, n, t⟩ := a
        obtain ⟨k2, n2, t2⟩ := b
        simp only at *
        subst hk
        subst hta
        subst htb
        have hn : ¬ n = n2 := fun e => hab (by rw [e])
        have hN : (n == n2) = false := by simpa using hn
        have hH := hash_ne (t := ⟨#[]⟩) (t2 := ⟨#[]⟩) h3 e0 ha hb hn
        have i3 : (k == 3) = false := by simpa using h3
        clear hab hok na ba ra nb bb rb hn ta tb
        have c1 := hidden (fun W => value_Same ⟨k, n, ⟨#[]⟩⟩ ⟨k, n2, ⟨#[]⟩⟩ W)
        rw [hsm] at c1
        have c2 := hidden (fun W => value_Same ⟨k, n, ⟨#[]⟩⟩ ⟨k, n, ⟨#[]⟩⟩ W)
        rw [show decide ((⟨k, n, ⟨#[]⟩⟩ : V) = ⟨k, n, ⟨#[]⟩⟩) = true from decide_eq_true rfl] at c2
        have c3 := hidden (fun W => value_Hash ⟨k, n, ⟨#[]⟩⟩ W (show (⟨#[]⟩ : ByteArray).size ≤ 140737488351232 by omega))
        have c4 := hidden (fun W => value_Hash ⟨k, n2, ⟨#[]⟩⟩ W (show (⟨#[]⟩ : ByteArray).size ≤ 140737488351232 by omega))
        try rw [hae] at c4
        generalize V.hash ⟨k, n, ⟨#[]⟩⟩ = hx at *
        try generalize V.hash ⟨k, n2, ⟨#[]⟩⟩ = hy at *
        clear hsm
        obtain ⟨va, vb, hK0⟩ := box2 w k n k n2 ⟨#[]⟩ ⟨#[]⟩
        have VA := hidden va
        have VB := hidden vb
        have HK0 := hidden hK0
        clear va vb hK0
        unfold V.val at *
        go_enter Try.func9, Try.ntmps9
        go_wp2_with fail
        refine (kt.out _).mono ?_
        rintro e w1 ⟨rfl, hK⟩
        have HK1 := hidden ((HK0.out).trans hK (fun _ _ h => h))
        have VA1 := hidden (show IsVar w1 w.heap.size ⟨k, n, ⟨#[]⟩⟩ from hK.heap VA.out (fun h => h))
        have VB1 := hidden (show IsVar w1 (w.heap.size + 1) ⟨k, n2, ⟨#[]⟩⟩ from hK.heap VB.out (fun h => h))
        obtain ⟨a0, a1, a2, -⟩ := VA1.out.cells
        obtain ⟨b0, b1, b2, -⟩ := VB1.out.cells
        simp only at a0 a1 a2 b0 b1 b2
        clear hK
        go_wp2_with fail
        refine (kr.out _ _ (Vals.lit w1 [⟨k, n, ⟨#[]⟩⟩, ⟨k, n2, ⟨#[]⟩⟩] _ rfl)).mono ?_
        rintro e w2 ⟨rfl, hK⟩
        have HK2 := hidden ((HK1.out.alloc _).trans hK (fun _ _ h => h))
        have VA2 := hidden (show IsVar w2 w.heap.size ⟨k, n, ⟨#[]⟩⟩ from hK.heap (blk_alloc VA1.out _) (fun h => h))
        have VB2 := hidden (show IsVar w2 (w.heap.size + 1) ⟨k, n2, ⟨#[]⟩⟩ from hK.heap (blk_alloc VB1.out _) (fun h => h))
        clear hK a0 a1 a2 b0 b1 b2 VA1 VB1 HK1
        obtain ⟨a0, a1, a2, -⟩ := VA2.out.cells
        obtain ⟨b0, b1, b2, -⟩ := VB2.out.cells
        simp only at a0 a1 a2 b0 b1 b2
        have hz2 := blk_lt VB2.out
        go_wp2_with fail
        refine (c1.out _).mono ?_
        rintro e w3 ⟨rfl, hK⟩
        have VA3 := hidden (show IsVar w3 w.heap.size ⟨k, n, ⟨#[]⟩⟩ from hK.heap VA2.out (fun h => h))
        have VB3 := hidden (show IsVar w3 (w.heap.size + 1) ⟨k, n2, ⟨#[]⟩⟩ from hK.heap VB2.out (fun h => h))
        have HK3 := hidden (HK2.out.trans hK (fun _ _ h => h))
        clear hK a0 a1 a2 b0 b1 b2 hz2
        obtain ⟨a0, a1, a2, -⟩ := VA3.out.cells
        obtain ⟨b0, b1, b2, -⟩ := VB3.out.cells
        simp only at a0 a1 a2 b0 b1 b2
        have hz3 := blk_lt VB3.out
        have hy3 := blk_lt VA3.out
        go_wp2_with fail
        refine (c2.out _).mono ?_
        rintro e w4 ⟨rfl, hK⟩
        have VA4 := hidden (show IsVar w4 w.heap.size ⟨k, n, ⟨#[]⟩⟩ from hK.heap VA3.out (fun h => h))
        have VB4 := hidden (show IsVar w4 (w.heap.size + 1) ⟨k, n2, ⟨#[]⟩⟩ from hK.heap VB3.out (fun h => h))
        have HK4 := hidden (HK3.out.trans hK (fun _ _ h => h))
        clear hK a0 a1 a2 b0 b1 b2 hz3
        obtain ⟨a0, a1, a2, -⟩ := VA4.out.cells
        obtain ⟨b0, b1, b2, -⟩ := VB4.out.cells
        simp only at a0 a1 a2 b0 b1 b2
        have hz4 := blk_lt VB4.out
        have hy4 := blk_lt VA4.out
        have hH2 : (hx != hy) = true := by simpa using hH
        go_wp2_with fail
        go_quiet (fail)
        go_wp2_with fail
        have HK4 := hidden (HK4.out.drewN nq)
        have VA4 := hidden (show IsVar (w4.drewN nq) w.heap.size ⟨k, n, ⟨#[]⟩⟩ from VA4.out)
        have VB4 := hidden (show IsVar (w4.drewN nq) (w.heap.size + 1) ⟨k, n2, ⟨#[]⟩⟩ from VB4.out)
        clear a0 a1 a2 b0 b1 b2
        obtain ⟨a0, a1, a2, -⟩ := VA4.out.cells
        obtain ⟨b0, b1, b2, -⟩ := VB4.out.cells
        simp only at a0 a1 a2 b0 b1 b2
        generalize w4.drewN nq = w4 at *
        have hz4 := blk_lt VB4.out
        have hy4 := blk_lt VA4.out
        go_region_held3 (fun w' => w'.cell? ⟨w.heap.size, 0, none⟩ = some (.int .i64 k) ∧ w'.cell? ⟨w.heap.size, 1, none⟩ = some (.int .i64 n) ∧ w'.cell? ⟨w.heap.size, 2, none⟩ = some (.string ⟨#[]⟩) ∧ w'.cell? ⟨w.heap.size + 1, 0, none⟩ = some (.int .i64 k) ∧ w'.cell? ⟨w.heap.size + 1, 1, none⟩ = some (.int .i64 n2) ∧ w'.cell? ⟨w.heap.size + 1, 2, none⟩ = some (.string ⟨#[]⟩)) (first | exact ⟨a0, a1, a2, b0, b1, b2⟩ | exact ⟨d0, d1, d2, d3, d4, d5⟩ | exact ⟨e0, e1, e2, e3, e4, e5⟩) (first | (go_at_call 42; refine (c3.out _).mono ?_; rintro e w5 ⟨rfl, hK⟩; clear c3; have VA5 := hidden (show IsVar w5 w.heap.size ⟨k, n, ⟨#[]⟩⟩ from hK.heap VA4.out (fun h => h)); have VB5 := hidden (show IsVar w5 (w.heap.size + 1) ⟨k, n2, ⟨#[]⟩⟩ from hK.heap VB4.out (fun h => h)); have HK5 := hidden ((HK4.out.drewN _).trans hK (fun _ _ h => h)); clear hK; obtain ⟨d0, d1, d2, -⟩ := VA5.out.cells; obtain ⟨d3, d4, d5, -⟩ := VB5.out.cells; simp only at d0 d1 d2 d3 d4 d5) | (go_at_call 42; refine (c4.out _).mono ?_; rintro e w6 ⟨rfl, hK⟩; have VA6 := hidden (show IsVar w6 w.heap.size ⟨k, n, ⟨#[]⟩⟩ from hK.heap VA5.out (fun h => h)); have VB6 := hidden (show IsVar w6 (w.heap.size + 1) ⟨k, n2, ⟨#[]⟩⟩ from hK.heap VB5.out (fun h => h)); have HK6 := hidden (HK5.out.trans hK (fun _ _ h => h)); clear hK; obtain ⟨e0, e1, e2, -⟩ := VA6.out.cells; obtain ⟨e3, e4, e5, -⟩ := VB6.out.cells; simp only at e0 e1 e2 e3 e4 e5; have hz6 := blk_lt VB6.out; have hy6 := blk_lt VA6.out))
        all_goals go_wp2_with fail
        all_goals try go_ret
        all_goals exact hR.out _ _ ⟨(by first | rfl | simp [Act.put]), HK6.out.toNew (fun _ h => h.elim)⟩
    obtain ⟨k, n, t⟩ := a
    obtain ⟨k2, n2, t2⟩ := b
    simp only at *
    have j2 : (k == k2) = false := by simpa using hk
    have j3 : (k != k2) = true := by simpa using hk
    clear hab hok ta na ba ra tb nb bb rb
    have c1 := hidden (fun W => value_Same ⟨k, n, t⟩ ⟨k2, n2, t2⟩ W)
    rw [hsm] at c1
    have c2 := hidden (fun W => value_Same ⟨k, n, t⟩ ⟨k, n, t⟩ W)
    rw [show decide ((⟨k, n, t⟩ : V) = ⟨k, n, t⟩) = true from decide_eq_true rfl] at c2
    have c3 := hidden (fun W => value_Hash ⟨k, n, t⟩ W (show t.size ≤ 140737488351232 by omega))
    have c4 := hidden (fun W => value_Hash ⟨k2, n2, t2⟩ W (show t2.size ≤ 140737488351232 by omega))
    try rw [hae] at c4
    generalize V.hash ⟨k, n, t⟩ = hx at *
    try generalize V.hash ⟨k2, n2, t2⟩ = hy at *
    clear hsm
    obtain ⟨va, vb, hK0⟩ := box2 w k n k2 n2 t t2
    have VA := hidden va
    have VB := hidden vb
    have HK0 := hidden hK0
    clear va vb hK0
    unfold V.val at *
    go_enter Try.func9, Try.ntmps9
    go_wp2_with fail
    refine (kt.out _).mono ?_
    rintro e w1 ⟨rfl, hK⟩
    have HK1 := hidden ((HK0.out).trans hK (fun _ _ h => h))
    have VA1 := hidden (show IsVar w1 w.heap.size ⟨k, n, t⟩ from hK.heap VA.out (fun h => h))
    have VB1 := hidden (show IsVar w1 (w.heap.size + 1) ⟨k2, n2, t2⟩ from hK.heap VB.out (fun h => h))
    obtain ⟨a0, a1, a2, -⟩ := VA1.out.cells
    obtain ⟨b0, b1, b2, -⟩ := VB1.out.cells
    simp only at a0 a1 a2 b0 b1 b2
    clear hK
    go_wp2_with fail
    refine (kr.out _ _ (Vals.lit w1 [⟨k, n, t⟩, ⟨k2, n2, t2⟩] _ rfl)).mono ?_
    rintro e w2 ⟨rfl, hK⟩
    have HK2 := hidden ((HK1.out.alloc _).trans hK (fun _ _ h => h))
    have VA2 := hidden (show IsVar w2 w.heap.size ⟨k, n, t⟩ from hK.heap (blk_alloc VA1.out _) (fun h => h))
    have VB2 := hidden (show IsVar w2 (w.heap.size + 1) ⟨k2, n2, t2⟩ from hK.heap (blk_alloc VB1.out _) (fun h => h))
    clear hK a0 a1 a2 b0 b1 b2 VA1 VB1 HK1
    obtain ⟨a0, a1, a2, -⟩ := VA2.out.cells
    obtain ⟨b0, b1, b2, -⟩ := VB2.out.cells
    simp only at a0 a1 a2 b0 b1 b2
    have hz2 := blk_lt VB2.out
    go_wp2_with fail
    refine (c1.out _).mono ?_
    rintro e w3 ⟨rfl, hK⟩
    have VA3 := hidden (show IsVar w3 w.heap.size ⟨k, n, t⟩ from hK.heap VA2.out (fun h => h))
    have VB3 := hidden (show IsVar w3 (w.heap.size + 1) ⟨k2, n2, t2⟩ from hK.heap VB2.out (fun h => h))
    have HK3 := hidden (HK2.out.trans hK (fun _ _ h => h))
    clear hK a0 a1 a2 b0 b1 b2 hz2
    obtain ⟨a0, a1, a2, -⟩ := VA3.out.cells
    obtain ⟨b0, b1, b2, -⟩ := VB3.out.cells
    simp only at a0 a1 a2 b0 b1 b2
    have hz3 := blk_lt VB3.out
    have hy3 := blk_lt VA3.out
    go_wp2_with fail
    refine (c2.out _).mono ?_
    rintro e w4 ⟨rfl, hK⟩
    have VA4 := hidden (show IsVar w4 w.heap.size ⟨k, n, t⟩ from hK.heap VA3.out (fun h => h))
    have VB4 := hidden (show IsVar w4 (w.heap.size + 1) ⟨k2, n2, t2⟩ from hK.heap VB3.out (fun h => h))
    have HK4 := hidden (HK3.out.trans hK (fun _ _ h => h))
    clear hK a0 a1 a2 b0 b1 b2 hz3
    obtain ⟨a0, a1, a2, -⟩ := VA4.out.cells
    obtain ⟨b0, b1, b2, -⟩ := VB4.out.cells
    simp only at a0 a1 a2 b0 b1 b2
    have hz4 := blk_lt VB4.out
    have hy4 := blk_lt VA4.out
    go_wp2_with fail
    go_quiet (fail)
    go_wp2_with fail
    go_quiet (fail)
    go_wp2_with fail
    exact hR.out _ _ ⟨rfl, ((HK4.out.drewN _).drewN _).toNew (fun _ h => h.elim)⟩
end Go.Proofs.Ytmjkglmkckofgaa
