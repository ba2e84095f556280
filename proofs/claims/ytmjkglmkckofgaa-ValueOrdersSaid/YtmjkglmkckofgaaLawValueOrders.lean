/- The walk of the statement ValueOrders. -/
import Derived.Test.YtmjkglmkckofgaaVal3
namespace Go.Proofs.Ytmjkglmkckofgaa
open Go.RowKit
set_option maxRecDepth 100000

theorem cmpL_turn (l : List UInt8) : ∀ m, cmpL m l = - cmpL l m := by
  induction l with
  | nil => intro m; cases m <;> simp [cmpL]
  | cons a l ih =>
    intro m
    cases m with
    | nil => simp [cmpL]
    | cons b m =>
      simp only [cmpL]
      by_cases h : a = b
      · subst h; simp [ih]
      · have hne : ¬ a.toNat = b.toNat := fun e => h (UInt8.toNat_inj.1 e)
        rw [if_neg h, if_neg (fun e => h e.symm)]
        by_cases hlt : a.toNat < b.toNat
        · rw [if_pos hlt, if_neg (by omega)]; rfl
        · rw [if_neg hlt, if_pos (by omega)]
theorem cmpL_is (l : List UInt8) : ∀ m, -1 ≤ cmpL l m ∧ cmpL l m ≤ 1 := by
  induction l with
  | nil => intro m; cases m <;> simp [cmpL]
  | cons a l ih =>
    intro m
    cases m with
    | nil => simp [cmpL]
    | cons b m =>
      simp only [cmpL]
      split
      · exact ih m
      · split <;> omega
theorem cmpI_turn (x y : Int) : cmpI y x = - cmpI x y := by
  unfold cmpI
  by_cases h : x < y
  · rw [if_pos h, if_neg (by omega), if_pos h]; rfl
  · rw [if_neg h]
    by_cases h2 : y < x
    · rw [if_pos h2, if_neg h, if_pos h2]
    · rw [if_neg h2, if_neg h, if_neg h2]; rfl
theorem cmpI_is (x y : Int) : -1 ≤ cmpI x y ∧ cmpI x y ≤ 1 := by
  unfold cmpI; split
  · omega
  · split <;> omega
set_option maxHeartbeats 8000000 in
theorem valueOrders_walk (w : World) (a b : V) (ha : -9223372036854775808 ≤ a.n ∧ a.n ≤ 9223372036854775807) (hb : -9223372036854775808 ≤ b.n ∧ b.n ≤ 9223372036854775807) :
    Calls Try.prog 5 #[a.val, b.val] w fun e w' => e = .returned (.bool true) ∧ Below w.heap.size w w' := by
  have kt := hidden (fun W => tells_true W)
  have kr := hidden (fun (W : World) (A : Option Addr) (hs : Vals W A [a, b]) => right_any W A 2 [a, b] hs (by simp))
  have hall : [a, b].all V.ok = (a.ok && b.ok) := by simp
  rw [hall] at kr
  clear hall
  refine post_gen fun R hR => ?_
  cases hok : (a.ok && b.ok) with
  | false =>
    rw [hok] at kr
    obtain ⟨k, n, t⟩ := a
    obtain ⟨k2, n2, t2⟩ := b
    clear hok
    obtain ⟨va, vb, hK0⟩ := box2 w k n k2 n2 t t2
    have VA := hidden va
    have VB := hidden vb
    have HK0 := hidden hK0
    clear va vb hK0
    unfold V.val at *
    go_enter Try.func5, Try.ntmps5
    go_wp2_with fail
    refine (kt.out _).mono ?_
    rintro e w1 ⟨rfl, hK⟩
    have HK1 := hidden ((HK0.out).trans hK (fun _ _ h => h))
    have VA1 := hidden (show IsVar w1 w.heap.size ⟨k, n, t⟩ from hK.heap VA.out (fun h => h))
    have VB1 := hidden (show IsVar w1 (w.heap.size + 1) ⟨k2, n2, t2⟩ from hK.heap VB.out (fun h => h))
    obtain ⟨a0, a1, a2, -⟩ := VA1.out.cells
    obtain ⟨b0, b1, b2, -⟩ := VB1.out.cells
    simp only at a0 a1 a2 b0 b1 b2
    clear hK
    go_wp2_with fail
    refine (kr.out _ _ (Vals.lit w1 [⟨k, n, t⟩, ⟨k2, n2, t2⟩] _ rfl)).mono ?_
    rintro e w2 ⟨rfl, hK⟩
    have HK2 := hidden ((HK1.out.alloc _).trans hK (fun _ _ h => h))
    have VA2 := hidden (show IsVar w2 w.heap.size ⟨k, n, t⟩ from hK.heap (blk_alloc VA1.out _) (fun h => h))
    have VB2 := hidden (show IsVar w2 (w.heap.size + 1) ⟨k2, n2, t2⟩ from hK.heap (blk_alloc VB1.out _) (fun h => h))
    clear hK a0 a1 a2 b0 b1 b2 VA1 VB1 HK1
    go_wp2_with fail
    exact hR.out _ _ ⟨rfl, HK2.out.toNew (fun _ h => h.elim)⟩
  | true =>
    rw [hok] at kr
    simp only [Bool.and_eq_true] at hok
    obtain ⟨sa, ka0, ka4, ta, na, ba, ra⟩ := ok_is hok.1
    obtain ⟨sb, kb0, kb4, tb, nb, bb, rb⟩ := ok_is hok.2
    have h00 : a.k = 0 → b.k = 0 → a = b := by
      intro h1 h2
      have h3 := na (.inl h1)
      have h4 := nb (.inl h2)
      have h5 := ta (by omega)
      have h6 := tb (by omega)
      obtain ⟨k, n, t⟩ := a
      obtain ⟨k2, n2, t2⟩ := b
      simp only at *
      subst h1 h2 h3 h4 h5 h6
      rfl
    clear hok ta na ba ra tb nb bb rb
    by_cases hab : a = b
    · subst hab
      have hcm : V.cmp a a = (0, 0) := if_pos rfl
      have hsm : decide (a = a) = true := decide_eq_true rfl
      obtain ⟨k, n, t⟩ := a
      simp only at sa ka0 ka4
      clear h00
      have c1 := hidden (fun W => value_Compare ⟨k, n, t⟩ ⟨k, n, t⟩ W (show t.size ≤ 140737488351232 by omega) (show t.size ≤ 140737488351232 by omega))
      have c2 := hidden (fun W => value_Compare ⟨k, n, t⟩ ⟨k, n, t⟩ W (show t.size ≤ 140737488351232 by omega) (show t.size ≤ 140737488351232 by omega))
      rw [hcm] at c1
      rw [hcm] at c2
      have c3 := hidden (fun W => value_Same ⟨k, n, t⟩ ⟨k, n, t⟩ W)
      rw [hsm] at c3
      clear hcm  hsm
      obtain ⟨va, vb, hK0⟩ := box2 w k n k n t t
      have VA := hidden va
      have VB := hidden vb
      have HK0 := hidden hK0
      clear va vb hK0
      unfold V.val at *
      go_enter Try.func5, Try.ntmps5
      go_wp2_with fail
      refine (kt.out _).mono ?_
      rintro e w1 ⟨rfl, hK⟩
      have HK1 := hidden ((HK0.out).trans hK (fun _ _ h => h))
      have VA1 := hidden (show IsVar w1 w.heap.size ⟨k, n, t⟩ from hK.heap VA.out (fun h => h))
      have VB1 := hidden (show IsVar w1 (w.heap.size + 1) ⟨k, n, t⟩ from hK.heap VB.out (fun h => h))
      obtain ⟨a0, a1, a2, -⟩ := VA1.out.cells
      obtain ⟨b0, b1, b2, -⟩ := VB1.out.cells
      simp only at a0 a1 a2 b0 b1 b2
      clear hK
      go_wp2_with fail
      refine (kr.out _ _ (Vals.lit w1 [⟨k, n, t⟩, ⟨k, n, t⟩] _ rfl)).mono ?_
      rintro e w2 ⟨rfl, hK⟩
      have HK2 := hidden ((HK1.out.alloc _).trans hK (fun _ _ h => h))
      have VA2 := hidden (show IsVar w2 w.heap.size ⟨k, n, t⟩ from hK.heap (blk_alloc VA1.out _) (fun h => h))
      have VB2 := hidden (show IsVar w2 (w.heap.size + 1) ⟨k, n, t⟩ from hK.heap (blk_alloc VB1.out _) (fun h => h))
      clear hK a0 a1 a2 b0 b1 b2 VA1 VB1 HK1
      obtain ⟨a0, a1, a2, -⟩ := VA2.out.cells
      obtain ⟨b0, b1, b2, -⟩ := VB2.out.cells
      simp only at a0 a1 a2 b0 b1 b2
      have hz2 := blk_lt VB2.out
      go_wp2_with fail
      refine (c1.out _).mono ?_
      rintro e w3 ⟨rfl, hK⟩
      have VA3 := hidden (show IsVar w3 w.heap.size ⟨k, n, t⟩ from hK.heap VA2.out (fun h => h))
      have VB3 := hidden (show IsVar w3 (w.heap.size + 1) ⟨k, n, t⟩ from hK.heap VB2.out (fun h => h))
      have HK3 := hidden (HK2.out.trans hK (fun _ _ h => h))
      clear hK a0 a1 a2 b0 b1 b2 hz2
      obtain ⟨a0, a1, a2, -⟩ := VA3.out.cells
      obtain ⟨b0, b1, b2, -⟩ := VB3.out.cells
      simp only at a0 a1 a2 b0 b1 b2
      have hz3 := blk_lt VB3.out
      go_wp2_with fail
      refine (c2.out _).mono ?_
      rintro e w4 ⟨rfl, hK⟩
      have VA4 := hidden (show IsVar w4 w.heap.size ⟨k, n, t⟩ from hK.heap VA3.out (fun h => h))
      have VB4 := hidden (show IsVar w4 (w.heap.size + 1) ⟨k, n, t⟩ from hK.heap VB3.out (fun h => h))
      have HK4 := hidden (HK3.out.trans hK (fun _ _ h => h))
      clear hK a0 a1 a2 b0 b1 b2 hz3
      obtain ⟨a0, a1, a2, -⟩ := VA4.out.cells
      obtain ⟨b0, b1, b2, -⟩ := VB4.out.cells
      simp only at a0 a1 a2 b0 b1 b2
      have hz4 := blk_lt VB4.out
      go_wp2_with fail
      refine (c3.out _).mono ?_
      rintro e w5 ⟨rfl, hK⟩
      have VA5 := hidden (show IsVar w5 w.heap.size ⟨k, n, t⟩ from hK.heap VA4.out (fun h => h))
      have VB5 := hidden (show IsVar w5 (w.heap.size + 1) ⟨k, n, t⟩ from hK.heap VB4.out (fun h => h))
      have HK5 := hidden (HK4.out.trans hK (fun _ _ h => h))
      clear hK a0 a1 a2 b0 b1 b2 hz4
      obtain ⟨a0, a1, a2, -⟩ := VA5.out.cells
      obtain ⟨b0, b1, b2, -⟩ := VB5.out.cells
      simp only at a0 a1 a2 b0 b1 b2
      have hz5 := blk_lt VB5.out
      go_wp2_with fail
      exact hR.out _ _ ⟨rfl, HK5.out.toNew (fun _ h => h.elim)⟩
    have hsm : decide (a = b) = false := decide_eq_false hab
    have hba : ¬ b = a := fun h => hab h.symm
    by_cases g0 : a.k = 0
    · have hcm : V.cmp a b = (-1, 0) := by unfold V.cmp; rw [if_neg hab, if_pos g0]
      have e0 : ¬ b.k = 0 := fun e0 => hab (h00 g0 e0)
      have hcn : V.cmp b a = (1, 0) := by unfold V.cmp; rw [if_neg hba, if_neg e0, if_pos g0]
      obtain ⟨k, n, t⟩ := a
      obtain ⟨k2, n2, t2⟩ := b
      simp only at *
      subst g0
      have j0 : (k2 == 0) = false := by simpa using e0
      clear hab hba h00
      have c1 := hidden (fun W => value_Compare ⟨0, n, t⟩ ⟨k2, n2, t2⟩ W (show t.size ≤ 140737488351232 by omega) (show t2.size ≤ 140737488351232 by omega))
      have c2 := hidden (fun W => value_Compare ⟨k2, n2, t2⟩ ⟨0, n, t⟩ W (show t2.size ≤ 140737488351232 by omega) (show t.size ≤ 140737488351232 by omega))
      rw [hcm] at c1
      rw [hcn] at c2
      have c3 := hidden (fun W => value_Same ⟨0, n, t⟩ ⟨k2, n2, t2⟩ W)
      rw [hsm] at c3
      clear hcm hcn hsm
      obtain ⟨va, vb, hK0⟩ := box2 w 0 n k2 n2 t t2
      have VA := hidden va
      have VB := hidden vb
      have HK0 := hidden hK0
      clear va vb hK0
      unfold V.val at *
      go_enter Try.func5, Try.ntmps5
      go_wp2_with fail
      refine (kt.out _).mono ?_
      rintro e w1 ⟨rfl, hK⟩
      have HK1 := hidden ((HK0.out).trans hK (fun _ _ h => h))
      have VA1 := hidden (show IsVar w1 w.heap.size ⟨0, n, t⟩ from hK.heap VA.out (fun h => h))
      have VB1 := hidden (show IsVar w1 (w.heap.size + 1) ⟨k2, n2, t2⟩ from hK.heap VB.out (fun h => h))
      obtain ⟨a0, a1, a2, -⟩ := VA1.out.cells
      obtain ⟨b0, b1, b2, -⟩ := VB1.out.cells
      simp only at a0 a1 a2 b0 b1 b2
      clear hK
      go_wp2_with fail
      refine (kr.out _ _ (Vals.lit w1 [⟨0, n, t⟩, ⟨k2, n2, t2⟩] _ rfl)).mono ?_
      rintro e w2 ⟨rfl, hK⟩
      have HK2 := hidden ((HK1.out.alloc _).trans hK (fun _ _ h => h))
      have VA2 := hidden (show IsVar w2 w.heap.size ⟨0, n, t⟩ from hK.heap (blk_alloc VA1.out _) (fun h => h))
      have VB2 := hidden (show IsVar w2 (w.heap.size + 1) ⟨k2, n2, t2⟩ from hK.heap (blk_alloc VB1.out _) (fun h => h))
      clear hK a0 a1 a2 b0 b1 b2 VA1 VB1 HK1
      obtain ⟨a0, a1, a2, -⟩ := VA2.out.cells
      obtain ⟨b0, b1, b2, -⟩ := VB2.out.cells
      simp only at a0 a1 a2 b0 b1 b2
      have hz2 := blk_lt VB2.out
      go_wp2_with fail
      refine (c1.out _).mono ?_
      rintro e w3 ⟨rfl, hK⟩
      have VA3 := hidden (show IsVar w3 w.heap.size ⟨0, n, t⟩ from hK.heap VA2.out (fun h => h))
      have VB3 := hidden (show IsVar w3 (w.heap.size + 1) ⟨k2, n2, t2⟩ from hK.heap VB2.out (fun h => h))
      have HK3 := hidden (HK2.out.trans hK (fun _ _ h => h))
      clear hK a0 a1 a2 b0 b1 b2 hz2
      obtain ⟨a0, a1, a2, -⟩ := VA3.out.cells
      obtain ⟨b0, b1, b2, -⟩ := VB3.out.cells
      simp only at a0 a1 a2 b0 b1 b2
      have hz3 := blk_lt VB3.out
      go_wp2_with fail
      refine (c2.out _).mono ?_
      rintro e w4 ⟨rfl, hK⟩
      have VA4 := hidden (show IsVar w4 w.heap.size ⟨0, n, t⟩ from hK.heap VA3.out (fun h => h))
      have VB4 := hidden (show IsVar w4 (w.heap.size + 1) ⟨k2, n2, t2⟩ from hK.heap VB3.out (fun h => h))
      have HK4 := hidden (HK3.out.trans hK (fun _ _ h => h))
      clear hK a0 a1 a2 b0 b1 b2 hz3
      obtain ⟨a0, a1, a2, -⟩ := VA4.out.cells
      obtain ⟨b0, b1, b2, -⟩ := VB4.out.cells
      simp only at a0 a1 a2 b0 b1 b2
      have hz4 := blk_lt VB4.out
      go_wp2_with fail
      refine (c3.out _).mono ?_
      rintro e w5 ⟨rfl, hK⟩
      have VA5 := hidden (show IsVar w5 w.heap.size ⟨0, n, t⟩ from hK.heap VA4.out (fun h => h))
      have VB5 := hidden (show IsVar w5 (w.heap.size + 1) ⟨k2, n2, t2⟩ from hK.heap VB4.out (fun h => h))
      have HK5 := hidden (HK4.out.trans hK (fun _ _ h => h))
      clear hK a0 a1 a2 b0 b1 b2 hz4
      obtain ⟨a0, a1, a2, -⟩ := VA5.out.cells
      obtain ⟨b0, b1, b2, -⟩ := VB5.out.cells
      simp only at a0 a1 a2 b0 b1 b2
      have hz5 := blk_lt VB5.out
      go_wp2_with fail
      exact hR.out _ _ ⟨rfl, HK5.out.toNew (fun _ h => h.elim)⟩
    clear h00
    by_cases e0 : b.k = 0
    · have hcm : V.cmp a b = (1, 0) := by unfold V.cmp; rw [if_neg hab, if_neg g0, if_pos e0]
      have hcn : V.cmp b a = (-1, 0) := by unfold V.cmp; rw [if_neg hba, if_pos e0]
      obtain ⟨k, n, t⟩ := a
      obtain ⟨k2, n2, t2⟩ := b
      simp only at *
      subst e0
      have j0 : (k == 0) = false := by simpa using g0
      clear hab hba
      have c1 := hidden (fun W => value_Compare ⟨k, n, t⟩ ⟨0, n2, t2⟩ W (show t.size ≤ 140737488351232 by omega) (show t2.size ≤ 140737488351232 by omega))
      have c2 := hidden (fun W => value_Compare ⟨0, n2, t2⟩ ⟨k, n, t⟩ W (show t2.size ≤ 140737488351232 by omega) (show t.size ≤ 140737488351232 by omega))
      rw [hcm] at c1
      rw [hcn] at c2
      have c3 := hidden (fun W => value_Same ⟨k, n, t⟩ ⟨0, n2, t2⟩ W)
      rw [hsm] at c3
      clear hcm hcn hsm
      obtain ⟨va, vb, hK0⟩ := box2 w k n 0 n2 t t2
      have VA := hidden va
      have VB := hidden vb
      have HK0 := hidden hK0
      clear va vb hK0
      unfold V.val at *
      go_enter Try.func5, Try.ntmps5
      go_wp2_with fail
      refine (kt.out _).mono ?_
      rintro e w1 ⟨rfl, hK⟩
      have HK1 := hidden ((HK0.out).trans hK (fun _ _ h => h))
      have VA1 := hidden (show IsVar w1 w.heap.size ⟨k, n, t⟩ from hK.heap VA.out (fun h => h))
      have VB1 := hidden (show IsVar w1 (w.heap.size + 1) ⟨0, n2, t2⟩ from hK.heap VB.out (fun h => h))
      obtain ⟨a0, a1, a2, -⟩ := VA1.out.cells
      obtain ⟨b0, b1, b2, -⟩ := VB1.out.cells
      simp only at a0 a1 a2 b0 b1 b2
      clear hK
      go_wp2_with fail
      refine (kr.out _ _ (Vals.lit w1 [⟨k, n, t⟩, ⟨0, n2, t2⟩] _ rfl)).mono ?_
      rintro e w2 ⟨rfl, hK⟩
      have HK2 := hidden ((HK1.out.alloc _).trans hK (fun _ _ h => h))
      have VA2 := hidden (show IsVar w2 w.heap.size ⟨k, n, t⟩ from hK.heap (blk_alloc VA1.out _) (fun h => h))
      have VB2 := hidden (show IsVar w2 (w.heap.size + 1) ⟨0, n2, t2⟩ from hK.heap (blk_alloc VB1.out _) (fun h => h))
      clear hK a0 a1 a2 b0 b1 b2 VA1 VB1 HK1
      obtain ⟨a0, a1, a2, -⟩ := VA2.out.cells
      obtain ⟨b0, b1, b2, -⟩ := VB2.out.cells
      simp only at a0 a1 a2 b0 b1 b2
      have hz2 := blk_lt VB2.out
      go_wp2_with fail
      refine (c1.out _).mono ?_
      rintro e w3 ⟨rfl, hK⟩
      have VA3 := hidden (show IsVar w3 w.heap.size ⟨k, n, t⟩ from hK.heap VA2.out (fun h => h))
      have VB3 := hidden (show IsVar w3 (w.heap.size + 1) ⟨0, n2, t2⟩ from hK.heap VB2.out (fun h => h))
      have HK3 := hidden (HK2.out.trans hK (fun _ _ h => h))
      clear hK a0 a1 a2 b0 b1 b2 hz2
      obtain ⟨a0, a1, a2, -⟩ := VA3.out.cells
      obtain ⟨b0, b1, b2, -⟩ := VB3.out.cells
      simp only at a0 a1 a2 b0 b1 b2
      have hz3 := blk_lt VB3.out
      go_wp2_with fail
      refine (c2.out _).mono ?_
      rintro e w4 ⟨rfl, hK⟩
      have VA4 := hidden (show IsVar w4 w.heap.size ⟨k, n, t⟩ from hK.heap VA3.out (fun h => h))
      have VB4 := hidden (show IsVar w4 (w.heap.size + 1) ⟨0, n2, t2⟩ from hK.heap VB3.out (fun h => h))
      have HK4 := hidden (HK3.out.trans hK (fun _ _ h => h))
      clear hK a0 a1 a2 b0 b1 b2 hz3
      obtain ⟨a0, a1, a2, -⟩ := VA4.out.cells
      obtain ⟨b0, b1, b2, -⟩ := VB4.out.cells
      simp only at a0 a1 a2 b0 b1 b2
      have hz4 := blk_lt VB4.out
      go_wp2_with fail
      refine (c3.out _).mono ?_
      rintro e w5 ⟨rfl, hK⟩
      have VA5 := hidden (show IsVar w5 w.heap.size ⟨k, n, t⟩ from hK.heap VA4.out (fun h => h))
      have VB5 := hidden (show IsVar w5 (w.heap.size + 1) ⟨0, n2, t2⟩ from hK.heap VB4.out (fun h => h))
      have HK5 := hidden (HK4.out.trans hK (fun _ _ h => h))
      clear hK a0 a1 a2 b0 b1 b2 hz4
      obtain ⟨a0, a1, a2, -⟩ := VA5.out.cells
      obtain ⟨b0, b1, b2, -⟩ := VB5.out.cells
      simp only at a0 a1 a2 b0 b1 b2
      have hz5 := blk_lt VB5.out
      go_wp2_with fail
      exact hR.out _ _ ⟨rfl, HK5.out.toNew (fun _ h => h.elim)⟩
    by_cases hk : a.k = b.k
    · by_cases h4 : b.k = 4
      · have hcm : V.cmp a b = (0, 30) := by unfold V.cmp; rw [if_neg hab, if_neg g0, if_neg e0, if_neg (by omega), if_neg (by omega)]
        have hcn : V.cmp b a = (0, 30) := by unfold V.cmp; rw [if_neg hba, if_neg e0, if_neg g0, if_neg (by omega), if_neg (by omega)]
        obtain ⟨k, n, t⟩ := a
        obtain ⟨k2, n2, t2⟩ := b
        simp only at *
        subst h4
        subst hk
        clear hab hba
        have c1 := hidden (fun W => value_Compare ⟨4, n, t⟩ ⟨4, n2, t2⟩ W (show t.size ≤ 140737488351232 by omega) (show t2.size ≤ 140737488351232 by omega))
        have c2 := hidden (fun W => value_Compare ⟨4, n2, t2⟩ ⟨4, n, t⟩ W (show t2.size ≤ 140737488351232 by omega) (show t.size ≤ 140737488351232 by omega))
        rw [hcm] at c1
        rw [hcn] at c2
        have c3 := hidden (fun W => value_Same ⟨4, n, t⟩ ⟨4, n2, t2⟩ W)
        rw [hsm] at c3
        clear hcm hcn hsm
        obtain ⟨va, vb, hK0⟩ := box2 w 4 n 4 n2 t t2
        have VA := hidden va
        have VB := hidden vb
        have HK0 := hidden hK0
        clear va vb hK0
        unfold V.val at *
        go_enter Try.func5, Try.ntmps5
        go_wp2_with fail
        refine (kt.out _).mono ?_
        rintro e w1 ⟨rfl, hK⟩
        have HK1 := hidden ((HK0.out).trans hK (fun _ _ h => h))
        have VA1 := hidden (show IsVar w1 w.heap.size ⟨4, n, t⟩ from hK.heap VA.out (fun h => h))
        have VB1 := hidden (show IsVar w1 (w.heap.size + 1) ⟨4, n2, t2⟩ from hK.heap VB.out (fun h => h))
        obtain ⟨a0, a1, a2, -⟩ := VA1.out.cells
        obtain ⟨b0, b1, b2, -⟩ := VB1.out.cells
        simp only at a0 a1 a2 b0 b1 b2
        clear hK
        go_wp2_with fail
        refine (kr.out _ _ (Vals.lit w1 [⟨4, n, t⟩, ⟨4, n2, t2⟩] _ rfl)).mono ?_
        rintro e w2 ⟨rfl, hK⟩
        have HK2 := hidden ((HK1.out.alloc _).trans hK (fun _ _ h => h))
        have VA2 := hidden (show IsVar w2 w.heap.size ⟨4, n, t⟩ from hK.heap (blk_alloc VA1.out _) (fun h => h))
        have VB2 := hidden (show IsVar w2 (w.heap.size + 1) ⟨4, n2, t2⟩ from hK.heap (blk_alloc VB1.out _) (fun h => h))
        clear hK a0 a1 a2 b0 b1 b2 VA1 VB1 HK1
        obtain ⟨a0, a1, a2, -⟩ := VA2.out.cells
        obtain ⟨b0, b1, b2, -⟩ := VB2.out.cells
        simp only at a0 a1 a2 b0 b1 b2
        have hz2 := blk_lt VB2.out
        go_wp2_with fail
        refine (c1.out _).mono ?_
        rintro e w3 ⟨rfl, hK⟩
        have VA3 := hidden (show IsVar w3 w.heap.size ⟨4, n, t⟩ from hK.heap VA2.out (fun h => h))
        have VB3 := hidden (show IsVar w3 (w.heap.size + 1) ⟨4, n2, t2⟩ from hK.heap VB2.out (fun h => h))
        have HK3 := hidden (HK2.out.trans hK (fun _ _ h => h))
        clear hK a0 a1 a2 b0 b1 b2 hz2
        obtain ⟨a0, a1, a2, -⟩ := VA3.out.cells
        obtain ⟨b0, b1, b2, -⟩ := VB3.out.cells
        simp only at a0 a1 a2 b0 b1 b2
        have hz3 := blk_lt VB3.out
        go_wp2_with fail
        refine (c2.out _).mono ?_
        rintro e w4 ⟨rfl, hK⟩
        have VA4 := hidden (show IsVar w4 w.heap.size ⟨4, n, t⟩ from hK.heap VA3.out (fun h => h))
        have VB4 := hidden (show IsVar w4 (w.heap.size + 1) ⟨4, n2, t2⟩ from hK.heap VB3.out (fun h => h))
        have HK4 := hidden (HK3.out.trans hK (fun _ _ h => h))
        clear hK a0 a1 a2 b0 b1 b2 hz3
        obtain ⟨a0, a1, a2, -⟩ := VA4.out.cells
        obtain ⟨b0, b1, b2, -⟩ := VB4.out.cells
        simp only at a0 a1 a2 b0 b1 b2
        have hz4 := blk_lt VB4.out
        go_wp2_with fail
        refine (c3.out _).mono ?_
        rintro e w5 ⟨rfl, hK⟩
        have VA5 := hidden (show IsVar w5 w.heap.size ⟨4, n, t⟩ from hK.heap VA4.out (fun h => h))
        have VB5 := hidden (show IsVar w5 (w.heap.size + 1) ⟨4, n2, t2⟩ from hK.heap VB4.out (fun h => h))
        have HK5 := hidden (HK4.out.trans hK (fun _ _ h => h))
        clear hK a0 a1 a2 b0 b1 b2 hz4
        obtain ⟨a0, a1, a2, -⟩ := VA5.out.cells
        obtain ⟨b0, b1, b2, -⟩ := VB5.out.cells
        simp only at a0 a1 a2 b0 b1 b2
        have hz5 := blk_lt VB5.out
        go_wp2_with fail
        exact hR.out _ _ ⟨rfl, HK5.out.toNew (fun _ h => h.elim)⟩
      by_cases h3 : b.k = 3
      · have hcm : V.cmp a b = (cmpL a.t.data.toList b.t.data.toList, 0) := by unfold V.cmp; rw [if_neg hab, if_neg g0, if_neg e0, if_neg (by omega), if_pos (by omega)]
        have hcn : V.cmp b a = (- cmpL a.t.data.toList b.t.data.toList, 0) := by unfold V.cmp; rw [if_neg hba, if_neg e0, if_neg g0, if_neg (by omega), if_pos (by omega), cmpL_turn]
        obtain ⟨k, n, t⟩ := a
        obtain ⟨k2, n2, t2⟩ := b
        simp only at *
        subst h3
        subst hk
        have c4 := hidden (fun W => str_Compare t t2 W (by omega) (by omega))
        have hx := cmpL_is t.data.toList t2.data.toList
        generalize cmpL t.data.toList t2.data.toList = x at *
        have hy : IntKind.i64.wrap (- (- x)) = x := by rw [Int.neg_neg]; rw [IntKind.wrap_i64]; omega
        clear hab hba
        have c1 := hidden (fun W => value_Compare ⟨3, n, t⟩ ⟨3, n2, t2⟩ W (show t.size ≤ 140737488351232 by omega) (show t2.size ≤ 140737488351232 by omega))
        have c2 := hidden (fun W => value_Compare ⟨3, n2, t2⟩ ⟨3, n, t⟩ W (show t2.size ≤ 140737488351232 by omega) (show t.size ≤ 140737488351232 by omega))
        rw [hcm] at c1
        rw [hcn] at c2
        have c3 := hidden (fun W => value_Same ⟨3, n, t⟩ ⟨3, n2, t2⟩ W)
        rw [hsm] at c3
        clear hcm hcn hsm
        obtain ⟨va, vb, hK0⟩ := box2 w 3 n 3 n2 t t2
        have VA := hidden va
        have VB := hidden vb
        have HK0 := hidden hK0
        clear va vb hK0
        unfold V.val at *
        go_enter Try.func5, Try.ntmps5
        go_wp2_with fail
        refine (kt.out _).mono ?_
        rintro e w1 ⟨rfl, hK⟩
        have HK1 := hidden ((HK0.out).trans hK (fun _ _ h => h))
        have VA1 := hidden (show IsVar w1 w.heap.size ⟨3, n, t⟩ from hK.heap VA.out (fun h => h))
        have VB1 := hidden (show IsVar w1 (w.heap.size + 1) ⟨3, n2, t2⟩ from hK.heap VB.out (fun h => h))
        obtain ⟨a0, a1, a2, -⟩ := VA1.out.cells
        obtain ⟨b0, b1, b2, -⟩ := VB1.out.cells
        simp only at a0 a1 a2 b0 b1 b2
        clear hK
        go_wp2_with fail
        refine (kr.out _ _ (Vals.lit w1 [⟨3, n, t⟩, ⟨3, n2, t2⟩] _ rfl)).mono ?_
        rintro e w2 ⟨rfl, hK⟩
        have HK2 := hidden ((HK1.out.alloc _).trans hK (fun _ _ h => h))
        have VA2 := hidden (show IsVar w2 w.heap.size ⟨3, n, t⟩ from hK.heap (blk_alloc VA1.out _) (fun h => h))
        have VB2 := hidden (show IsVar w2 (w.heap.size + 1) ⟨3, n2, t2⟩ from hK.heap (blk_alloc VB1.out _) (fun h => h))
        clear hK a0 a1 a2 b0 b1 b2 VA1 VB1 HK1
        obtain ⟨a0, a1, a2, -⟩ := VA2.out.cells
        obtain ⟨b0, b1, b2, -⟩ := VB2.out.cells
        simp only at a0 a1 a2 b0 b1 b2
        have hz2 := blk_lt VB2.out
        go_wp2_with fail
        refine (c1.out _).mono ?_
        rintro e w3 ⟨rfl, hK⟩
        have VA3 := hidden (show IsVar w3 w.heap.size ⟨3, n, t⟩ from hK.heap VA2.out (fun h => h))
        have VB3 := hidden (show IsVar w3 (w.heap.size + 1) ⟨3, n2, t2⟩ from hK.heap VB2.out (fun h => h))
        have HK3 := hidden (HK2.out.trans hK (fun _ _ h => h))
        clear hK a0 a1 a2 b0 b1 b2 hz2
        obtain ⟨a0, a1, a2, -⟩ := VA3.out.cells
        obtain ⟨b0, b1, b2, -⟩ := VB3.out.cells
        simp only at a0 a1 a2 b0 b1 b2
        have hz3 := blk_lt VB3.out
        go_wp2_with fail
        refine (c2.out _).mono ?_
        rintro e w4 ⟨rfl, hK⟩
        have VA4 := hidden (show IsVar w4 w.heap.size ⟨3, n, t⟩ from hK.heap VA3.out (fun h => h))
        have VB4 := hidden (show IsVar w4 (w.heap.size + 1) ⟨3, n2, t2⟩ from hK.heap VB3.out (fun h => h))
        have HK4 := hidden (HK3.out.trans hK (fun _ _ h => h))
        clear hK a0 a1 a2 b0 b1 b2 hz3
        obtain ⟨a0, a1, a2, -⟩ := VA4.out.cells
        obtain ⟨b0, b1, b2, -⟩ := VB4.out.cells
        simp only at a0 a1 a2 b0 b1 b2
        have hz4 := blk_lt VB4.out
        go_wp2_with fail
        refine (c3.out _).mono ?_
        rintro e w5 ⟨rfl, hK⟩
        have VA5 := hidden (show IsVar w5 w.heap.size ⟨3, n, t⟩ from hK.heap VA4.out (fun h => h))
        have VB5 := hidden (show IsVar w5 (w.heap.size + 1) ⟨3, n2, t2⟩ from hK.heap VB4.out (fun h => h))
        have HK5 := hidden (HK4.out.trans hK (fun _ _ h => h))
        clear hK a0 a1 a2 b0 b1 b2 hz4
        obtain ⟨a0, a1, a2, -⟩ := VA5.out.cells
        obtain ⟨b0, b1, b2, -⟩ := VB5.out.cells
        simp only at a0 a1 a2 b0 b1 b2
        have hz5 := blk_lt VB5.out
        go_wp2_with fail
        refine (c4.out _).mono ?_
        rintro e w6 ⟨rfl, hD⟩
        go_wp2_with fail
        exact hR.out _ _ ⟨rfl, (HK5.out.trans (hD.keeps (fun _ => False)) (fun _ _ h => h)).toNew (fun _ h => h.elim)⟩
      have hkk : b.k = 1 ∨ b.k = 2 := by omega
      have hcm : V.cmp a b = (cmpI a.n b.n, 0) := by unfold V.cmp; rw [if_neg hab, if_neg g0, if_neg e0, if_pos (by omega)]
      have hcn : V.cmp b a = (- cmpI a.n b.n, 0) := by unfold V.cmp; rw [if_neg hba, if_neg e0, if_neg g0, if_pos (by omega), cmpI_turn]
      obtain ⟨k, n, t⟩ := a
      obtain ⟨k2, n2, t2⟩ := b
      simp only at *
      have c4 := hidden (fun W => num_Compare n n2 W)
      have hx := cmpI_is n n2
      have hd : (if n < n2 then (-1 : Int) else if n2 < n then 1 else 0) = cmpI n n2 := rfl
      rw [hd] at c4
      clear hd
      generalize cmpI n n2 = x at *
      have hy : IntKind.i64.wrap (- (- x)) = x := by rw [Int.neg_neg]; rw [IntKind.wrap_i64]; omega
      clear hab hba g0 e0 h4 h3
      subst hk
      rcases hkk with hkk | hkk
      · subst hkk
        have c1 := hidden (fun W => value_Compare ⟨1, n, t⟩ ⟨1, n2, t2⟩ W (show t.size ≤ 140737488351232 by omega) (show t2.size ≤ 140737488351232 by omega))
        have c2 := hidden (fun W => value_Compare ⟨1, n2, t2⟩ ⟨1, n, t⟩ W (show t2.size ≤ 140737488351232 by omega) (show t.size ≤ 140737488351232 by omega))
        rw [hcm] at c1
        rw [hcn] at c2
        have c3 := hidden (fun W => value_Same ⟨1, n, t⟩ ⟨1, n2, t2⟩ W)
        rw [hsm] at c3
        clear hcm hcn hsm
        obtain ⟨va, vb, hK0⟩ := box2 w 1 n 1 n2 t t2
        have VA := hidden va
        have VB := hidden vb
        have HK0 := hidden hK0
        clear va vb hK0
        unfold V.val at *
        go_enter Try.func5, Try.ntmps5
        go_wp2_with fail
        refine (kt.out _).mono ?_
        rintro e w1 ⟨rfl, hK⟩
        have HK1 := hidden ((HK0.out).trans hK (fun _ _ h => h))
        have VA1 := hidden (show IsVar w1 w.heap.size ⟨1, n, t⟩ from hK.heap VA.out (fun h => h))
        have VB1 := hidden (show IsVar w1 (w.heap.size + 1) ⟨1, n2, t2⟩ from hK.heap VB.out (fun h => h))
        obtain ⟨a0, a1, a2, -⟩ := VA1.out.cells
        obtain ⟨b0, b1, b2, -⟩ := VB1.out.cells
        simp only at a0 a1 a2 b0 b1 b2
        clear hK
        go_wp2_with fail
        refine (kr.out _ _ (Vals.lit w1 [⟨1, n, t⟩, ⟨1, n2, t2⟩] _ rfl)).mono ?_
        rintro e w2 ⟨rfl, hK⟩
        have HK2 := hidden ((HK1.out.alloc _).trans hK (fun _ _ h => h))
        have VA2 := hidden (show IsVar w2 w.heap.size ⟨1, n, t⟩ from hK.heap (blk_alloc VA1.out _) (fun h => h))
        have VB2 := hidden (show IsVar w2 (w.heap.size + 1) ⟨1, n2, t2⟩ from hK.heap (blk_alloc VB1.out _) (fun h => h))
        clear hK a0 a1 a2 b0 b1 b2 VA1 VB1 HK1
        obtain ⟨a0, a1, a2, -⟩ := VA2.out.cells
        obtain ⟨b0, b1, b2, -⟩ := VB2.out.cells
        simp only at a0 a1 a2 b0 b1 b2
        have hz2 := blk_lt VB2.out
        go_wp2_with fail
        refine (c1.out _).mono ?_
        rintro e w3 ⟨rfl, hK⟩
        have VA3 := hidden (show IsVar w3 w.heap.size ⟨1, n, t⟩ from hK.heap VA2.out (fun h => h))
        have VB3 := hidden (show IsVar w3 (w.heap.size + 1) ⟨1, n2, t2⟩ from hK.heap VB2.out (fun h => h))
        have HK3 := hidden (HK2.out.trans hK (fun _ _ h => h))
        clear hK a0 a1 a2 b0 b1 b2 hz2
        obtain ⟨a0, a1, a2, -⟩ := VA3.out.cells
        obtain ⟨b0, b1, b2, -⟩ := VB3.out.cells
        simp only at a0 a1 a2 b0 b1 b2
        have hz3 := blk_lt VB3.out
        go_wp2_with fail
        refine (c2.out _).mono ?_
        rintro e w4 ⟨rfl, hK⟩
        have VA4 := hidden (show IsVar w4 w.heap.size ⟨1, n, t⟩ from hK.heap VA3.out (fun h => h))
        have VB4 := hidden (show IsVar w4 (w.heap.size + 1) ⟨1, n2, t2⟩ from hK.heap VB3.out (fun h => h))
        have HK4 := hidden (HK3.out.trans hK (fun _ _ h => h))
        clear hK a0 a1 a2 b0 b1 b2 hz3
        obtain ⟨a0, a1, a2, -⟩ := VA4.out.cells
        obtain ⟨b0, b1, b2, -⟩ := VB4.out.cells
        simp only at a0 a1 a2 b0 b1 b2
        have hz4 := blk_lt VB4.out
        go_wp2_with fail
        refine (c3.out _).mono ?_
        rintro e w5 ⟨rfl, hK⟩
        have VA5 := hidden (show IsVar w5 w.heap.size ⟨1, n, t⟩ from hK.heap VA4.out (fun h => h))
        have VB5 := hidden (show IsVar w5 (w.heap.size + 1) ⟨1, n2, t2⟩ from hK.heap VB4.out (fun h => h))
        have HK5 := hidden (HK4.out.trans hK (fun _ _ h => h))
        clear hK a0 a1 a2 b0 b1 b2 hz4
        obtain ⟨a0, a1, a2, -⟩ := VA5.out.cells
        obtain ⟨b0, b1, b2, -⟩ := VB5.out.cells
        simp only at a0 a1 a2 b0 b1 b2
        have hz5 := blk_lt VB5.out
        go_wp2_with fail
        refine (c4.out _).mono ?_
        rintro e w6 ⟨rfl, rfl⟩
        go_wp2_with fail
        exact hR.out _ _ ⟨rfl, HK5.out.toNew (fun _ h => h.elim)⟩
      · subst hkk
        have c1 := hidden (fun W => value_Compare ⟨2, n, t⟩ ⟨2, n2, t2⟩ W (show t.size ≤ 140737488351232 by omega) (show t2.size ≤ 140737488351232 by omega))
        have c2 := hidden (fun W => value_Compare ⟨2, n2, t2⟩ ⟨2, n, t⟩ W (show t2.size ≤ 140737488351232 by omega) (show t.size ≤ 140737488351232 by omega))
        rw [hcm] at c1
        rw [hcn] at c2
        have c3 := hidden (fun W => value_Same ⟨2, n, t⟩ ⟨2, n2, t2⟩ W)
        rw [hsm] at c3
        clear hcm hcn hsm
        obtain ⟨va, vb, hK0⟩ := box2 w 2 n 2 n2 t t2
        have VA := hidden va
        have VB := hidden vb
        have HK0 := hidden hK0
        clear va vb hK0
        unfold V.val at *
        go_enter Try.func5, Try.ntmps5
        go_wp2_with fail
        refine (kt.out _).mono ?_
        rintro e w1 ⟨rfl, hK⟩
        have HK1 := hidden ((HK0.out).trans hK (fun _ _ h => h))
        have VA1 := hidden (show IsVar w1 w.heap.size ⟨2, n, t⟩ from hK.heap VA.out (fun h => h))
        have VB1 := hidden (show IsVar w1 (w.heap.size + 1) ⟨2, n2, t2⟩ from hK.heap VB.out (fun h => h))
        obtain ⟨a0, a1, a2, -⟩ := VA1.out.cells
        obtain ⟨b0, b1, b2, -⟩ := VB1.out.cells
        simp only at a0 a1 a2 b0 b1 b2
        clear hK
        go_wp2_with fail
        refine (kr.out _ _ (Vals.lit w1 [⟨2, n, t⟩, ⟨2, n2, t2⟩] _ rfl)).mono ?_
        rintro e w2 ⟨rfl, hK⟩
        have HK2 := hidden ((HK1.out.alloc _).trans hK (fun _ _ h => h))
        have VA2 := hidden (show IsVar w2 w.heap.size ⟨2, n, t⟩ from hK.heap (blk_alloc VA1.out _) (fun h => h))
        have VB2 := hidden (show IsVar w2 (w.heap.size + 1) ⟨2, n2, t2⟩ from hK.heap (blk_alloc VB1.out _) (fun h => h))
        clear hK a0 a1 a2 b0 b1 b2 VA1 VB1 HK1
        obtain ⟨a0, a1, a2, -⟩ := VA2.out.cells
        obtain ⟨b0, b1, b2, -⟩ := VB2.out.cells
        simp only at a0 a1 a2 b0 b1 b2
        have hz2 := blk_lt VB2.out
        go_wp2_with fail
        refine (c1.out _).mono ?_
        rintro e w3 ⟨rfl, hK⟩
        have VA3 := hidden (show IsVar w3 w.heap.size ⟨2, n, t⟩ from hK.heap VA2.out (fun h => h))
        have VB3 := hidden (show IsVar w3 (w.heap.size + 1) ⟨2, n2, t2⟩ from hK.heap VB2.out (fun h => h))
        have HK3 := hidden (HK2.out.trans hK (fun _ _ h => h))
        clear hK a0 a1 a2 b0 b1 b2 hz2
        obtain ⟨a0, a1, a2, -⟩ := VA3.out.cells
        obtain ⟨b0, b1, b2, -⟩ := VB3.out.cells
        simp only at a0 a1 a2 b0 b1 b2
        have hz3 := blk_lt VB3.out
        go_wp2_with fail
        refine (c2.out _).mono ?_
        rintro e w4 ⟨rfl, hK⟩
        have VA4 := hidden (show IsVar w4 w.heap.size ⟨2, n, t⟩ from hK.heap VA3.out (fun h => h))
        have VB4 := hidden (show IsVar w4 (w.heap.size + 1) ⟨2, n2, t2⟩ from hK.heap VB3.out (fun h => h))
        have HK4 := hidden (HK3.out.trans hK (fun _ _ h => h))
        clear hK a0 a1 a2 b0 b1 b2 hz3
        obtain ⟨a0, a1, a2, -⟩ := VA4.out.cells
        obtain ⟨b0, b1, b2, -⟩ := VB4.out.cells
        simp only at a0 a1 a2 b0 b1 b2
        have hz4 := blk_lt VB4.out
        go_wp2_with fail
        refine (c3.out _).mono ?_
        rintro e w5 ⟨rfl, hK⟩
        have VA5 := hidden (show IsVar w5 w.heap.size ⟨2, n, t⟩ from hK.heap VA4.out (fun h => h))
        have VB5 := hidden (show IsVar w5 (w.heap.size + 1) ⟨2, n2, t2⟩ from hK.heap VB4.out (fun h => h))
        have HK5 := hidden (HK4.out.trans hK (fun _ _ h => h))
        clear hK a0 a1 a2 b0 b1 b2 hz4
        obtain ⟨a0, a1, a2, -⟩ := VA5.out.cells
        obtain ⟨b0, b1, b2, -⟩ := VB5.out.cells
        simp only at a0 a1 a2 b0 b1 b2
        have hz5 := blk_lt VB5.out
        go_wp2_with fail
        refine (c4.out _).mono ?_
        rintro e w6 ⟨rfl, rfl⟩
        go_wp2_with fail
        exact hR.out _ _ ⟨rfl, HK5.out.toNew (fun _ h => h.elim)⟩
    have hcm : V.cmp a b = (0, 30) := by unfold V.cmp; rw [if_neg hab, if_neg g0, if_neg e0, if_neg (by omega), if_neg (by omega)]
    have hcn : V.cmp b a = (0, 30) := by unfold V.cmp; rw [if_neg hba, if_neg e0, if_neg g0, if_neg (by omega), if_neg (by omega)]
    obtain ⟨k, n, t⟩ := a
    obtain ⟨k2, n2, t2⟩ := b
    simp only at *
    have j0 : (k == 0) = false := by simpa using g0
    have j1 : (k2 == 0) = false := by simpa using e0
    have j2 : (k == k2) = false := by simpa using hk
    clear hab hba
    have c1 := hidden (fun W => value_Compare ⟨k, n, t⟩ ⟨k2, n2, t2⟩ W (show t.size ≤ 140737488351232 by omega) (show t2.size ≤ 140737488351232 by omega))
    have c2 := hidden (fun W => value_Compare ⟨k2, n2, t2⟩ ⟨k, n, t⟩ W (show t2.size ≤ 140737488351232 by omega) (show t.size ≤ 140737488351232 by omega))
    rw [hcm] at c1
    rw [hcn] at c2
    have c3 := hidden (fun W => value_Same ⟨k, n, t⟩ ⟨k2, n2, t2⟩ W)
    rw [hsm] at c3
    clear hcm hcn hsm
    obtain ⟨va, vb, hK0⟩ := box2 w k n k2 n2 t t2
    have VA := hidden va
    have VB := hidden vb
    have HK0 := hidden hK0
    clear va vb hK0
    unfold V.val at *
    go_enter Try.func5, Try.ntmps5
    go_wp2_with fail
    refine (kt.out _).mono ?_
    rintro e w1 ⟨rfl, hK⟩
    have HK1 := hidden ((HK0.out).trans hK (fun _ _ h => h))
    have VA1 := hidden (show IsVar w1 w.heap.size ⟨k, n, t⟩ from hK.heap VA.out (fun h => h))
    have VB1 := hidden (show IsVar w1 (w.heap.size + 1) ⟨k2, n2, t2⟩ from hK.heap VB.out (fun h => h))
    obtain ⟨a0, a1, a2, -⟩ := VA1.out.cells
    obtain ⟨b0, b1, b2, -⟩ := VB1.out.cells
    simp only at a0 a1 a2 b0 b1 b2
    clear hK
    go_wp2_with fail
    refine (kr.out _ _ (Vals.lit w1 [⟨k, n, t⟩, ⟨k2, n2, t2⟩] _ rfl)).mono ?_
    rintro e w2 ⟨rfl, hK⟩
    have HK2 := hidden ((HK1.out.alloc _).trans hK (fun _ _ h => h))
    have VA2 := hidden (show IsVar w2 w.heap.size ⟨k, n, t⟩ from hK.heap (blk_alloc VA1.out _) (fun h => h))
    have VB2 := hidden (show IsVar w2 (w.heap.size + 1) ⟨k2, n2, t2⟩ from hK.heap (blk_alloc VB1.out _) (fun h => h))
    clear hK a0 a1 a2 b0 b1 b2 VA1 VB1 HK1
    obtain ⟨a0, a1, a2, -⟩ := VA2.out.cells
    obtain ⟨b0, b1, b2, -⟩ := VB2.out.cells
    simp only at a0 a1 a2 b0 b1 b2
    have hz2 := blk_lt VB2.out
    go_wp2_with fail
    refine (c1.out _).mono ?_
    rintro e w3 ⟨rfl, hK⟩
    have VA3 := hidden (show IsVar w3 w.heap.size ⟨k, n, t⟩ from hK.heap VA2.out (fun h => h))
    have VB3 := hidden (show IsVar w3 (w.heap.size + 1) ⟨k2, n2, t2⟩ from hK.heap VB2.out (fun h => h))
    have HK3 := hidden (HK2.out.trans hK (fun _ _ h => h))
    clear hK a0 a1 a2 b0 b1 b2 hz2
    obtain ⟨a0, a1, a2, -⟩ := VA3.out.cells
    obtain ⟨b0, b1, b2, -⟩ := VB3.out.cells
    simp only at a0 a1 a2 b0 b1 b2
    have hz3 := blk_lt VB3.out
    go_wp2_with fail
    refine (c2.out _).mono ?_
    rintro e w4 ⟨rfl, hK⟩
    have VA4 := hidden (show IsVar w4 w.heap.size ⟨k, n, t⟩ from hK.heap VA3.out (fun h => h))
    have VB4 := hidden (show IsVar w4 (w.heap.size + 1) ⟨k2, n2, t2⟩ from hK.heap VB3.out (fun h => h))
    have HK4 := hidden (HK3.out.trans hK (fun _ _ h => h))
    clear hK a0 a1 a2 b0 b1 b2 hz3
    obtain ⟨a0, a1, a2, -⟩ := VA4.out.cells
    obtain ⟨b0, b1, b2, -⟩ := VB4.out.cells
    simp only at a0 a1 a2 b0 b1 b2
    have hz4 := blk_lt VB4.out
    go_wp2_with fail
    refine (c3.out _).mono ?_
    rintro e w5 ⟨rfl, hK⟩
    have VA5 := hidden (show IsVar w5 w.heap.size ⟨k, n, t⟩ from hK.heap VA4.out (fun h => h))
    have VB5 := hidden (show IsVar w5 (w.heap.size + 1) ⟨k2, n2, t2⟩ from hK.heap VB4.out (fun h => h))
    have HK5 := hidden (HK4.out.trans hK (fun _ _ h => h))
    clear hK a0 a1 a2 b0 b1 b2 hz4
    obtain ⟨a0, a1, a2, -⟩ := VA5.out.cells
    obtain ⟨b0, b1, b2, -⟩ := VB5.out.cells
    simp only at a0 a1 a2 b0 b1 b2
    have hz5 := blk_lt VB5.out
    go_wp2_with fail
    exact hR.out _ _ ⟨rfl, HK5.out.toNew (fun _ h => h.elim)⟩

end Go.Proofs.Ytmjkglmkckofgaa
