/- Layer 3 (value): contracts of Add, Reckon. -/
import Derived.Test.YtmjkglmkckofgaaValC
namespace Go.Proofs.Ytmjkglmkckofgaa
open Go.RowKit
set_option maxRecDepth 100000

theorem box3 (w : World) (k n k2 n2 : Int) (t t2 : ByteArray) :
    let W := ((w.alloc (.cells #[.int .i64 k, .int .i64 n, .string t] 23)).alloc (.cells #[.int .i64 k2, .int .i64 n2, .string t2] 23)).alloc (.cells #[.int .i64 0, .int .i64 0, .string ⟨#[]⟩] 23)
    IsVar W w.heap.size ⟨k, n, t⟩ ∧ IsVar W (w.heap.size + 1) ⟨k2, n2, t2⟩ ∧ IsVar W (w.heap.size + 1 + 1) V.null ∧ Keeps (fun _ => False) w W := by
  intro W
  refine ⟨blk_alloc (blk_alloc (blk_new w _) _) _, ?_, ?_, (((Keeps.refl _ w).alloc _).alloc _).alloc _⟩
  · have h := blk_alloc (blk_new (w.alloc (.cells #[.int .i64 k, .int .i64 n, .string t] 23)) (.cells #[.int .i64 k2, .int .i64 n2, .string t2] 23)) (.cells #[.int .i64 0, .int .i64 0, .string ⟨#[]⟩] 23)
    rw [show (w.alloc (.cells #[.int .i64 k, .int .i64 n, .string t] 23)).heap.size = w.heap.size + 1 by simp] at h
    exact h
  · have h := blk_new ((w.alloc (.cells #[.int .i64 k, .int .i64 n, .string t] 23)).alloc (.cells #[.int .i64 k2, .int .i64 n2, .string t2] 23)) (.cells #[.int .i64 0, .int .i64 0, .string ⟨#[]⟩] 23)
    rw [show ((w.alloc (.cells #[.int .i64 k, .int .i64 n, .string t] 23)).alloc (.cells #[.int .i64 k2, .int .i64 n2, .string t2] 23)).heap.size = w.heap.size + 1 + 1 by simp] at h
    exact h
theorem IsVar.drewN {w : World} {r : Nat} {v : V} (h : IsVar w r v) (n : Nat) : IsVar (w.drewN n) r v := h
def rk (op x y : Int) : Int × Int :=
  if op = 0 then (nSub x y, 0) else if op = 1 then (nMul x y, 0) else if op = 2 then (nDiv x y, nErr y) else if op = 3 then (nMod x y, nErr y) else if op = 4 then (nAnd x y, 0)
  else if op = 5 then (nOr x y, 0) else if op = 6 then (nXor x y, 0) else if op = 7 then (nLeft x y, 0) else if op = 8 then (nRight x y, 0) else (nLogical x y, 0)
def V.rek (op : Int) (a b : V) : V × Int :=
  if op < 0 ∨ 10 ≤ op then (V.null, 1) else if a.k ≠ 2 ∨ b.k ≠ 2 then (V.null, 30) else if (rk op a.n b.n).2 ≠ 0 then (V.null, (rk op a.n b.n).2) else (⟨2, (rk op a.n b.n).1, ⟨#[]⟩⟩, 0)
set_option maxHeartbeats 4000000 in
theorem value_Reckon (op : Int) (a b : V) (w : World) : Calls Try.prog 29 #[.int .i64 op, a.val, b.val] w fun e w' => e = .returned (.tuple #[(V.rek op a b).1.val, .int .i64 (V.rek op a b).2]) ∧ Keeps (fun _ => False) w w' := by
  obtain ⟨k, n, t⟩ := a
  obtain ⟨k2, n2, t2⟩ := b
  unfold V.rek
  refine post_gen fun R hR => ?_
  simp only at hR
  by_cases hop : op < 0 ∨ 10 ≤ op
  · rw [if_pos hop] at hR
    obtain ⟨va, vb, vr, hK0⟩ := box3 w k n k2 n2 t t2
    have VR := hidden vr
    have VA := hidden va
    have VB := hidden vb
    have HK0 := hidden hK0
    clear va vb vr hK0
    unfold V.val at *
    rcases (show op < 0 ∨ 10 ≤ op by omega) with h | h
    all_goals
      go_enter Try.func29, Try.ntmps29
      go_wp2_with fail
      refine (value_Null _).mono ?_
      rintro e w1 ⟨rfl, hK⟩
      have VR1 := hidden (show IsVar w1 (w.heap.size + 1 + 1) V.null from hK.heap (VR.out) (fun h => h))
      obtain ⟨c0, c1, c2, f0, f1, f2⟩ := VR1.out.cells
      simp only [V.null] at c0 c1 c2
      have HK1 := hidden ((HK0.out).trans hK (fun _ _ h => h))
      have hz := blk_lt VR1.out
      clear hK
      unfold V.val V.null
      go_wp2_with fail
      obtain ⟨d0, d1, d2, -⟩ := (VR1.out.set V.null).cells
      simp only [V.null] at d0 d1 d2
      exact bodyPost_ret (v := .tuple #[V.val V.null, .int .i64 1]) (by simp [results, Try.results29, go_sem, d0, d1, d2, V.val, V.null]) rfl (hR.out _ _ ⟨rfl, HK1.out.var (fun h => absurd h (by omega)) _ _ _⟩)
  rw [if_neg hop] at hR
  by_cases hkk : k ≠ 2 ∨ k2 ≠ 2
  · rw [if_pos hkk] at hR
    obtain ⟨va, vb, vr, hK0⟩ := box3 w k n k2 n2 t t2
    have VR := hidden vr
    have VA := hidden va
    have VB := hidden vb
    have HK0 := hidden hK0
    clear va vb vr hK0
    unfold V.val at *
    by_cases hk : k = 2
    · have i1 : (k2 == 2) = false := by simp; omega
      have i2 : (k2 != 2) = true := by simp; omega
      subst hk
      go_enter Try.func29, Try.ntmps29
      go_wp2_with fail
      refine (value_Null _).mono ?_
      rintro e w1 ⟨rfl, hK⟩
      have VR1 := hidden (show IsVar w1 (w.heap.size + 1 + 1) V.null from hK.heap (VR.out) (fun h => h))
      obtain ⟨c0, c1, c2, f0, f1, f2⟩ := VR1.out.cells
      simp only [V.null] at c0 c1 c2
      have HK1 := hidden ((HK0.out).trans hK (fun _ _ h => h))
      have hz := blk_lt VR1.out
      clear hK
      unfold V.val V.null
      go_wp2_with fail
      obtain ⟨d0, d1, d2, -⟩ := (VR1.out.set V.null).cells
      simp only [V.null] at d0 d1 d2
      exact bodyPost_ret (v := .tuple #[V.val V.null, .int .i64 30]) (by simp [results, Try.results29, go_sem, d0, d1, d2, V.val, V.null]) rfl (hR.out _ _ ⟨rfl, HK1.out.var (fun h => absurd h (by omega)) _ _ _⟩)
    · have i1 : (k == 2) = false := by simp; omega
      have i2 : (k != 2) = true := by simp; omega
      go_enter Try.func29, Try.ntmps29
      go_wp2_with fail
      refine (value_Null _).mono ?_
      rintro e w1 ⟨rfl, hK⟩
      have VR1 := hidden (show IsVar w1 (w.heap.size + 1 + 1) V.null from hK.heap (VR.out) (fun h => h))
      obtain ⟨c0, c1, c2, f0, f1, f2⟩ := VR1.out.cells
      simp only [V.null] at c0 c1 c2
      have HK1 := hidden ((HK0.out).trans hK (fun _ _ h => h))
      have hz := blk_lt VR1.out
      clear hK
      unfold V.val V.null
      go_wp2_with fail
      obtain ⟨d0, d1, d2, -⟩ := (VR1.out.set V.null).cells
      simp only [V.null] at d0 d1 d2
      exact bodyPost_ret (v := .tuple #[V.val V.null, .int .i64 30]) (by simp [results, Try.results29, go_sem, d0, d1, d2, V.val, V.null]) rfl (hR.out _ _ ⟨rfl, HK1.out.var (fun h => absurd h (by omega)) _ _ _⟩)
  rw [if_neg hkk] at hR
  obtain ⟨rfl, rfl⟩ : k = 2 ∧ k2 = 2 := by omega
  obtain ⟨va, vb, vr, hK0⟩ := box3 w 2 n 2 n2 t t2
  have VR := hidden vr
  have VA := hidden va
  have VB := hidden vb
  have HK0 := hidden hK0
  clear va vb vr hK0
  unfold V.val at *
  rcases (show op = 0 ∨ op = 1 ∨ op = 2 ∨ op = 3 ∨ op = 4 ∨ op = 5 ∨ op = 6 ∨ op = 7 ∨ op = 8 ∨ op = 9 by omega) with rfl | rfl | rfl | rfl | rfl | rfl | rfl | rfl | rfl | rfl
  · have h := fun W => num_Sub n n2 W
    simp only [rk, if_true] at hR
    generalize nSub n n2 = z at *
    have H := hidden h
    clear h
    rw [if_neg (by decide)] at hR
    go_enter Try.func29, Try.ntmps29
    go_wp2_with fail
    go_quiet (fail)
    go_wp2_with (go_at_call 32; refine (H.out _).mono ?_; rintro e _ ⟨rfl, rfl⟩)
    refine (value_Int _ _).mono ?_
    rintro e w1 ⟨rfl, hK⟩
    have VR1 := hidden (show IsVar w1 (w.heap.size + 1 + 1) V.null from hK.heap (VR.out.drewN nq) (fun h => h))
    obtain ⟨c0, c1, c2, f0, f1, f2⟩ := VR1.out.cells
    simp only [V.null] at c0 c1 c2
    have HK1 := hidden ((HK0.out.drewN nq).trans hK (fun _ _ h => h))
    have hz := blk_lt VR1.out
    clear hK
    unfold V.val
    go_wp2_with fail
    obtain ⟨d0, d1, d2, -⟩ := (VR1.out.set ⟨2, z, ⟨#[]⟩⟩).cells
    exact bodyPost_ret (v := .tuple #[V.val ⟨2, z, ⟨#[]⟩⟩, .int .i64 0]) (by simp [results, Try.results29, go_sem, d0, d1, d2, V.val]) rfl (hR.out _ _ ⟨rfl, HK1.out.var (fun h => absurd h (by omega)) _ _ _⟩)
  · have h := fun W => num_Mul n n2 W
    simp only [rk, if_neg (show ¬ (1 : Int) = 0 by decide), if_true] at hR
    generalize nMul n n2 = z at *
    have H := hidden h
    clear h
    rw [if_neg (by decide)] at hR
    go_enter Try.func29, Try.ntmps29
    go_wp2_with fail
    go_quiet (fail)
    go_wp2_with (go_at_call 33; refine (H.out _).mono ?_; rintro e _ ⟨rfl, rfl⟩)
    refine (value_Int _ _).mono ?_
    rintro e w1 ⟨rfl, hK⟩
    have VR1 := hidden (show IsVar w1 (w.heap.size + 1 + 1) V.null from hK.heap (VR.out.drewN nq) (fun h => h))
    obtain ⟨c0, c1, c2, f0, f1, f2⟩ := VR1.out.cells
    simp only [V.null] at c0 c1 c2
    have HK1 := hidden ((HK0.out.drewN nq).trans hK (fun _ _ h => h))
    have hz := blk_lt VR1.out
    clear hK
    unfold V.val
    go_wp2_with fail
    obtain ⟨d0, d1, d2, -⟩ := (VR1.out.set ⟨2, z, ⟨#[]⟩⟩).cells
    exact bodyPost_ret (v := .tuple #[V.val ⟨2, z, ⟨#[]⟩⟩, .int .i64 0]) (by simp [results, Try.results29, go_sem, d0, d1, d2, V.val]) rfl (hR.out _ _ ⟨rfl, HK1.out.var (fun h => absurd h (by omega)) _ _ _⟩)
  · have h := fun W => num_Div n n2 W
    simp only [rk] at hR
    simp only [if_neg (show ¬ (2 : Int) = 0 by decide), if_neg (show ¬ (2 : Int) = 1 by decide), if_true] at hR
    generalize nDiv n n2 = z at *
    by_cases h0 : n2 = 0
    · rw [nErr, if_pos h0] at hR
      rw [show nErr n2 = 10 from if_pos h0] at h
      have H := hidden h
      clear h h0
      rw [if_pos (by decide)] at hR
      go_enter Try.func29, Try.ntmps29
      go_wp2_with fail
      go_quiet (fail)
      go_wp2_with (go_at_call 30; refine (H.out _).mono ?_; rintro e _ ⟨rfl, rfl⟩)
      refine (value_Null _).mono ?_
      rintro e w1 ⟨rfl, hK⟩
      have VR1 := hidden (show IsVar w1 (w.heap.size + 1 + 1) V.null from hK.heap (VR.out.drewN nq) (fun h => h))
      obtain ⟨c0, c1, c2, f0, f1, f2⟩ := VR1.out.cells
      simp only [V.null] at c0 c1 c2
      have HK1 := hidden ((HK0.out.drewN nq).trans hK (fun _ _ h => h))
      have hz := blk_lt VR1.out
      clear hK
      unfold V.val V.null
      go_wp2_with fail
      obtain ⟨d0, d1, d2, -⟩ := (VR1.out.set V.null).cells
      simp only [V.null] at d0 d1 d2
      exact bodyPost_ret (v := .tuple #[V.val V.null, .int .i64 10]) (by simp [results, Try.results29, go_sem, d0, d1, d2, V.val, V.null]) rfl (hR.out _ _ ⟨rfl, HK1.out.var (fun h => absurd h (by omega)) _ _ _⟩)
    · rw [nErr, if_neg h0] at hR
      rw [show nErr n2 = 0 from if_neg h0] at h
      have H := hidden h
      clear h h0
      rw [if_neg (by decide)] at hR
      go_enter Try.func29, Try.ntmps29
      go_wp2_with fail
      go_quiet (fail)
      go_wp2_with (go_at_call 30; refine (H.out _).mono ?_; rintro e _ ⟨rfl, rfl⟩)
      refine (value_Int _ _).mono ?_
      rintro e w1 ⟨rfl, hK⟩
      have VR1 := hidden (show IsVar w1 (w.heap.size + 1 + 1) V.null from hK.heap (VR.out.drewN nq) (fun h => h))
      obtain ⟨c0, c1, c2, f0, f1, f2⟩ := VR1.out.cells
      simp only [V.null] at c0 c1 c2
      have HK1 := hidden ((HK0.out.drewN nq).trans hK (fun _ _ h => h))
      have hz := blk_lt VR1.out
      clear hK
      unfold V.val
      go_wp2_with fail
      obtain ⟨d0, d1, d2, -⟩ := (VR1.out.set ⟨2, z, ⟨#[]⟩⟩).cells
      exact bodyPost_ret (v := .tuple #[V.val ⟨2, z, ⟨#[]⟩⟩, .int .i64 0]) (by simp [results, Try.results29, go_sem, d0, d1, d2, V.val]) rfl (hR.out _ _ ⟨rfl, HK1.out.var (fun h => absurd h (by omega)) _ _ _⟩)
  · have h := fun W => num_Mod n n2 W
    simp only [rk] at hR
    simp only [if_neg (show ¬ (3 : Int) = 0 by decide), if_neg (show ¬ (3 : Int) = 1 by decide), if_neg (show ¬ (3 : Int) = 2 by decide), if_true] at hR
    generalize nMod n n2 = z at *
    by_cases h0 : n2 = 0
    · rw [nErr, if_pos h0] at hR
      rw [show nErr n2 = 10 from if_pos h0] at h
      have H := hidden h
      clear h h0
      rw [if_pos (by decide)] at hR
      go_enter Try.func29, Try.ntmps29
      go_wp2_with fail
      go_quiet (fail)
      go_wp2_with (go_at_call 31; refine (H.out _).mono ?_; rintro e _ ⟨rfl, rfl⟩)
      refine (value_Null _).mono ?_
      rintro e w1 ⟨rfl, hK⟩
      have VR1 := hidden (show IsVar w1 (w.heap.size + 1 + 1) V.null from hK.heap (VR.out.drewN nq) (fun h => h))
      obtain ⟨c0, c1, c2, f0, f1, f2⟩ := VR1.out.cells
      simp only [V.null] at c0 c1 c2
      have HK1 := hidden ((HK0.out.drewN nq).trans hK (fun _ _ h => h))
      have hz := blk_lt VR1.out
      clear hK
      unfold V.val V.null
      go_wp2_with fail
      obtain ⟨d0, d1, d2, -⟩ := (VR1.out.set V.null).cells
      simp only [V.null] at d0 d1 d2
      exact bodyPost_ret (v := .tuple #[V.val V.null, .int .i64 10]) (by simp [results, Try.results29, go_sem, d0, d1, d2, V.val, V.null]) rfl (hR.out _ _ ⟨rfl, HK1.out.var (fun h => absurd h (by omega)) _ _ _⟩)
    · rw [nErr, if_neg h0] at hR
      rw [show nErr n2 = 0 from if_neg h0] at h
      have H := hidden h
      clear h h0
      rw [if_neg (by decide)] at hR
      go_enter Try.func29, Try.ntmps29
      go_wp2_with fail
      go_quiet (fail)
      go_wp2_with (go_at_call 31; refine (H.out _).mono ?_; rintro e _ ⟨rfl, rfl⟩)
      refine (value_Int _ _).mono ?_
      rintro e w1 ⟨rfl, hK⟩
      have VR1 := hidden (show IsVar w1 (w.heap.size + 1 + 1) V.null from hK.heap (VR.out.drewN nq) (fun h => h))
      obtain ⟨c0, c1, c2, f0, f1, f2⟩ := VR1.out.cells
      simp only [V.null] at c0 c1 c2
      have HK1 := hidden ((HK0.out.drewN nq).trans hK (fun _ _ h => h))
      have hz := blk_lt VR1.out
      clear hK
      unfold V.val
      go_wp2_with fail
      obtain ⟨d0, d1, d2, -⟩ := (VR1.out.set ⟨2, z, ⟨#[]⟩⟩).cells
      exact bodyPost_ret (v := .tuple #[V.val ⟨2, z, ⟨#[]⟩⟩, .int .i64 0]) (by simp [results, Try.results29, go_sem, d0, d1, d2, V.val]) rfl (hR.out _ _ ⟨rfl, HK1.out.var (fun h => absurd h (by omega)) _ _ _⟩)
  · have h := fun W => num_And n n2 W
    simp only [rk, if_neg (show ¬ (4 : Int) = 0 by decide), if_neg (show ¬ (4 : Int) = 1 by decide), if_neg (show ¬ (4 : Int) = 2 by decide), if_neg (show ¬ (4 : Int) = 3 by decide), if_true] at hR
    generalize nAnd n n2 = z at *
    have H := hidden h
    clear h
    rw [if_neg (by decide)] at hR
    go_enter Try.func29, Try.ntmps29
    go_wp2_with fail
    go_quiet (fail)
    go_wp2_with (go_at_call 34; refine (H.out _).mono ?_; rintro e _ ⟨rfl, rfl⟩)
    refine (value_Int _ _).mono ?_
    rintro e w1 ⟨rfl, hK⟩
    have VR1 := hidden (show IsVar w1 (w.heap.size + 1 + 1) V.null from hK.heap (VR.out.drewN nq) (fun h => h))
    obtain ⟨c0, c1, c2, f0, f1, f2⟩ := VR1.out.cells
    simp only [V.null] at c0 c1 c2
    have HK1 := hidden ((HK0.out.drewN nq).trans hK (fun _ _ h => h))
    have hz := blk_lt VR1.out
    clear hK
    unfold V.val
    go_wp2_with fail
    obtain ⟨d0, d1, d2, -⟩ := (VR1.out.set ⟨2, z, ⟨#[]⟩⟩).cells
    exact bodyPost_ret (v := .tuple #[V.val ⟨2, z, ⟨#[]⟩⟩, .int .i64 0]) (by simp [results, Try.results29, go_sem, d0, d1, d2, V.val]) rfl (hR.out _ _ ⟨rfl, HK1.out.var (fun h => absurd h (by omega)) _ _ _⟩)
  · have h := fun W => num_Or n n2 W
    simp only [rk, if_neg (show ¬ (5 : Int) = 0 by decide), if_neg (show ¬ (5 : Int) = 1 by decide), if_neg (show ¬ (5 : Int) = 2 by decide), if_neg (show ¬ (5 : Int) = 3 by decide), if_neg (show ¬ (5 : Int) = 4 by decide), if_true] at hR
    generalize nOr n n2 = z at *
    have H := hidden h
    clear h
    rw [if_neg (by decide)] at hR
    go_enter Try.func29, Try.ntmps29
    go_wp2_with fail
    go_quiet (fail)
    go_wp2_with (go_at_call 35; refine (H.out _).mono ?_; rintro e _ ⟨rfl, rfl⟩)
    refine (value_Int _ _).mono ?_
    rintro e w1 ⟨rfl, hK⟩
    have VR1 := hidden (show IsVar w1 (w.heap.size + 1 + 1) V.null from hK.heap (VR.out.drewN nq) (fun h => h))
    obtain ⟨c0, c1, c2, f0, f1, f2⟩ := VR1.out.cells
    simp only [V.null] at c0 c1 c2
    have HK1 := hidden ((HK0.out.drewN nq).trans hK (fun _ _ h => h))
    have hz := blk_lt VR1.out
    clear hK
    unfold V.val
    go_wp2_with fail
    obtain ⟨d0, d1, d2, -⟩ := (VR1.out.set ⟨2, z, ⟨#[]⟩⟩).cells
    exact bodyPost_ret (v := .tuple #[V.val ⟨2, z, ⟨#[]⟩⟩, .int .i64 0]) (by simp [results, Try.results29, go_sem, d0, d1, d2, V.val]) rfl (hR.out _ _ ⟨rfl, HK1.out.var (fun h => absurd h (by omega)) _ _ _⟩)
  · have h := fun W => num_Xor n n2 W
    simp only [rk, if_neg (show ¬ (6 : Int) = 0 by decide), if_neg (show ¬ (6 : Int) = 1 by decide), if_neg (show ¬ (6 : Int) = 2 by decide), if_neg (show ¬ (6 : Int) = 3 by decide), if_neg (show ¬ (6 : Int) = 4 by decide), if_neg (show ¬ (6 : Int) = 5 by decide), if_true] at hR
    generalize nXor n n2 = z at *
    have H := hidden h
    clear h
    rw [if_neg (by decide)] at hR
    go_enter Try.func29, Try.ntmps29
    go_wp2_with fail
    go_quiet (fail)
    go_wp2_with (go_at_call 36; refine (H.out _).mono ?_; rintro e _ ⟨rfl, rfl⟩)
    refine (value_Int _ _).mono ?_
    rintro e w1 ⟨rfl, hK⟩
    have VR1 := hidden (show IsVar w1 (w.heap.size + 1 + 1) V.null from hK.heap (VR.out.drewN nq) (fun h => h))
    obtain ⟨c0, c1, c2, f0, f1, f2⟩ := VR1.out.cells
    simp only [V.null] at c0 c1 c2
    have HK1 := hidden ((HK0.out.drewN nq).trans hK (fun _ _ h => h))
    have hz := blk_lt VR1.out
    clear hK
    unfold V.val
    go_wp2_with fail
    obtain ⟨d0, d1, d2, -⟩ := (VR1.out.set ⟨2, z, ⟨#[]⟩⟩).cells
    exact bodyPost_ret (v := .tuple #[V.val ⟨2, z, ⟨#[]⟩⟩, .int .i64 0]) (by simp [results, Try.results29, go_sem, d0, d1, d2, V.val]) rfl (hR.out _ _ ⟨rfl, HK1.out.var (fun h => absurd h (by omega)) _ _ _⟩)
  · have h := fun W => num_Left n n2 W
    simp only [rk, if_neg (show ¬ (7 : Int) = 0 by decide), if_neg (show ¬ (7 : Int) = 1 by decide), if_neg (show ¬ (7 : Int) = 2 by decide), if_neg (show ¬ (7 : Int) = 3 by decide), if_neg (show ¬ (7 : Int) = 4 by decide), if_neg (show ¬ (7 : Int) = 5 by decide), if_neg (show ¬ (7 : Int) = 6 by decide), if_true] at hR
    generalize nLeft n n2 = z at *
    have H := hidden h
    clear h
    rw [if_neg (by decide)] at hR
    go_enter Try.func29, Try.ntmps29
    go_wp2_with fail
    go_quiet (fail)
    go_wp2_with (go_at_call 37; refine (H.out _).mono ?_; rintro e _ ⟨rfl, rfl⟩)
    refine (value_Int _ _).mono ?_
    rintro e w1 ⟨rfl, hK⟩
    have VR1 := hidden (show IsVar w1 (w.heap.size + 1 + 1) V.null from hK.heap (VR.out.drewN nq) (fun h => h))
    obtain ⟨c0, c1, c2, f0, f1, f2⟩ := VR1.out.cells
    simp only [V.null] at c0 c1 c2
    have HK1 := hidden ((HK0.out.drewN nq).trans hK (fun _ _ h => h))
    have hz := blk_lt VR1.out
    clear hK
    unfold V.val
    go_wp2_with fail
    obtain ⟨d0, d1, d2, -⟩ := (VR1.out.set ⟨2, z, ⟨#[]⟩⟩).cells
    exact bodyPost_ret (v := .tuple #[V.val ⟨2, z, ⟨#[]⟩⟩, .int .i64 0]) (by simp [results, Try.results29, go_sem, d0, d1, d2, V.val]) rfl (hR.out _ _ ⟨rfl, HK1.out.var (fun h => absurd h (by omega)) _ _ _⟩)
  · have h := fun W => num_Right n n2 W
    simp only [rk, if_neg (show ¬ (8 : Int) = 0 by decide), if_neg (show ¬ (8 : Int) = 1 by decide), if_neg (show ¬ (8 : Int) = 2 by decide), if_neg (show ¬ (8 : Int) = 3 by decide), if_neg (show ¬ (8 : Int) = 4 by decide), if_neg (show ¬ (8 : Int) = 5 by decide), if_neg (show ¬ (8 : Int) = 6 by decide), if_neg (show ¬ (8 : Int) = 7 by decide), if_true] at hR
    generalize nRight n n2 = z at *
    have H := hidden h
    clear h
    rw [if_neg (by decide)] at hR
    go_enter Try.func29, Try.ntmps29
    go_wp2_with fail
    go_quiet (fail)
    go_wp2_with (go_at_call 38; refine (H.out _).mono ?_; rintro e _ ⟨rfl, rfl⟩)
    refine (value_Int _ _).mono ?_
    rintro e w1 ⟨rfl, hK⟩
    have VR1 := hidden (show IsVar w1 (w.heap.size + 1 + 1) V.null from hK.heap (VR.out.drewN nq) (fun h => h))
    obtain ⟨c0, c1, c2, f0, f1, f2⟩ := VR1.out.cells
    simp only [V.null] at c0 c1 c2
    have HK1 := hidden ((HK0.out.drewN nq).trans hK (fun _ _ h => h))
    have hz := blk_lt VR1.out
    clear hK
    unfold V.val
    go_wp2_with fail
    obtain ⟨d0, d1, d2, -⟩ := (VR1.out.set ⟨2, z, ⟨#[]⟩⟩).cells
    exact bodyPost_ret (v := .tuple #[V.val ⟨2, z, ⟨#[]⟩⟩, .int .i64 0]) (by simp [results, Try.results29, go_sem, d0, d1, d2, V.val]) rfl (hR.out _ _ ⟨rfl, HK1.out.var (fun h => absurd h (by omega)) _ _ _⟩)
  · have h := fun W => num_Logical n n2 W
    simp only [rk, if_neg (show ¬ (9 : Int) = 0 by decide), if_neg (show ¬ (9 : Int) = 1 by decide), if_neg (show ¬ (9 : Int) = 2 by decide), if_neg (show ¬ (9 : Int) = 3 by decide), if_neg (show ¬ (9 : Int) = 4 by decide), if_neg (show ¬ (9 : Int) = 5 by decide), if_neg (show ¬ (9 : Int) = 6 by decide), if_neg (show ¬ (9 : Int) = 7 by decide), if_neg (show ¬ (9 : Int) = 8 by decide)] at hR
    generalize nLogical n n2 = z at *
    have H := hidden h
    clear h
    rw [if_neg (by decide)] at hR
    go_enter Try.func29, Try.ntmps29
    go_wp2_with fail
    go_quiet (fail)
    go_wp2_with (go_at_call 39; refine (H.out _).mono ?_; rintro e _ ⟨rfl, rfl⟩)
    refine (value_Int _ _).mono ?_
    rintro e w1 ⟨rfl, hK⟩
    have VR1 := hidden (show IsVar w1 (w.heap.size + 1 + 1) V.null from hK.heap (VR.out.drewN nq) (fun h => h))
    obtain ⟨c0, c1, c2, f0, f1, f2⟩ := VR1.out.cells
    simp only [V.null] at c0 c1 c2
    have HK1 := hidden ((HK0.out.drewN nq).trans hK (fun _ _ h => h))
    have hz := blk_lt VR1.out
    clear hK
    unfold V.val
    go_wp2_with fail
    obtain ⟨d0, d1, d2, -⟩ := (VR1.out.set ⟨2, z, ⟨#[]⟩⟩).cells
    exact bodyPost_ret (v := .tuple #[V.val ⟨2, z, ⟨#[]⟩⟩, .int .i64 0]) (by simp [results, Try.results29, go_sem, d0, d1, d2, V.val]) rfl (hR.out _ _ ⟨rfl, HK1.out.var (fun h => absurd h (by omega)) _ _ _⟩)
end Go.Proofs.Ytmjkglmkckofgaa
