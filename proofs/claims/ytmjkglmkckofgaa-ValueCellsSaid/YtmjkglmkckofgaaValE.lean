/- Layer 3 (value): contract of Add. -/
import Derived.Test.YtmjkglmkckofgaaValD
namespace Go.Proofs.Ytmjkglmkckofgaa
open Go.RowKit
set_option maxRecDepth 100000

/-- Two values together. -/
def V.add (a b : V) : V × Int :=
  if a.k = 2 ∧ b.k = 2 then (⟨2, nAdd a.n b.n, ⟨#[]⟩⟩, 0) else if a.k ≠ 3 ∧ b.k ≠ 3 then (V.null, 30) else if a.txt.2 ≠ 0 ∨ b.txt.2 ≠ 0 then (V.null, 30)
  else if 1048576 < a.txt.1.size + b.txt.1.size then (V.null, 2) else (⟨3, 0, mkS (a.txt.1.data.toList ++ b.txt.1.data.toList)⟩, 0)
set_option maxHeartbeats 2000000 in
theorem value_Add (a b : V) (w : World) (ha : -9223372036854775808 ≤ a.n ∧ a.n ≤ 9223372036854775807) (hb : -9223372036854775808 ≤ b.n ∧ b.n ≤ 9223372036854775807) (ha2 : a.txt.1.size ≤ 140737488351232) (hb2 : b.txt.1.size ≤ 140737488351232) :
    Calls Try.prog 26 #[a.val, b.val] w fun e w' => e = .returned (.tuple #[(V.add a b).1.val, .int .i64 (V.add a b).2]) ∧ Keeps (fun _ => False) w w' := by
  have h1 := hidden (fun W => value_Text a W ha)
  have h2 := hidden (fun W => value_Text b W hb)
  have h3 := hidden (fun W => num_Add a.n b.n W)
  have hj := hidden (fun (W : World) (A : Option Addr) (hs : Strs W A [a.txt.1, b.txt.1]) => str_Join W A 2 [a.txt.1, b.txt.1] ⟨#[]⟩ hs (by simp) (by simp) (fun i h => by match i, h with | 0, _ => exact ha2 | 1, _ => exact hb2) (by decide))
  have hjn : jn ⟨#[]⟩ [a.txt.1, b.txt.1] = a.txt.1.size + b.txt.1.size := by simp [jn, show (⟨#[]⟩ : ByteArray).size = 0 from rfl]
  have hjb : joinB ⟨#[]⟩ [a.txt.1, b.txt.1] = a.txt.1.data.toList ++ b.txt.1.data.toList := by
    simp only [joinB, List.map_cons, List.map_nil, Lib.join_cons, Lib.joinTail]
    simp
  rw [hjn, hjb] at hj
  unfold V.add
  clear ha hb ha2 hb2 hjn hjb
  generalize a.txt = x at *
  generalize b.txt = y at *
  obtain ⟨x1, x2⟩ := x
  obtain ⟨y1, y2⟩ := y
  generalize nAdd a.n b.n = z at *
  obtain ⟨k, n, t⟩ := a
  obtain ⟨k2, n2, t2⟩ := b
  simp only at *
  refine post_gen fun R hR => ?_
  by_cases hkk : k = 2 ∧ k2 = 2
  · rw [if_pos hkk] at hR
    obtain ⟨rfl, rfl⟩ := hkk
    obtain ⟨va, vb, vr, hK0⟩ := box3 w 2 n 2 n2 t t2
    have VR := hidden vr
    have VA := hidden va
    have VB := hidden vb
    have HK0 := hidden hK0
    clear va vb vr hK0
    unfold V.val at *
    go_enter Try.func26, Try.ntmps26
    go_wp2_with (go_at_call 28; refine (h3.out _).mono ?_; rintro e _ ⟨rfl, rfl⟩)
    refine (value_Int _ _).mono ?_
    rintro e w1 ⟨rfl, hK⟩
    have VR1 := hidden (show IsVar w1 (w.heap.size + 1 + 1) V.null from hK.heap VR.out (fun h => h))
    obtain ⟨c0, c1, c2, f0, f1, f2⟩ := VR1.out.cells
    simp only [V.null] at c0 c1 c2
    have HK1 := hidden (HK0.out.trans hK (fun _ _ h => h))
    have hz := blk_lt VR1.out
    clear hK
    unfold V.val
    go_wp2_with fail
    obtain ⟨d0, d1, d2, -⟩ := (VR1.out.set ⟨2, z, ⟨#[]⟩⟩).cells
    exact bodyPost_ret (v := .tuple #[V.val ⟨2, z, ⟨#[]⟩⟩, .int .i64 0]) (by simp [results, Try.results26, go_sem, d0, d1, d2, V.val]) rfl (hR.out _ _ ⟨rfl, HK1.out.var (fun h => absurd h (by omega)) _ _ _⟩)
  rw [if_neg hkk] at hR
  by_cases hk3 : k ≠ 3 ∧ k2 ≠ 3
  · rw [if_pos hk3] at hR
    obtain ⟨va, vb, vr, hK0⟩ := box3 w k n k2 n2 t t2
    have VR := hidden vr
    have VA := hidden va
    have VB := hidden vb
    have HK0 := hidden hK0
    clear va vb vr hK0
    unfold V.val at *
    have j1 : (k == 3) = false := by simp; omega
    have j2 : (k2 == 3) = false := by simp; omega
    have j3 : (k != 3) = true := by simp; omega
    have j4 : (k2 != 3) = true := by simp; omega
    by_cases hk : k = 2
    · have i1 : (k2 == 2) = false := by simp; omega
      subst hk
      go_enter Try.func26, Try.ntmps26
      go_wp2_with fail
      refine (value_Null _).mono ?_
      rintro e w1 ⟨rfl, hK⟩
      have VR1 := hidden (show IsVar w1 (w.heap.size + 1 + 1) V.null from hK.heap (VR.out) (fun h => h))
      obtain ⟨c0, c1, c2, f0, f1, f2⟩ := VR1.out.cells
      simp only [V.null] at c0 c1 c2
      have HK1 := hidden ((HK0.out).trans hK (fun _ _ h => h))
      have hz := blk_lt VR1.out
      clear hK
      unfold V.val V.null
      go_wp2_with fail
      obtain ⟨d0, d1, d2, -⟩ := (VR1.out.set V.null).cells
      simp only [V.null] at d0 d1 d2
      exact bodyPost_ret (v := .tuple #[V.val V.null, .int .i64 30]) (by simp [results, Try.results26, go_sem, d0, d1, d2, V.val, V.null]) rfl (hR.out _ _ ⟨rfl, HK1.out.var (fun h => absurd h (by omega)) _ _ _⟩)
    · have i1 : (k == 2) = false := by simp; omega
      go_enter Try.func26, Try.ntmps26
      go_wp2_with fail
      refine (value_Null _).mono ?_
      rintro e w1 ⟨rfl, hK⟩
      have VR1 := hidden (show IsVar w1 (w.heap.size + 1 + 1) V.null from hK.heap (VR.out) (fun h => h))
      obtain ⟨c0, c1, c2, f0, f1, f2⟩ := VR1.out.cells
      simp only [V.null] at c0 c1 c2
      have HK1 := hidden ((HK0.out).trans hK (fun _ _ h => h))
      have hz := blk_lt VR1.out
      clear hK
      unfold V.val V.null
      go_wp2_with fail
      obtain ⟨d0, d1, d2, -⟩ := (VR1.out.set V.null).cells
      simp only [V.null] at d0 d1 d2
      exact bodyPost_ret (v := .tuple #[V.val V.null, .int .i64 30]) (by simp [results, Try.results26, go_sem, d0, d1, d2, V.val, V.null]) rfl (hR.out _ _ ⟨rfl, HK1.out.var (fun h => absurd h (by omega)) _ _ _⟩)
  rw [if_neg hk3] at hR
  by_cases g3 : k = 3
  · subst g3
    obtain ⟨va, vb, vr, hK0⟩ := box3 w 3 n k2 n2 t t2
    have VR := hidden vr
    have VA := hidden va
    have VB := hidden vb
    have HK0 := hidden hK0
    clear va vb vr hK0
    unfold V.val at *
    go_enter Try.func26, Try.ntmps26
    go_wp2_with fail
    refine (h1.out _).mono ?_
    rintro e w1 ⟨rfl, hK⟩
    have VR1 := hidden (show IsVar w1 (w.heap.size + 1 + 1) V.null from hK.heap VR.out (fun h => h))
    have VB1 := hidden (show IsVar w1 (w.heap.size + 1) ⟨k2, n2, t2⟩ from hK.heap VB.out (fun h => h))
    have HK1 := hidden (HK0.out.trans hK (fun _ _ h => h))
    obtain ⟨b0, b1, b2, -, -, -⟩ := VB1.out.cells
    simp only at b0 b1 b2
    clear hK
    go_wp2_with fail
    refine (h2.out _).mono ?_
    rintro e w2 ⟨rfl, hK⟩
    have VR2 := hidden (show IsVar w2 (w.heap.size + 1 + 1) V.null from hK.heap VR1.out (fun h => h))
    have HK2 := hidden (HK1.out.trans hK (fun _ _ h => h))
    clear hK b0 b1 b2
    by_cases hx : x2 = 0
    · by_cases hy : y2 = 0
      · rw [if_neg (by omega)] at hR
        subst hx hy
        by_cases hbig : 1048576 < x1.size + y1.size
        · simp only [if_pos hbig] at hR hj
          go_wp2_with fail
          refine (hj.out _ _ (Strs.lit w2 _ _)).mono ?_
          rintro e w3 ⟨rfl, hK⟩
          have VR3 := hidden (show IsVar w3 (w.heap.size + 1 + 1) V.null from hK.heap (blk_alloc VR2.out _) (fun h => h))
          have HK3 := hidden ((HK2.out.alloc _).trans hK (fun _ _ h => h))
          clear hK
          go_wp2_with fail
          refine (value_Null _).mono ?_
          rintro e w1 ⟨rfl, hK⟩
          have VR1 := hidden (show IsVar w1 (w.heap.size + 1 + 1) V.null from hK.heap (VR3.out) (fun h => h))
          obtain ⟨c0, c1, c2, f0, f1, f2⟩ := VR1.out.cells
          simp only [V.null] at c0 c1 c2
          have HK1 := hidden ((HK3.out).trans hK (fun _ _ h => h))
          have hz := blk_lt VR1.out
          clear hK
          unfold V.val V.null
          go_wp2_with fail
          obtain ⟨d0, d1, d2, -⟩ := (VR1.out.set V.null).cells
          simp only [V.null] at d0 d1 d2
          exact bodyPost_ret (v := .tuple #[V.val V.null, .int .i64 2]) (by simp [results, Try.results26, go_sem, d0, d1, d2, V.val, V.null]) rfl (hR.out _ _ ⟨rfl, HK1.out.var (fun h => absurd h (by omega)) _ _ _⟩)
        · simp only [if_neg hbig] at hR hj
          go_wp2_with fail
          refine (hj.out _ _ (Strs.lit w2 _ _)).mono ?_
          rintro e w3 ⟨rfl, hK⟩
          have VR3 := hidden (show IsVar w3 (w.heap.size + 1 + 1) V.null from hK.heap (blk_alloc VR2.out _) (fun h => h))
          have HK3 := hidden ((HK2.out.alloc _).trans hK (fun _ _ h => h))
          clear hK
          go_wp2_with fail
          refine (value_Str _ _).mono ?_
          rintro e w4 ⟨rfl, hK⟩
          have VR4 := hidden (show IsVar w4 (w.heap.size + 1 + 1) V.null from hK.heap VR3.out (fun h => h))
          obtain ⟨c0, c1, c2, f0, f1, f2⟩ := VR4.out.cells
          simp only [V.null] at c0 c1 c2
          have HK4 := hidden (HK3.out.trans hK (fun _ _ h => h))
          have hz := blk_lt VR4.out
          clear hK
          unfold V.val
          go_wp2_with fail
          obtain ⟨d0, d1, d2, -⟩ := (VR4.out.set ⟨3, 0, mkS (x1.data.toList ++ y1.data.toList)⟩).cells
          exact bodyPost_ret (v := .tuple #[V.val ⟨3, 0, mkS (x1.data.toList ++ y1.data.toList)⟩, .int .i64 0]) (by simp [results, Try.results26, go_sem, d0, d1, d2, V.val]) rfl (hR.out _ _ ⟨rfl, HK4.out.var (fun h => absurd h (by omega)) _ _ _⟩)
      · rw [if_pos (.inr hy)] at hR
        subst hx
        have l1 : (y2 == 0) = false := by simpa using hy
        have l2 : (y2 != 0) = true := by simpa using hy
        go_wp2_with fail
        refine (value_Null _).mono ?_
        rintro e w1 ⟨rfl, hK⟩
        have VR1 := hidden (show IsVar w1 (w.heap.size + 1 + 1) V.null from hK.heap (VR2.out) (fun h => h))
        obtain ⟨c0, c1, c2, f0, f1, f2⟩ := VR1.out.cells
        simp only [V.null] at c0 c1 c2
        have HK1 := hidden ((HK2.out).trans hK (fun _ _ h => h))
        have hz := blk_lt VR1.out
        clear hK
        unfold V.val V.null
        go_wp2_with fail
        obtain ⟨d0, d1, d2, -⟩ := (VR1.out.set V.null).cells
        simp only [V.null] at d0 d1 d2
        exact bodyPost_ret (v := .tuple #[V.val V.null, .int .i64 30]) (by simp [results, Try.results26, go_sem, d0, d1, d2, V.val, V.null]) rfl (hR.out _ _ ⟨rfl, HK1.out.var (fun h => absurd h (by omega)) _ _ _⟩)
    · rw [if_pos (.inl hx)] at hR
      have l1 : (x2 == 0) = false := by simpa using hx
      have l2 : (x2 != 0) = true := by simpa using hx
      go_wp2_with fail
      refine (value_Null _).mono ?_
      rintro e w1 ⟨rfl, hK⟩
      have VR1 := hidden (show IsVar w1 (w.heap.size + 1 + 1) V.null from hK.heap (VR2.out) (fun h => h))
      obtain ⟨c0, c1, c2, f0, f1, f2⟩ := VR1.out.cells
      simp only [V.null] at c0 c1 c2
      have HK1 := hidden ((HK2.out).trans hK (fun _ _ h => h))
      have hz := blk_lt VR1.out
      clear hK
      unfold V.val V.null
      go_wp2_with fail
      obtain ⟨d0, d1, d2, -⟩ := (VR1.out.set V.null).cells
      simp only [V.null] at d0 d1 d2
      exact bodyPost_ret (v := .tuple #[V.val V.null, .int .i64 30]) (by simp [results, Try.results26, go_sem, d0, d1, d2, V.val, V.null]) rfl (hR.out _ _ ⟨rfl, HK1.out.var (fun h => absurd h (by omega)) _ _ _⟩)
  obtain rfl : k2 = 3 := by omega
  have j1 : (k == 3) = false := by simpa using g3
  have j3 : (k != 3) = true := by simpa using g3
  by_cases g2 : k = 2
  · subst g2
    obtain ⟨va, vb, vr, hK0⟩ := box3 w 2 n 3 n2 t t2
    have VR := hidden vr
    have VA := hidden va
    have VB := hidden vb
    have HK0 := hidden hK0
    clear va vb vr hK0
    unfold V.val at *
    go_enter Try.func26, Try.ntmps26
    go_wp2_with fail
    refine (h1.out _).mono ?_
    rintro e w1 ⟨rfl, hK⟩
    have VR1 := hidden (show IsVar w1 (w.heap.size + 1 + 1) V.null from hK.heap VR.out (fun h => h))
    have VB1 := hidden (show IsVar w1 (w.heap.size + 1) ⟨3, n2, t2⟩ from hK.heap VB.out (fun h => h))
    have HK1 := hidden (HK0.out.trans hK (fun _ _ h => h))
    obtain ⟨b0, b1, b2, -, -, -⟩ := VB1.out.cells
    simp only at b0 b1 b2
    clear hK
    go_wp2_with fail
    refine (h2.out _).mono ?_
    rintro e w2 ⟨rfl, hK⟩
    have VR2 := hidden (show IsVar w2 (w.heap.size + 1 + 1) V.null from hK.heap VR1.out (fun h => h))
    have HK2 := hidden (HK1.out.trans hK (fun _ _ h => h))
    clear hK b0 b1 b2
    by_cases hx : x2 = 0
    · by_cases hy : y2 = 0
      · rw [if_neg (by omega)] at hR
        subst hx hy
        by_cases hbig : 1048576 < x1.size + y1.size
        · simp only [if_pos hbig] at hR hj
          go_wp2_with fail
          refine (hj.out _ _ (Strs.lit w2 _ _)).mono ?_
          rintro e w3 ⟨rfl, hK⟩
          have VR3 := hidden (show IsVar w3 (w.heap.size + 1 + 1) V.null from hK.heap (blk_alloc VR2.out _) (fun h => h))
          have HK3 := hidden ((HK2.out.alloc _).trans hK (fun _ _ h => h))
          clear hK
          go_wp2_with fail
          refine (value_Null _).mono ?_
          rintro e w1 ⟨rfl, hK⟩
          have VR1 := hidden (show IsVar w1 (w.heap.size + 1 + 1) V.null from hK.heap (VR3.out) (fun h => h))
          obtain ⟨c0, c1, c2, f0, f1, f2⟩ := VR1.out.cells
          simp only [V.null] at c0 c1 c2
          have HK1 := hidden ((HK3.out).trans hK (fun _ _ h => h))
          have hz := blk_lt VR1.out
          clear hK
          unfold V.val V.null
          go_wp2_with fail
          obtain ⟨d0, d1, d2, -⟩ := (VR1.out.set V.null).cells
          simp only [V.null] at d0 d1 d2
          exact bodyPost_ret (v := .tuple #[V.val V.null, .int .i64 2]) (by simp [results, Try.results26, go_sem, d0, d1, d2, V.val, V.null]) rfl (hR.out _ _ ⟨rfl, HK1.out.var (fun h => absurd h (by omega)) _ _ _⟩)
        · simp only [if_neg hbig] at hR hj
          go_wp2_with fail
          refine (hj.out _ _ (Strs.lit w2 _ _)).mono ?_
          rintro e w3 ⟨rfl, hK⟩
          have VR3 := hidden (show IsVar w3 (w.heap.size + 1 + 1) V.null from hK.heap (blk_alloc VR2.out _) (fun h => h))
          have HK3 := hidden ((HK2.out.alloc _).trans hK (fun _ _ h => h))
          clear hK
          go_wp2_with fail
          refine (value_Str _ _).mono ?_
          rintro e w4 ⟨rfl, hK⟩
          have VR4 := hidden (show IsVar w4 (w.heap.size + 1 + 1) V.null from hK.heap VR3.out (fun h => h))
          obtain ⟨c0, c1, c2, f0, f1, f2⟩ := VR4.out.cells
          simp only [V.null] at c0 c1 c2
          have HK4 := hidden (HK3.out.trans hK (fun _ _ h => h))
          have hz := blk_lt VR4.out
          clear hK
          unfold V.val
          go_wp2_with fail
          obtain ⟨d0, d1, d2, -⟩ := (VR4.out.set ⟨3, 0, mkS (x1.data.toList ++ y1.data.toList)⟩).cells
          exact bodyPost_ret (v := .tuple #[V.val ⟨3, 0, mkS (x1.data.toList ++ y1.data.toList)⟩, .int .i64 0]) (by simp [results, Try.results26, go_sem, d0, d1, d2, V.val]) rfl (hR.out _ _ ⟨rfl, HK4.out.var (fun h => absurd h (by omega)) _ _ _⟩)
      · rw [if_pos (.inr hy)] at hR
        subst hx
        have l1 : (y2 == 0) = false := by simpa using hy
        have l2 : (y2 != 0) = true := by simpa using hy
        go_wp2_with fail
        refine (value_Null _).mono ?_
        rintro e w1 ⟨rfl, hK⟩
        have VR1 := hidden (show IsVar w1 (w.heap.size + 1 + 1) V.null from hK.heap (VR2.out) (fun h => h))
        obtain ⟨c0, c1, c2, f0, f1, f2⟩ := VR1.out.cells
        simp only [V.null] at c0 c1 c2
        have HK1 := hidden ((HK2.out).trans hK (fun _ _ h => h))
        have hz := blk_lt VR1.out
        clear hK
        unfold V.val V.null
        go_wp2_with fail
        obtain ⟨d0, d1, d2, -⟩ := (VR1.out.set V.null).cells
        simp only [V.null] at d0 d1 d2
        exact bodyPost_ret (v := .tuple #[V.val V.null, .int .i64 30]) (by simp [results, Try.results26, go_sem, d0, d1, d2, V.val, V.null]) rfl (hR.out _ _ ⟨rfl, HK1.out.var (fun h => absurd h (by omega)) _ _ _⟩)
    · rw [if_pos (.inl hx)] at hR
      have l1 : (x2 == 0) = false := by simpa using hx
      have l2 : (x2 != 0) = true := by simpa using hx
      go_wp2_with fail
      refine (value_Null _).mono ?_
      rintro e w1 ⟨rfl, hK⟩
      have VR1 := hidden (show IsVar w1 (w.heap.size + 1 + 1) V.null from hK.heap (VR2.out) (fun h => h))
      obtain ⟨c0, c1, c2, f0, f1, f2⟩ := VR1.out.cells
      simp only [V.null] at c0 c1 c2
      have HK1 := hidden ((HK2.out).trans hK (fun _ _ h => h))
      have hz := blk_lt VR1.out
      clear hK
      unfold V.val V.null
      go_wp2_with fail
      obtain ⟨d0, d1, d2, -⟩ := (VR1.out.set V.null).cells
      simp only [V.null] at d0 d1 d2
      exact bodyPost_ret (v := .tuple #[V.val V.null, .int .i64 30]) (by simp [results, Try.results26, go_sem, d0, d1, d2, V.val, V.null]) rfl (hR.out _ _ ⟨rfl, HK1.out.var (fun h => absurd h (by omega)) _ _ _⟩)
  · have j2 : (k == 2) = false := by simpa using g2
    obtain ⟨va, vb, vr, hK0⟩ := box3 w k n 3 n2 t t2
    have VR := hidden vr
    have VA := hidden va
    have VB := hidden vb
    have HK0 := hidden hK0
    clear va vb vr hK0
    unfold V.val at *
    go_enter Try.func26, Try.ntmps26
    go_wp2_with fail
    refine (h1.out _).mono ?_
    rintro e w1 ⟨rfl, hK⟩
    have VR1 := hidden (show IsVar w1 (w.heap.size + 1 + 1) V.null from hK.heap VR.out (fun h => h))
    have VB1 := hidden (show IsVar w1 (w.heap.size + 1) ⟨3, n2, t2⟩ from hK.heap VB.out (fun h => h))
    have HK1 := hidden (HK0.out.trans hK (fun _ _ h => h))
    obtain ⟨b0, b1, b2, -, -, -⟩ := VB1.out.cells
    simp only at b0 b1 b2
    clear hK
    go_wp2_with fail
    refine (h2.out _).mono ?_
    rintro e w2 ⟨rfl, hK⟩
    have VR2 := hidden (show IsVar w2 (w.heap.size + 1 + 1) V.null from hK.heap VR1.out (fun h => h))
    have HK2 := hidden (HK1.out.trans hK (fun _ _ h => h))
    clear hK b0 b1 b2
    by_cases hx : x2 = 0
    · by_cases hy : y2 = 0
      · rw [if_neg (by omega)] at hR
        subst hx hy
        by_cases hbig : 1048576 < x1.size + y1.size
        · simp only [if_pos hbig] at hR hj
          go_wp2_with fail
          refine (hj.out _ _ (Strs.lit w2 _ _)).mono ?_
          rintro e w3 ⟨rfl, hK⟩
          have VR3 := hidden (show IsVar w3 (w.heap.size + 1 + 1) V.null from hK.heap (blk_alloc VR2.out _) (fun h => h))
          have HK3 := hidden ((HK2.out.alloc _).trans hK (fun _ _ h => h))
          clear hK
          go_wp2_with fail
          refine (value_Null _).mono ?_
          rintro e w1 ⟨rfl, hK⟩
          have VR1 := hidden (show IsVar w1 (w.heap.size + 1 + 1) V.null from hK.heap (VR3.out) (fun h => h))
          obtain ⟨c0, c1, c2, f0, f1, f2⟩ := VR1.out.cells
          simp only [V.null] at c0 c1 c2
          have HK1 := hidden ((HK3.out).trans hK (fun _ _ h => h))
          have hz := blk_lt VR1.out
          clear hK
          unfold V.val V.null
          go_wp2_with fail
          obtain ⟨d0, d1, d2, -⟩ := (VR1.out.set V.null).cells
          simp only [V.null] at d0 d1 d2
          exact bodyPost_ret (v := .tuple #[V.val V.null, .int .i64 2]) (by simp [results, Try.results26, go_sem, d0, d1, d2, V.val, V.null]) rfl (hR.out _ _ ⟨rfl, HK1.out.var (fun h => absurd h (by omega)) _ _ _⟩)
        · simp only [if_neg hbig] at hR hj
          go_wp2_with fail
          refine (hj.out _ _ (Strs.lit w2 _ _)).mono ?_
          rintro e w3 ⟨rfl, hK⟩
          have VR3 := hidden (show IsVar w3 (w.heap.size + 1 + 1) V.null from hK.heap (blk_alloc VR2.out _) (fun h => h))
          have HK3 := hidden ((HK2.out.alloc _).trans hK (fun _ _ h => h))
          clear hK
          go_wp2_with fail
          refine (value_Str _ _).mono ?_
          rintro e w4 ⟨rfl, hK⟩
          have VR4 := hidden (show IsVar w4 (w.heap.size + 1 + 1) V.null from hK.heap VR3.out (fun h => h))
          obtain ⟨c0, c1, c2, f0, f1, f2⟩ := VR4.out.cells
          simp only [V.null] at c0 c1 c2
          have HK4 := hidden (HK3.out.trans hK (fun _ _ h => h))
          have hz := blk_lt VR4.out
          clear hK
          unfold V.val
          go_wp2_with fail
          obtain ⟨d0, d1, d2, -⟩ := (VR4.out.set ⟨3, 0, mkS (x1.data.toList ++ y1.data.toList)⟩).cells
          exact bodyPost_ret (v := .tuple #[V.val ⟨3, 0, mkS (x1.data.toList ++ y1.data.toList)⟩, .int .i64 0]) (by simp [results, Try.results26, go_sem, d0, d1, d2, V.val]) rfl (hR.out _ _ ⟨rfl, HK4.out.var (fun h => absurd h (by omega)) _ _ _⟩)
      · rw [if_pos (.inr hy)] at hR
        subst hx
        have l1 : (y2 == 0) = false := by simpa using hy
        have l2 : (y2 != 0) = true := by simpa using hy
        go_wp2_with fail
        refine (value_Null _).mono ?_
        rintro e w1 ⟨rfl, hK⟩
        have VR1 := hidden (show IsVar w1 (w.heap.size + 1 + 1) V.null from hK.heap (VR2.out) (fun h => h))
        obtain ⟨c0, c1, c2, f0, f1, f2⟩ := VR1.out.cells
        simp only [V.null] at c0 c1 c2
        have HK1 := hidden ((HK2.out).trans hK (fun _ _ h => h))
        have hz := blk_lt VR1.out
        clear hK
        unfold V.val V.null
        go_wp2_with fail
        obtain ⟨d0, d1, d2, -⟩ := (VR1.out.set V.null).cells
        simp only [V.null] at d0 d1 d2
        exact bodyPost_ret (v := .tuple #[V.val V.null, .int .i64 30]) (by simp [results, Try.results26, go_sem, d0, d1, d2, V.val, V.null]) rfl (hR.out _ _ ⟨rfl, HK1.out.var (fun h => absurd h (by omega)) _ _ _⟩)
    · rw [if_pos (.inl hx)] at hR
      have l1 : (x2 == 0) = false := by simpa using hx
      have l2 : (x2 != 0) = true := by simpa using hx
      go_wp2_with fail
      refine (value_Null _).mono ?_
      rintro e w1 ⟨rfl, hK⟩
      have VR1 := hidden (show IsVar w1 (w.heap.size + 1 + 1) V.null from hK.heap (VR2.out) (fun h => h))
      obtain ⟨c0, c1, c2, f0, f1, f2⟩ := VR1.out.cells
      simp only [V.null] at c0 c1 c2
      have HK1 := hidden ((HK2.out).trans hK (fun _ _ h => h))
      have hz := blk_lt VR1.out
      clear hK
      unfold V.val V.null
      go_wp2_with fail
      obtain ⟨d0, d1, d2, -⟩ := (VR1.out.set V.null).cells
      simp only [V.null] at d0 d1 d2
      exact bodyPost_ret (v := .tuple #[V.val V.null, .int .i64 30]) (by simp [results, Try.results26, go_sem, d0, d1, d2, V.val, V.null]) rfl (hR.out _ _ ⟨rfl, HK1.out.var (fun h => absurd h (by omega)) _ _ _⟩)
end Go.Proofs.Ytmjkglmkckofgaa
