/- Layer 3 (value): contracts of Compare, Add, Reckon, Cells. -/
import Derived.Test.YtmjkglmkckofgaaValB
namespace Go.Proofs.Ytmjkglmkckofgaa
open Go.RowKit
set_option maxRecDepth 100000

def cmpI (x y : Int) : Int := if x < y then -1 else if y < x then 1 else 0
def V.cmp (a b : V) : Int × Int :=
  if a = b then (0, 0) else if a.k = 0 then (-1, 0) else if b.k = 0 then (1, 0) else if (a.k = 2 ∧ b.k = 2) ∨ (a.k = 1 ∧ b.k = 1) then (cmpI a.n b.n, 0)
  else if a.k = 3 ∧ b.k = 3 then (cmpL a.t.data.toList b.t.data.toList, 0) else (0, 30)
set_option maxHeartbeats 1000000 in
theorem value_Compare (a b : V) (w : World) (ha : a.t.size ≤ 140737488351232) (hb : b.t.size ≤ 140737488351232) : Calls Try.prog 22 #[a.val, b.val] w fun e w' => e = .returned (.tuple #[.int .i64 (a.cmp b).1, .int .i64 (a.cmp b).2]) ∧ Keeps (fun _ => False) w w' := by
  have h1 := fun W => value_Same a b W
  have h2 := hidden (fun W => str_Compare a.t b.t W ha hb)
  have h3 := hidden (fun W => num_Compare a.n b.n W)
  have hc : (if a.n < b.n then (-1 : Int) else if b.n < a.n then 1 else 0) = cmpI a.n b.n := rfl
  rw [hc] at h3
  unfold V.cmp
  generalize cmpL a.t.data.toList b.t.data.toList = x at *
  generalize cmpI a.n b.n = y at *
  clear hc
  refine post_gen fun R hR => ?_
  by_cases hs : a = b
  · rw [if_pos hs] at hR
    rw [decide_eq_true hs] at h1
    have H1 := hidden h1
    clear h1 hs
    obtain ⟨k, n, t⟩ := a
    obtain ⟨k2, n2, t2⟩ := b
    unfold V.val at *
    go_enter Try.func22, Try.ntmps22
    go_wp2_with (go_at_call 23; refine (H1.out _).mono ?_; rintro e w1 ⟨rfl, hK⟩; have HK := hidden hK; clear hK)
    exact hR.out _ _ ⟨rfl, (((Keeps.refl _ _).alloc _).alloc _).trans HK.out (fun _ _ h => h)⟩
  rw [if_neg hs] at hR
  rw [decide_eq_false hs] at h1
  have H1 := hidden h1
  clear h1 hs
  obtain ⟨k, n, t⟩ := a
  obtain ⟨k2, n2, t2⟩ := b
  simp only at hR
  unfold V.val at *
  by_cases g0 : k = 0
  · subst g0
    rw [if_pos rfl] at hR
    go_enter Try.func22, Try.ntmps22
    go_wp2_with fail
    refine (H1.out _).mono ?_
    rintro e w1 ⟨rfl, hK⟩
    have HK := hidden ((((Keeps.refl (fun _ => False) w).alloc (.cells #[.int .i64 0, .int .i64 n, .string t] 23)).alloc (.cells #[.int .i64 k2, .int .i64 n2, .string t2] 23)).trans hK (fun _ _ h => h))
    have HV := hidden (show IsVar w1 w.heap.size ⟨0, n, t⟩ from hK.heap (blk_alloc (blk_new w _) _) (fun h => h))
    have HV2 := hidden (show IsVar w1 (w.heap.size + 1) ⟨k2, n2, t2⟩ from hK.heap (by have := blk_new (w.alloc (.cells #[.int .i64 0, .int .i64 n, .string t] 23)) (.cells #[.int .i64 k2, .int .i64 n2, .string t2] 23); simpa using this) (fun h => h))
    obtain ⟨c0, c1, c2, -, -, -⟩ := HV.out.cells
    obtain ⟨d0, d1, d2, -, -, -⟩ := HV2.out.cells
    simp only at c0 c1 c2 d0 d1 d2
    have hz1 := blk_lt HV2.out
    clear hK
    go_wp2_with fail
    exact hR.out _ _ ⟨rfl, HK.out⟩
  rw [if_neg g0] at hR
  have i0 : (k == 0) = false := by simpa using g0
  by_cases e0 : k2 = 0
  · subst e0
    rw [if_pos rfl] at hR
    go_enter Try.func22, Try.ntmps22
    go_wp2_with fail
    refine (H1.out _).mono ?_
    rintro e w1 ⟨rfl, hK⟩
    have HK := hidden ((((Keeps.refl (fun _ => False) w).alloc (.cells #[.int .i64 k, .int .i64 n, .string t] 23)).alloc (.cells #[.int .i64 0, .int .i64 n2, .string t2] 23)).trans hK (fun _ _ h => h))
    have HV := hidden (show IsVar w1 w.heap.size ⟨k, n, t⟩ from hK.heap (blk_alloc (blk_new w _) _) (fun h => h))
    have HV2 := hidden (show IsVar w1 (w.heap.size + 1) ⟨0, n2, t2⟩ from hK.heap (by have := blk_new (w.alloc (.cells #[.int .i64 k, .int .i64 n, .string t] 23)) (.cells #[.int .i64 0, .int .i64 n2, .string t2] 23); simpa using this) (fun h => h))
    obtain ⟨c0, c1, c2, -, -, -⟩ := HV.out.cells
    obtain ⟨d0, d1, d2, -, -, -⟩ := HV2.out.cells
    simp only at c0 c1 c2 d0 d1 d2
    have hz1 := blk_lt HV2.out
    clear hK
    go_wp2_with fail
    exact hR.out _ _ ⟨rfl, HK.out⟩
  rw [if_neg e0] at hR
  have j0 : (k2 == 0) = false := by simpa using e0
  by_cases g2 : k = 2 ∧ k2 = 2
  · obtain ⟨rfl, rfl⟩ := g2
    rw [if_pos (.inl ⟨rfl, rfl⟩)] at hR
    go_enter Try.func22, Try.ntmps22
    go_wp2_with fail
    refine (H1.out _).mono ?_
    rintro e w1 ⟨rfl, hK⟩
    have HK := hidden ((((Keeps.refl (fun _ => False) w).alloc (.cells #[.int .i64 2, .int .i64 n, .string t] 23)).alloc (.cells #[.int .i64 2, .int .i64 n2, .string t2] 23)).trans hK (fun _ _ h => h))
    have HV := hidden (show IsVar w1 w.heap.size ⟨2, n, t⟩ from hK.heap (blk_alloc (blk_new w _) _) (fun h => h))
    have HV2 := hidden (show IsVar w1 (w.heap.size + 1) ⟨2, n2, t2⟩ from hK.heap (by have := blk_new (w.alloc (.cells #[.int .i64 2, .int .i64 n, .string t] 23)) (.cells #[.int .i64 2, .int .i64 n2, .string t2] 23); simpa using this) (fun h => h))
    obtain ⟨c0, c1, c2, -, -, -⟩ := HV.out.cells
    obtain ⟨d0, d1, d2, -, -, -⟩ := HV2.out.cells
    simp only at c0 c1 c2 d0 d1 d2
    have hz1 := blk_lt HV2.out
    clear hK
    go_wp2_with (go_at_call 25; refine (h3.out _).mono ?_; rintro e _ ⟨rfl, rfl⟩)
    exact hR.out _ _ ⟨rfl, HK.out⟩
  by_cases g1 : k = 1 ∧ k2 = 1
  · obtain ⟨rfl, rfl⟩ := g1
    rw [if_pos (.inr ⟨rfl, rfl⟩)] at hR
    go_enter Try.func22, Try.ntmps22
    go_wp2_with fail
    refine (H1.out _).mono ?_
    rintro e w1 ⟨rfl, hK⟩
    have HK := hidden ((((Keeps.refl (fun _ => False) w).alloc (.cells #[.int .i64 1, .int .i64 n, .string t] 23)).alloc (.cells #[.int .i64 1, .int .i64 n2, .string t2] 23)).trans hK (fun _ _ h => h))
    have HV := hidden (show IsVar w1 w.heap.size ⟨1, n, t⟩ from hK.heap (blk_alloc (blk_new w _) _) (fun h => h))
    have HV2 := hidden (show IsVar w1 (w.heap.size + 1) ⟨1, n2, t2⟩ from hK.heap (by have := blk_new (w.alloc (.cells #[.int .i64 1, .int .i64 n, .string t] 23)) (.cells #[.int .i64 1, .int .i64 n2, .string t2] 23); simpa using this) (fun h => h))
    obtain ⟨c0, c1, c2, -, -, -⟩ := HV.out.cells
    obtain ⟨d0, d1, d2, -, -, -⟩ := HV2.out.cells
    simp only at c0 c1 c2 d0 d1 d2
    have hz1 := blk_lt HV2.out
    clear hK
    go_wp2_with (go_at_call 25; refine (h3.out _).mono ?_; rintro e _ ⟨rfl, rfl⟩)
    exact hR.out _ _ ⟨rfl, HK.out⟩
  rw [if_neg (by omega)] at hR
  by_cases g3 : k = 3 ∧ k2 = 3
  · obtain ⟨rfl, rfl⟩ := g3
    rw [if_pos ⟨rfl, rfl⟩] at hR
    go_enter Try.func22, Try.ntmps22
    go_wp2_with fail
    refine (H1.out _).mono ?_
    rintro e w1 ⟨rfl, hK⟩
    have HK := hidden ((((Keeps.refl (fun _ => False) w).alloc (.cells #[.int .i64 3, .int .i64 n, .string t] 23)).alloc (.cells #[.int .i64 3, .int .i64 n2, .string t2] 23)).trans hK (fun _ _ h => h))
    have HV := hidden (show IsVar w1 w.heap.size ⟨3, n, t⟩ from hK.heap (blk_alloc (blk_new w _) _) (fun h => h))
    have HV2 := hidden (show IsVar w1 (w.heap.size + 1) ⟨3, n2, t2⟩ from hK.heap (by have := blk_new (w.alloc (.cells #[.int .i64 3, .int .i64 n, .string t] 23)) (.cells #[.int .i64 3, .int .i64 n2, .string t2] 23); simpa using this) (fun h => h))
    obtain ⟨c0, c1, c2, -, -, -⟩ := HV.out.cells
    obtain ⟨d0, d1, d2, -, -, -⟩ := HV2.out.cells
    simp only at c0 c1 c2 d0 d1 d2
    have hz1 := blk_lt HV2.out
    clear hK
    go_wp2_with (go_at_call 24; refine (h2.out _).mono ?_; rintro e w2 ⟨rfl, hD⟩)
    exact hR.out _ _ ⟨rfl, HK.out.trans (hD.keeps _) (fun _ _ h => h)⟩
  rw [if_neg g3] at hR
  by_cases a1 : k = 1
  · subst a1
    have j1 : (k2 == 1) = false := by simp; omega
    go_enter Try.func22, Try.ntmps22
    go_wp2_with fail
    refine (H1.out _).mono ?_
    rintro e w1 ⟨rfl, hK⟩
    have HK := hidden ((((Keeps.refl (fun _ => False) w).alloc (.cells #[.int .i64 1, .int .i64 n, .string t] 23)).alloc (.cells #[.int .i64 k2, .int .i64 n2, .string t2] 23)).trans hK (fun _ _ h => h))
    have HV := hidden (show IsVar w1 w.heap.size ⟨1, n, t⟩ from hK.heap (blk_alloc (blk_new w _) _) (fun h => h))
    have HV2 := hidden (show IsVar w1 (w.heap.size + 1) ⟨k2, n2, t2⟩ from hK.heap (by have := blk_new (w.alloc (.cells #[.int .i64 1, .int .i64 n, .string t] 23)) (.cells #[.int .i64 k2, .int .i64 n2, .string t2] 23); simpa using this) (fun h => h))
    obtain ⟨c0, c1, c2, -, -, -⟩ := HV.out.cells
    obtain ⟨d0, d1, d2, -, -, -⟩ := HV2.out.cells
    simp only at c0 c1 c2 d0 d1 d2
    have hz1 := blk_lt HV2.out
    clear hK
    go_wp2_with fail
    exact hR.out _ _ ⟨rfl, HK.out⟩
  by_cases a2 : k = 2
  · subst a2
    have j1 : (k2 == 2) = false := by simp; omega
    go_enter Try.func22, Try.ntmps22
    go_wp2_with fail
    refine (H1.out _).mono ?_
    rintro e w1 ⟨rfl, hK⟩
    have HK := hidden ((((Keeps.refl (fun _ => False) w).alloc (.cells #[.int .i64 2, .int .i64 n, .string t] 23)).alloc (.cells #[.int .i64 k2, .int .i64 n2, .string t2] 23)).trans hK (fun _ _ h => h))
    have HV := hidden (show IsVar w1 w.heap.size ⟨2, n, t⟩ from hK.heap (blk_alloc (blk_new w _) _) (fun h => h))
    have HV2 := hidden (show IsVar w1 (w.heap.size + 1) ⟨k2, n2, t2⟩ from hK.heap (by have := blk_new (w.alloc (.cells #[.int .i64 2, .int .i64 n, .string t] 23)) (.cells #[.int .i64 k2, .int .i64 n2, .string t2] 23); simpa using this) (fun h => h))
    obtain ⟨c0, c1, c2, -, -, -⟩ := HV.out.cells
    obtain ⟨d0, d1, d2, -, -, -⟩ := HV2.out.cells
    simp only at c0 c1 c2 d0 d1 d2
    have hz1 := blk_lt HV2.out
    clear hK
    go_wp2_with fail
    exact hR.out _ _ ⟨rfl, HK.out⟩
  by_cases a3 : k = 3
  · subst a3
    have j1 : (k2 == 3) = false := by simp; omega
    go_enter Try.func22, Try.ntmps22
    go_wp2_with fail
    refine (H1.out _).mono ?_
    rintro e w1 ⟨rfl, hK⟩
    have HK := hidden ((((Keeps.refl (fun _ => False) w).alloc (.cells #[.int .i64 3, .int .i64 n, .string t] 23)).alloc (.cells #[.int .i64 k2, .int .i64 n2, .string t2] 23)).trans hK (fun _ _ h => h))
    have HV := hidden (show IsVar w1 w.heap.size ⟨3, n, t⟩ from hK.heap (blk_alloc (blk_new w _) _) (fun h => h))
    have HV2 := hidden (show IsVar w1 (w.heap.size + 1) ⟨k2, n2, t2⟩ from hK.heap (by have := blk_new (w.alloc (.cells #[.int .i64 3, .int .i64 n, .string t] 23)) (.cells #[.int .i64 k2, .int .i64 n2, .string t2] 23); simpa using this) (fun h => h))
    obtain ⟨c0, c1, c2, -, -, -⟩ := HV.out.cells
    obtain ⟨d0, d1, d2, -, -, -⟩ := HV2.out.cells
    simp only at c0 c1 c2 d0 d1 d2
    have hz1 := blk_lt HV2.out
    clear hK
    go_wp2_with fail
    exact hR.out _ _ ⟨rfl, HK.out⟩
  have i1 : (k == 1) = false := by simpa using a1
  have i2 : (k == 2) = false := by simpa using a2
  have i3 : (k == 3) = false := by simpa using a3
  go_enter Try.func22, Try.ntmps22
  go_wp2_with fail
  refine (H1.out _).mono ?_
  rintro e w1 ⟨rfl, hK⟩
  have HK := hidden ((((Keeps.refl (fun _ => False) w).alloc (.cells #[.int .i64 k, .int .i64 n, .string t] 23)).alloc (.cells #[.int .i64 k2, .int .i64 n2, .string t2] 23)).trans hK (fun _ _ h => h))
  have HV := hidden (show IsVar w1 w.heap.size ⟨k, n, t⟩ from hK.heap (blk_alloc (blk_new w _) _) (fun h => h))
  have HV2 := hidden (show IsVar w1 (w.heap.size + 1) ⟨k2, n2, t2⟩ from hK.heap (by have := blk_new (w.alloc (.cells #[.int .i64 k, .int .i64 n, .string t] 23)) (.cells #[.int .i64 k2, .int .i64 n2, .string t2] 23); simpa using this) (fun h => h))
  obtain ⟨c0, c1, c2, -, -, -⟩ := HV.out.cells
  obtain ⟨d0, d1, d2, -, -, -⟩ := HV2.out.cells
  simp only at c0 c1 c2 d0 d1 d2
  have hz1 := blk_lt HV2.out
  clear hK
  go_wp2_with fail
  exact hR.out _ _ ⟨rfl, HK.out⟩
end Go.Proofs.Ytmjkglmkckofgaa
