/- The walk of the statement ValueReckons. -/
import Derived.Test.YtmjkglmkckofgaaVal3
namespace Go.Proofs.Ytmjkglmkckofgaa
open Go.RowKit
set_option maxRecDepth 100000

theorem run_index_cell (W : World) {t e : TypeId} {n : Nat} {cs : Array Value} {k : IntKind} {i : Int} {v : Value} (h : Try.prog.underlying t = some (.array n e)) (h0 : 0 ≤ i) (h1 : i < n) (he : (Try.prog.info? e).isSome = true) (h2 : Try.prog.cellsOf e = 1) (hp : Try.prog.plainKey e = true) (hv : cs[i.toNat]? = some v) :
    (Instr.index t (.agg cs) (.int k i)).run Try.prog W = .ok v W := by
  have hi : 0 ≤ i ∧ i < (n : Int) := ⟨h0, h1⟩
  obtain ⟨ie, he⟩ := Option.isSome_iff_exists.1 he
  have hs : (sizeOf e).run Try.prog W = .ok 1 W := by rw [run_sizeOf W he, h2]
  have hpt := run_part_plain W hp hv
  simp [Instr.index, asIntOf, run_underlying h, hi, hs, hpt]
set_option maxHeartbeats 8000000 in
theorem valueReckons_walk (w : World) (op : Int) (a b : V) (ha : -9223372036854775808 ≤ a.n ∧ a.n ≤ 9223372036854775807) (hb : -9223372036854775808 ≤ b.n ∧ b.n ≤ 9223372036854775807) :
    Calls Try.prog 7 #[.int .i64 op, a.val, b.val] w fun e w' => e = .returned (.bool true) ∧ Below w.heap.size w w' := by
  have kt := hidden (fun W => tells_true W)
  have kr := hidden (fun (W : World) (A : Option Addr) (hs : Vals W A [a, b]) => right_any W A 2 [a, b] hs (by simp))
  have hall : [a, b].all V.ok = (a.ok && b.ok) := by simp
  rw [hall] at kr
  clear hall
  refine post_gen fun R hR => ?_
  cases hok : (a.ok && b.ok) with
  | false =>
    rw [hok] at kr
    obtain ⟨k, n, t⟩ := a
    obtain ⟨k2, n2, t2⟩ := b
    clear hok
    obtain ⟨va, vb, hK0⟩ := box2 w k n k2 n2 t t2
    have VA := hidden va
    have VB := hidden vb
    have HK0 := hidden hK0
    clear va vb hK0
    unfold V.val at *
    go_enter Try.func7, Try.ntmps7
    go_wp2_with fail
    refine (kt.out _).mono ?_
    rintro e w1 ⟨rfl, hK⟩
    have HK1 := hidden ((HK0.out).trans hK (fun _ _ h => h))
    have VA1 := hidden (show IsVar w1 w.heap.size ⟨k, n, t⟩ from hK.heap VA.out (fun h => h))
    have VB1 := hidden (show IsVar w1 (w.heap.size + 1) ⟨k2, n2, t2⟩ from hK.heap VB.out (fun h => h))
    obtain ⟨a0, a1, a2, -⟩ := VA1.out.cells
    obtain ⟨b0, b1, b2, -⟩ := VB1.out.cells
    simp only at a0 a1 a2 b0 b1 b2
    clear hK
    go_wp2_with fail
    refine (kr.out _ _ (Vals.lit w1 [⟨k, n, t⟩, ⟨k2, n2, t2⟩] _ rfl)).mono ?_
    rintro e w2 ⟨rfl, hK⟩
    have HK2 := hidden ((HK1.out.alloc _).trans hK (fun _ _ h => h))
    have VA2 := hidden (show IsVar w2 w.heap.size ⟨k, n, t⟩ from hK.heap (blk_alloc VA1.out _) (fun h => h))
    have VB2 := hidden (show IsVar w2 (w.heap.size + 1) ⟨k2, n2, t2⟩ from hK.heap (blk_alloc VB1.out _) (fun h => h))
    clear hK a0 a1 a2 b0 b1 b2 VA1 VB1 HK1
    go_wp2_with fail
    exact hR.out _ _ ⟨rfl, HK2.out.toNew (fun _ h => h.elim)⟩
  | true =>
    rw [hok] at kr
    simp only [Bool.and_eq_true] at hok
    clear hok
    by_cases o1 : op < 0
    · have hr : V.rek op a b = (V.null, 1) := by unfold V.rek; rw [if_pos (.inl o1)]
      have hd : decide (op < 0) = true := decide_eq_true o1
      obtain ⟨k, n, t⟩ := a
      obtain ⟨k2, n2, t2⟩ := b
      have c1 := hidden (fun W => value_Reckon op ⟨k, n, t⟩ ⟨k2, n2, t2⟩ W)
      rw [hr] at c1
      clear hr
      unfold V.val at c1
      simp only [V.null] at c1
      obtain ⟨va, vb, hK0⟩ := box2 w k n k2 n2 t t2
      have VA := hidden va
      have VB := hidden vb
      have HK0 := hidden hK0
      clear va vb hK0
      unfold V.val at *
      go_enter Try.func7, Try.ntmps7
      go_wp2_with fail
      refine (kt.out _).mono ?_
      rintro e w1 ⟨rfl, hK⟩
      have HK1 := hidden ((HK0.out).trans hK (fun _ _ h => h))
      have VA1 := hidden (show IsVar w1 w.heap.size ⟨k, n, t⟩ from hK.heap VA.out (fun h => h))
      have VB1 := hidden (show IsVar w1 (w.heap.size + 1) ⟨k2, n2, t2⟩ from hK.heap VB.out (fun h => h))
      obtain ⟨a0, a1, a2, -⟩ := VA1.out.cells
      obtain ⟨b0, b1, b2, -⟩ := VB1.out.cells
      simp only at a0 a1 a2 b0 b1 b2
      clear hK
      go_wp2_with fail
      refine (kr.out _ _ (Vals.lit w1 [⟨k, n, t⟩, ⟨k2, n2, t2⟩] _ rfl)).mono ?_
      rintro e w2 ⟨rfl, hK⟩
      have HK2 := hidden ((HK1.out.alloc _).trans hK (fun _ _ h => h))
      have VA2 := hidden (show IsVar w2 w.heap.size ⟨k, n, t⟩ from hK.heap (blk_alloc VA1.out _) (fun h => h))
      have VB2 := hidden (show IsVar w2 (w.heap.size + 1) ⟨k2, n2, t2⟩ from hK.heap (blk_alloc VB1.out _) (fun h => h))
      clear hK a0 a1 a2 b0 b1 b2 VA1 VB1 HK1
      obtain ⟨a0, a1, a2, -⟩ := VA2.out.cells
      obtain ⟨b0, b1, b2, -⟩ := VB2.out.cells
      simp only at a0 a1 a2 b0 b1 b2
      have hz2 := blk_lt VB2.out
      go_wp2_with fail
      refine (c1.out _).mono ?_
      rintro e w3 ⟨rfl, hK⟩
      have VA3 := hidden (show IsVar w3 w.heap.size ⟨k, n, t⟩ from hK.heap VA2.out (fun h => h))
      have VB3 := hidden (show IsVar w3 (w.heap.size + 1) ⟨k2, n2, t2⟩ from hK.heap VB2.out (fun h => h))
      have HK3 := hidden (HK2.out.trans hK (fun _ _ h => h))
      clear hK a0 a1 a2 b0 b1 b2 hz2
      obtain ⟨a0, a1, a2, -⟩ := VA3.out.cells
      obtain ⟨b0, b1, b2, -⟩ := VB3.out.cells
      simp only at a0 a1 a2 b0 b1 b2
      have hz3 := blk_lt VB3.out
      have hy3 := blk_lt VA3.out
      go_wp2_with fail
      exact hR.out _ _ ⟨rfl, (HK3.out.alloc _).toNew (fun _ h => h.elim)⟩
    by_cases o2 : 10 ≤ op
    · have hr : V.rek op a b = (V.null, 1) := by unfold V.rek; rw [if_pos (.inr o2)]
      have hd : decide (op < 0) = false := decide_eq_false o1
      have hd2 : decide (10 ≤ op) = true := decide_eq_true o2
      obtain ⟨k, n, t⟩ := a
      obtain ⟨k2, n2, t2⟩ := b
      have c1 := hidden (fun W => value_Reckon op ⟨k, n, t⟩ ⟨k2, n2, t2⟩ W)
      rw [hr] at c1
      clear hr
      unfold V.val at c1
      simp only [V.null] at c1
      obtain ⟨va, vb, hK0⟩ := box2 w k n k2 n2 t t2
      have VA := hidden va
      have VB := hidden vb
      have HK0 := hidden hK0
      clear va vb hK0
      unfold V.val at *
      go_enter Try.func7, Try.ntmps7
      go_wp2_with fail
      refine (kt.out _).mono ?_
      rintro e w1 ⟨rfl, hK⟩
      have HK1 := hidden ((HK0.out).trans hK (fun _ _ h => h))
      have VA1 := hidden (show IsVar w1 w.heap.size ⟨k, n, t⟩ from hK.heap VA.out (fun h => h))
      have VB1 := hidden (show IsVar w1 (w.heap.size + 1) ⟨k2, n2, t2⟩ from hK.heap VB.out (fun h => h))
      obtain ⟨a0, a1, a2, -⟩ := VA1.out.cells
      obtain ⟨b0, b1, b2, -⟩ := VB1.out.cells
      simp only at a0 a1 a2 b0 b1 b2
      clear hK
      go_wp2_with fail
      refine (kr.out _ _ (Vals.lit w1 [⟨k, n, t⟩, ⟨k2, n2, t2⟩] _ rfl)).mono ?_
      rintro e w2 ⟨rfl, hK⟩
      have HK2 := hidden ((HK1.out.alloc _).trans hK (fun _ _ h => h))
      have VA2 := hidden (show IsVar w2 w.heap.size ⟨k, n, t⟩ from hK.heap (blk_alloc VA1.out _) (fun h => h))
      have VB2 := hidden (show IsVar w2 (w.heap.size + 1) ⟨k2, n2, t2⟩ from hK.heap (blk_alloc VB1.out _) (fun h => h))
      clear hK a0 a1 a2 b0 b1 b2 VA1 VB1 HK1
      obtain ⟨a0, a1, a2, -⟩ := VA2.out.cells
      obtain ⟨b0, b1, b2, -⟩ := VB2.out.cells
      simp only at a0 a1 a2 b0 b1 b2
      have hz2 := blk_lt VB2.out
      go_wp2_with fail
      refine (c1.out _).mono ?_
      rintro e w3 ⟨rfl, hK⟩
      have VA3 := hidden (show IsVar w3 w.heap.size ⟨k, n, t⟩ from hK.heap VA2.out (fun h => h))
      have VB3 := hidden (show IsVar w3 (w.heap.size + 1) ⟨k2, n2, t2⟩ from hK.heap VB2.out (fun h => h))
      have HK3 := hidden (HK2.out.trans hK (fun _ _ h => h))
      clear hK a0 a1 a2 b0 b1 b2 hz2
      obtain ⟨a0, a1, a2, -⟩ := VA3.out.cells
      obtain ⟨b0, b1, b2, -⟩ := VB3.out.cells
      simp only at a0 a1 a2 b0 b1 b2
      have hz3 := blk_lt VB3.out
      have hy3 := blk_lt VA3.out
      go_wp2_with fail
      exact hR.out _ _ ⟨rfl, (HK3.out.alloc _).toNew (fun _ h => h.elim)⟩
    have hd : decide (op < 0) = false := decide_eq_false o1
    have hd2 : decide (10 ≤ op) = false := decide_eq_false o2
    by_cases g1 : a.k = 2
    · by_cases g2 : b.k = 2
      · obtain ⟨k, n, t⟩ := a
        obtain ⟨k2, n2, t2⟩ := b
        simp only at *
        subst g1 g2
        have d0 := hidden (fun W => num_Sub n n2 W)
        have d1 := hidden (fun W => num_Mul n n2 W)
        have d2 := hidden (fun W => num_Div n n2 W)
        have d3 := hidden (fun W => num_Mod n n2 W)
        have d4 := hidden (fun W => num_And n n2 W)
        have d5 := hidden (fun W => num_Or n n2 W)
        have d6 := hidden (fun W => num_Xor n n2 W)
        have d7 := hidden (fun W => num_Left n n2 W)
        have d8 := hidden (fun W => num_Right n n2 W)
        have d9 := hidden (fun W => num_Logical n n2 W)
        have d10 := hidden (fun (n : Int) W => value_Int n W)
        simp only [V.val] at d10
        clear hd hd2
        have hop : op = 0 ∨ op = 1 ∨ op = 2 ∨ op = 3 ∨ op = 4 ∨ op = 5 ∨ op = 6 ∨ op = 7 ∨ op = 8 ∨ op = 9 := by omega
        clear o1 o2
        rcases hop with rfl | rfl | rfl | rfl | rfl | rfl | rfl | rfl | rfl | rfl
        · have hr : V.rek 0 ⟨2, n, t⟩ ⟨2, n2, t2⟩ = (⟨2, nSub n n2, ⟨#[]⟩⟩, 0) := by simp [V.rek, rk]
          have ix := hidden (fun W => run_index_cell W (t := 50) (n := 10) (e := 2) (k := .i64) (i := 0) (cs := #[.int .i64 (nSub n n2), .int .i64 (nMul n n2), .int .i64 (nDiv n n2), .int .i64 (nMod n n2), .int .i64 (nAnd n n2), .int .i64 (nOr n n2), .int .i64 (nXor n n2), .int .i64 (nLeft n n2), .int .i64 (nRight n n2), .int .i64 (nLogical n n2)]) (by kernel_rfl) (by decide) (by decide) (by kernel_rfl) (by kernel_rfl) (by kernel_rfl) rfl)
          have c1 := hidden (fun W => value_Reckon 0 ⟨2, n, t⟩ ⟨2, n2, t2⟩ W)
          rw [hr] at c1
          clear hr
          unfold V.val at c1
          obtain ⟨va, vb, hK0⟩ := box2 w 2 n 2 n2 t t2
          have VA := hidden va
          have VB := hidden vb
          have HK0 := hidden hK0
          clear va vb hK0
          unfold V.val at *
          go_enter Try.func7, Try.ntmps7
          go_wp2_with fail
          refine (kt.out _).mono ?_
          rintro e w1 ⟨rfl, hK⟩
          have HK1 := hidden ((HK0.out).trans hK (fun _ _ h => h))
          have VA1 := hidden (show IsVar w1 w.heap.size ⟨2, n, t⟩ from hK.heap VA.out (fun h => h))
          have VB1 := hidden (show IsVar w1 (w.heap.size + 1) ⟨2, n2, t2⟩ from hK.heap VB.out (fun h => h))
          obtain ⟨a0, a1, a2, -⟩ := VA1.out.cells
          obtain ⟨b0, b1, b2, -⟩ := VB1.out.cells
          simp only at a0 a1 a2 b0 b1 b2
          clear hK
          go_wp2_with fail
          refine (kr.out _ _ (Vals.lit w1 [⟨2, n, t⟩, ⟨2, n2, t2⟩] _ rfl)).mono ?_
          rintro e w2 ⟨rfl, hK⟩
          have HK2 := hidden ((HK1.out.alloc _).trans hK (fun _ _ h => h))
          have VA2 := hidden (show IsVar w2 w.heap.size ⟨2, n, t⟩ from hK.heap (blk_alloc VA1.out _) (fun h => h))
          have VB2 := hidden (show IsVar w2 (w.heap.size + 1) ⟨2, n2, t2⟩ from hK.heap (blk_alloc VB1.out _) (fun h => h))
          clear hK a0 a1 a2 b0 b1 b2 VA1 VB1 HK1
          obtain ⟨a0, a1, a2, -⟩ := VA2.out.cells
          obtain ⟨b0, b1, b2, -⟩ := VB2.out.cells
          simp only at a0 a1 a2 b0 b1 b2
          have hz2 := blk_lt VB2.out
          go_wp2_with fail
          refine (c1.out _).mono ?_
          rintro e w3 ⟨rfl, hK⟩
          have VA3 := hidden (show IsVar w3 w.heap.size ⟨2, n, t⟩ from hK.heap VA2.out (fun h => h))
          have VB3 := hidden (show IsVar w3 (w.heap.size + 1) ⟨2, n2, t2⟩ from hK.heap VB2.out (fun h => h))
          have HK3 := hidden (HK2.out.trans hK (fun _ _ h => h))
          clear hK a0 a1 a2 b0 b1 b2 hz2
          obtain ⟨a0, a1, a2, -⟩ := VA3.out.cells
          obtain ⟨b0, b1, b2, -⟩ := VB3.out.cells
          simp only at a0 a1 a2 b0 b1 b2
          have hz3 := blk_lt VB3.out
          have hy3 := blk_lt VA3.out
          go_wp2_with fail
          go_quiet (fail)
          go_wp2_with fail
          refine ((d2.out _).mono ?_)
          rintro e W2 ⟨rfl, rfl⟩
          go_wp2_with fail
          refine ((d3.out _).mono ?_)
          rintro e W3 ⟨rfl, rfl⟩
          go_wp2_with fail
          refine ((d0.out _).mono ?_)
          rintro e W0 ⟨rfl, rfl⟩
          go_wp2_with fail
          refine ((d1.out _).mono ?_)
          rintro e W1 ⟨rfl, rfl⟩
          go_wp2_with fail
          refine ((d4.out _).mono ?_)
          rintro e W4 ⟨rfl, rfl⟩
          go_wp2_with fail
          refine ((d5.out _).mono ?_)
          rintro e W5 ⟨rfl, rfl⟩
          go_wp2_with fail
          refine ((d6.out _).mono ?_)
          rintro e W6 ⟨rfl, rfl⟩
          go_wp2_with fail
          refine ((d7.out _).mono ?_)
          rintro e W7 ⟨rfl, rfl⟩
          go_wp2_with fail
          refine ((d8.out _).mono ?_)
          rintro e W8 ⟨rfl, rfl⟩
          go_wp2_with fail
          refine ((d9.out _).mono ?_)
          rintro e W9 ⟨rfl, rfl⟩
          have VX := hidden (show IsVar (w3.alloc (.cells #[.int .i64 2, .int .i64 (nSub n n2), .string ⟨#[]⟩] 23)) w3.heap.size ⟨2, nSub n n2, ⟨#[]⟩⟩ from blk_new w3 _)
          have ix2 := ix.out
          go_wp2_with fail
          clear ix2
          go_region_law (go_simp; go_at_call 27; refine (d10.out _ _).mono ?_; rintro e w4 ⟨rfl, hK⟩; have VX4 := hidden (show IsVar w4 w3.heap.size ⟨2, nSub n n2, ⟨#[]⟩⟩ from hK.heap VX.out (fun h => h)); have HK4 := hidden (((HK3.out.alloc _).drewN _).trans hK (fun _ _ h => h)); obtain ⟨x0, x1, x2, -⟩ := VX4.out.cells; simp only at x0 x1 x2; clear hK)
          all_goals go_wp2_with fail
          all_goals go_ret
          all_goals exact hR.out _ _ ⟨(by first | rfl | simp [Act.put]), HK4.out.toNew (fun _ h => h.elim)⟩
        · have hr : V.rek 1 ⟨2, n, t⟩ ⟨2, n2, t2⟩ = (⟨2, nMul n n2, ⟨#[]⟩⟩, 0) := by simp [V.rek, rk]
          have ix := hidden (fun W => run_index_cell W (t := 50) (n := 10) (e := 2) (k := .i64) (i := 1) (cs := #[.int .i64 (nSub n n2), .int .i64 (nMul n n2), .int .i64 (nDiv n n2), .int .i64 (nMod n n2), .int .i64 (nAnd n n2), .int .i64 (nOr n n2), .int .i64 (nXor n n2), .int .i64 (nLeft n n2), .int .i64 (nRight n n2), .int .i64 (nLogical n n2)]) (by kernel_rfl) (by decide) (by decide) (by kernel_rfl) (by kernel_rfl) (by kernel_rfl) rfl)
          have c1 := hidden (fun W => value_Reckon 1 ⟨2, n, t⟩ ⟨2, n2, t2⟩ W)
          rw [hr] at c1
          clear hr
          unfold V.val at c1
          obtain ⟨va, vb, hK0⟩ := box2 w 2 n 2 n2 t t2
          have VA := hidden va
          have VB := hidden vb
          have HK0 := hidden hK0
          clear va vb hK0
          unfold V.val at *
          go_enter Try.func7, Try.ntmps7
          go_wp2_with fail
          refine (kt.out _).mono ?_
          rintro e w1 ⟨rfl, hK⟩
          have HK1 := hidden ((HK0.out).trans hK (fun _ _ h => h))
          have VA1 := hidden (show IsVar w1 w.heap.size ⟨2, n, t⟩ from hK.heap VA.out (fun h => h))
          have VB1 := hidden (show IsVar w1 (w.heap.size + 1) ⟨2, n2, t2⟩ from hK.heap VB.out (fun h => h))
          obtain ⟨a0, a1, a2, -⟩ := VA1.out.cells
          obtain ⟨b0, b1, b2, -⟩ := VB1.out.cells
          simp only at a0 a1 a2 b0 b1 b2
          clear hK
          go_wp2_with fail
          refine (kr.out _ _ (Vals.lit w1 [⟨2, n, t⟩, ⟨2, n2, t2⟩] _ rfl)).mono ?_
          rintro e w2 ⟨rfl, hK⟩
          have HK2 := hidden ((HK1.out.alloc _).trans hK (fun _ _ h => h))
          have VA2 := hidden (show IsVar w2 w.heap.size ⟨2, n, t⟩ from hK.heap (blk_alloc VA1.out _) (fun h => h))
          have VB2 := hidden (show IsVar w2 (w.heap.size + 1) ⟨2, n2, t2⟩ from hK.heap (blk_alloc VB1.out _) (fun h => h))
          clear hK a0 a1 a2 b0 b1 b2 VA1 VB1 HK1
          obtain ⟨a0, a1, a2, -⟩ := VA2.out.cells
          obtain ⟨b0, b1, b2, -⟩ := VB2.out.cells
          simp only at a0 a1 a2 b0 b1 b2
          have hz2 := blk_lt VB2.out
          go_wp2_with fail
          refine (c1.out _).mono ?_
          rintro e w3 ⟨rfl, hK⟩
          have VA3 := hidden (show IsVar w3 w.heap.size ⟨2, n, t⟩ from hK.heap VA2.out (fun h => h))
          have VB3 := hidden (show IsVar w3 (w.heap.size + 1) ⟨2, n2, t2⟩ from hK.heap VB2.out (fun h => h))
          have HK3 := hidden (HK2.out.trans hK (fun _ _ h => h))
          clear hK a0 a1 a2 b0 b1 b2 hz2
          obtain ⟨a0, a1, a2, -⟩ := VA3.out.cells
          obtain ⟨b0, b1, b2, -⟩ := VB3.out.cells
          simp only at a0 a1 a2 b0 b1 b2
          have hz3 := blk_lt VB3.out
          have hy3 := blk_lt VA3.out
          go_wp2_with fail
          go_quiet (fail)
          go_wp2_with fail
          refine ((d2.out _).mono ?_)
          rintro e W2 ⟨rfl, rfl⟩
          go_wp2_with fail
          refine ((d3.out _).mono ?_)
          rintro e W3 ⟨rfl, rfl⟩
          go_wp2_with fail
          refine ((d0.out _).mono ?_)
          rintro e W0 ⟨rfl, rfl⟩
          go_wp2_with fail
          refine ((d1.out _).mono ?_)
          rintro e W1 ⟨rfl, rfl⟩
          go_wp2_with fail
          refine ((d4.out _).mono ?_)
          rintro e W4 ⟨rfl, rfl⟩
          go_wp2_with fail
          refine ((d5.out _).mono ?_)
          rintro e W5 ⟨rfl, rfl⟩
          go_wp2_with fail
          refine ((d6.out _).mono ?_)
          rintro e W6 ⟨rfl, rfl⟩
          go_wp2_with fail
          refine ((d7.out _).mono ?_)
          rintro e W7 ⟨rfl, rfl⟩
          go_wp2_with fail
          refine ((d8.out _).mono ?_)
          rintro e W8 ⟨rfl, rfl⟩
          go_wp2_with fail
          refine ((d9.out _).mono ?_)
          rintro e W9 ⟨rfl, rfl⟩
          have VX := hidden (show IsVar (w3.alloc (.cells #[.int .i64 2, .int .i64 (nMul n n2), .string ⟨#[]⟩] 23)) w3.heap.size ⟨2, nMul n n2, ⟨#[]⟩⟩ from blk_new w3 _)
          have ix2 := ix.out
          go_wp2_with fail
          clear ix2
          go_region_law (go_simp; go_at_call 27; refine (d10.out _ _).mono ?_; rintro e w4 ⟨rfl, hK⟩; have VX4 := hidden (show IsVar w4 w3.heap.size ⟨2, nMul n n2, ⟨#[]⟩⟩ from hK.heap VX.out (fun h => h)); have HK4 := hidden (((HK3.out.alloc _).drewN _).trans hK (fun _ _ h => h)); obtain ⟨x0, x1, x2, -⟩ := VX4.out.cells; simp only at x0 x1 x2; clear hK)
          all_goals go_wp2_with fail
          all_goals go_ret
          all_goals exact hR.out _ _ ⟨(by first | rfl | simp [Act.put]), HK4.out.toNew (fun _ h => h.elim)⟩
        · by_cases h0 : n2 = 0
          · have he : nErr n2 = 10 := by rw [nErr, if_pos h0]
            have hr : V.rek 2 ⟨2, n, t⟩ ⟨2, n2, t2⟩ = (V.null, 10) := by simp [V.rek, rk, he]
            rw [he] at d2 d3
            clear h0 he
            have c1 := hidden (fun W => value_Reckon 2 ⟨2, n, t⟩ ⟨2, n2, t2⟩ W)
            rw [hr] at c1
            clear hr
            unfold V.val at c1
            simp only [V.null] at c1
            obtain ⟨va, vb, hK0⟩ := box2 w 2 n 2 n2 t t2
            have VA := hidden va
            have VB := hidden vb
            have HK0 := hidden hK0
            clear va vb hK0
            unfold V.val at *
            go_enter Try.func7, Try.ntmps7
            go_wp2_with fail
            refine (kt.out _).mono ?_
            rintro e w1 ⟨rfl, hK⟩
            have HK1 := hidden ((HK0.out).trans hK (fun _ _ h => h))
            have VA1 := hidden (show IsVar w1 w.heap.size ⟨2, n, t⟩ from hK.heap VA.out (fun h => h))
            have VB1 := hidden (show IsVar w1 (w.heap.size + 1) ⟨2, n2, t2⟩ from hK.heap VB.out (fun h => h))
            obtain ⟨a0, a1, a2, -⟩ := VA1.out.cells
            obtain ⟨b0, b1, b2, -⟩ := VB1.out.cells
            simp only at a0 a1 a2 b0 b1 b2
            clear hK
            go_wp2_with fail
            refine (kr.out _ _ (Vals.lit w1 [⟨2, n, t⟩, ⟨2, n2, t2⟩] _ rfl)).mono ?_
            rintro e w2 ⟨rfl, hK⟩
            have HK2 := hidden ((HK1.out.alloc _).trans hK (fun _ _ h => h))
            have VA2 := hidden (show IsVar w2 w.heap.size ⟨2, n, t⟩ from hK.heap (blk_alloc VA1.out _) (fun h => h))
            have VB2 := hidden (show IsVar w2 (w.heap.size + 1) ⟨2, n2, t2⟩ from hK.heap (blk_alloc VB1.out _) (fun h => h))
            clear hK a0 a1 a2 b0 b1 b2 VA1 VB1 HK1
            obtain ⟨a0, a1, a2, -⟩ := VA2.out.cells
            obtain ⟨b0, b1, b2, -⟩ := VB2.out.cells
            simp only at a0 a1 a2 b0 b1 b2
            have hz2 := blk_lt VB2.out
            go_wp2_with fail
            refine (c1.out _).mono ?_
            rintro e w3 ⟨rfl, hK⟩
            have VA3 := hidden (show IsVar w3 w.heap.size ⟨2, n, t⟩ from hK.heap VA2.out (fun h => h))
            have VB3 := hidden (show IsVar w3 (w.heap.size + 1) ⟨2, n2, t2⟩ from hK.heap VB2.out (fun h => h))
            have HK3 := hidden (HK2.out.trans hK (fun _ _ h => h))
            clear hK a0 a1 a2 b0 b1 b2 hz2
            obtain ⟨a0, a1, a2, -⟩ := VA3.out.cells
            obtain ⟨b0, b1, b2, -⟩ := VB3.out.cells
            simp only at a0 a1 a2 b0 b1 b2
            have hz3 := blk_lt VB3.out
            have hy3 := blk_lt VA3.out
            go_wp2_with fail
            go_quiet (fail)
            go_wp2_with fail
            refine ((d2.out _).mono ?_)
            rintro e W2 ⟨rfl, rfl⟩
            go_wp2_with fail
            refine ((d3.out _).mono ?_)
            rintro e W3 ⟨rfl, rfl⟩
            go_wp2_with fail
            exact hR.out _ _ ⟨rfl, ((HK3.out.alloc _).drewN _).toNew (fun _ h => h.elim)⟩
          have he : nErr n2 = 0 := by rw [nErr, if_neg h0]
          rw [he] at d2 d3
          clear h0
          have hr : V.rek 2 ⟨2, n, t⟩ ⟨2, n2, t2⟩ = (⟨2, nDiv n n2, ⟨#[]⟩⟩, 0) := by simp [V.rek, rk, he]
          clear he
          have ix := hidden (fun W => run_index_cell W (t := 50) (n := 10) (e := 2) (k := .i64) (i := 2) (cs := #[.int .i64 (nSub n n2), .int .i64 (nMul n n2), .int .i64 (nDiv n n2), .int .i64 (nMod n n2), .int .i64 (nAnd n n2), .int .i64 (nOr n n2), .int .i64 (nXor n n2), .int .i64 (nLeft n n2), .int .i64 (nRight n n2), .int .i64 (nLogical n n2)]) (by kernel_rfl) (by decide) (by decide) (by kernel_rfl) (by kernel_rfl) (by kernel_rfl) rfl)
          have c1 := hidden (fun W => value_Reckon 2 ⟨2, n, t⟩ ⟨2, n2, t2⟩ W)
          rw [hr] at c1
          clear hr
          unfold V.val at c1
          obtain ⟨va, vb, hK0⟩ := box2 w 2 n 2 n2 t t2
          have VA := hidden va
          have VB := hidden vb
          have HK0 := hidden hK0
          clear va vb hK0
          unfold V.val at *
          go_enter Try.func7, Try.ntmps7
          go_wp2_with fail
          refine (kt.out _).mono ?_
          rintro e w1 ⟨rfl, hK⟩
          have HK1 := hidden ((HK0.out).trans hK (fun _ _ h => h))
          have VA1 := hidden (show IsVar w1 w.heap.size ⟨2, n, t⟩ from hK.heap VA.out (fun h => h))
          have VB1 := hidden (show IsVar w1 (w.heap.size + 1) ⟨2, n2, t2⟩ from hK.heap VB.out (fun h => h))
          obtain ⟨a0, a1, a2, -⟩ := VA1.out.cells
          obtain ⟨b0, b1, b2, -⟩ := VB1.out.cells
          simp only at a0 a1 a2 b0 b1 b2
          clear hK
          go_wp2_with fail
          refine (kr.out _ _ (Vals.lit w1 [⟨2, n, t⟩, ⟨2, n2, t2⟩] _ rfl)).mono ?_
          rintro e w2 ⟨rfl, hK⟩
          have HK2 := hidden ((HK1.out.alloc _).trans hK (fun _ _ h => h))
          have VA2 := hidden (show IsVar w2 w.heap.size ⟨2, n, t⟩ from hK.heap (blk_alloc VA1.out _) (fun h => h))
          have VB2 := hidden (show IsVar w2 (w.heap.size + 1) ⟨2, n2, t2⟩ from hK.heap (blk_alloc VB1.out _) (fun h => h))
          clear hK a0 a1 a2 b0 b1 b2 VA1 VB1 HK1
          obtain ⟨a0, a1, a2, -⟩ := VA2.out.cells
          obtain ⟨b0, b1, b2, -⟩ := VB2.out.cells
          simp only at a0 a1 a2 b0 b1 b2
          have hz2 := blk_lt VB2.out
          go_wp2_with fail
          refine (c1.out _).mono ?_
          rintro e w3 ⟨rfl, hK⟩
          have VA3 := hidden (show IsVar w3 w.heap.size ⟨2, n, t⟩ from hK.heap VA2.out (fun h => h))
          have VB3 := hidden (show IsVar w3 (w.heap.size + 1) ⟨2, n2, t2⟩ from hK.heap VB2.out (fun h => h))
          have HK3 := hidden (HK2.out.trans hK (fun _ _ h => h))
          clear hK a0 a1 a2 b0 b1 b2 hz2
          obtain ⟨a0, a1, a2, -⟩ := VA3.out.cells
          obtain ⟨b0, b1, b2, -⟩ := VB3.out.cells
          simp only at a0 a1 a2 b0 b1 b2
          have hz3 := blk_lt VB3.out
          have hy3 := blk_lt VA3.out
          go_wp2_with fail
          go_quiet (fail)
          go_wp2_with fail
          refine ((d2.out _).mono ?_)
          rintro e W2 ⟨rfl, rfl⟩
          go_wp2_with fail
          refine ((d3.out _).mono ?_)
          rintro e W3 ⟨rfl, rfl⟩
          go_wp2_with fail
          refine ((d0.out _).mono ?_)
          rintro e W0 ⟨rfl, rfl⟩
          go_wp2_with fail
          refine ((d1.out _).mono ?_)
          rintro e W1 ⟨rfl, rfl⟩
          go_wp2_with fail
          refine ((d4.out _).mono ?_)
          rintro e W4 ⟨rfl, rfl⟩
          go_wp2_with fail
          refine ((d5.out _).mono ?_)
          rintro e W5 ⟨rfl, rfl⟩
          go_wp2_with fail
          refine ((d6.out _).mono ?_)
          rintro e W6 ⟨rfl, rfl⟩
          go_wp2_with fail
          refine ((d7.out _).mono ?_)
          rintro e W7 ⟨rfl, rfl⟩
          go_wp2_with fail
          refine ((d8.out _).mono ?_)
          rintro e W8 ⟨rfl, rfl⟩
          go_wp2_with fail
          refine ((d9.out _).mono ?_)
          rintro e W9 ⟨rfl, rfl⟩
          have VX := hidden (show IsVar (w3.alloc (.cells #[.int .i64 2, .int .i64 (nDiv n n2), .string ⟨#[]⟩] 23)) w3.heap.size ⟨2, nDiv n n2, ⟨#[]⟩⟩ from blk_new w3 _)
          have ix2 := ix.out
          go_wp2_with fail
          clear ix2
          go_region_law (go_simp; go_at_call 27; refine (d10.out _ _).mono ?_; rintro e w4 ⟨rfl, hK⟩; have VX4 := hidden (show IsVar w4 w3.heap.size ⟨2, nDiv n n2, ⟨#[]⟩⟩ from hK.heap VX.out (fun h => h)); have HK4 := hidden (((HK3.out.alloc _).drewN _).trans hK (fun _ _ h => h)); obtain ⟨x0, x1, x2, -⟩ := VX4.out.cells; simp only at x0 x1 x2; clear hK)
          all_goals go_wp2_with fail
          all_goals go_ret
          all_goals exact hR.out _ _ ⟨(by first | rfl | simp [Act.put]), HK4.out.toNew (fun _ h => h.elim)⟩
        · by_cases h0 : n2 = 0
          · have he : nErr n2 = 10 := by rw [nErr, if_pos h0]
            have hr : V.rek 3 ⟨2, n, t⟩ ⟨2, n2, t2⟩ = (V.null, 10) := by simp [V.rek, rk, he]
            rw [he] at d2 d3
            clear h0 he
            have c1 := hidden (fun W => value_Reckon 3 ⟨2, n, t⟩ ⟨2, n2, t2⟩ W)
            rw [hr] at c1
            clear hr
            unfold V.val at c1
            simp only [V.null] at c1
            obtain ⟨va, vb, hK0⟩ := box2 w 2 n 2 n2 t t2
            have VA := hidden va
            have VB := hidden vb
            have HK0 := hidden hK0
            clear va vb hK0
            unfold V.val at *
            go_enter Try.func7, Try.ntmps7
            go_wp2_with fail
            refine (kt.out _).mono ?_
            rintro e w1 ⟨rfl, hK⟩
            have HK1 := hidden ((HK0.out).trans hK (fun _ _ h => h))
            have VA1 := hidden (show IsVar w1 w.heap.size ⟨2, n, t⟩ from hK.heap VA.out (fun h => h))
            have VB1 := hidden (show IsVar w1 (w.heap.size + 1) ⟨2, n2, t2⟩ from hK.heap VB.out (fun h => h))
            obtain ⟨a0, a1, a2, -⟩ := VA1.out.cells
            obtain ⟨b0, b1, b2, -⟩ := VB1.out.cells
            simp only at a0 a1 a2 b0 b1 b2
            clear hK
            go_wp2_with fail
            refine (kr.out _ _ (Vals.lit w1 [⟨2, n, t⟩, ⟨2, n2, t2⟩] _ rfl)).mono ?_
            rintro e w2 ⟨rfl, hK⟩
            have HK2 := hidden ((HK1.out.alloc _).trans hK (fun _ _ h => h))
            have VA2 := hidden (show IsVar w2 w.heap.size ⟨2, n, t⟩ from hK.heap (blk_alloc VA1.out _) (fun h => h))
            have VB2 := hidden (show IsVar w2 (w.heap.size + 1) ⟨2, n2, t2⟩ from hK.heap (blk_alloc VB1.out _) (fun h => h))
            clear hK a0 a1 a2 b0 b1 b2 VA1 VB1 HK1
            obtain ⟨a0, a1, a2, -⟩ := VA2.out.cells
            obtain ⟨b0, b1, b2, -⟩ := VB2.out.cells
            simp only at a0 a1 a2 b0 b1 b2
            have hz2 := blk_lt VB2.out
            go_wp2_with fail
            refine (c1.out _).mono ?_
            rintro e w3 ⟨rfl, hK⟩
            have VA3 := hidden (show IsVar w3 w.heap.size ⟨2, n, t⟩ from hK.heap VA2.out (fun h => h))
            have VB3 := hidden (show IsVar w3 (w.heap.size + 1) ⟨2, n2, t2⟩ from hK.heap VB2.out (fun h => h))
            have HK3 := hidden (HK2.out.trans hK (fun _ _ h => h))
            clear hK a0 a1 a2 b0 b1 b2 hz2
            obtain ⟨a0, a1, a2, -⟩ := VA3.out.cells
            obtain ⟨b0, b1, b2, -⟩ := VB3.out.cells
            simp only at a0 a1 a2 b0 b1 b2
            have hz3 := blk_lt VB3.out
            have hy3 := blk_lt VA3.out
            go_wp2_with fail
            go_quiet (fail)
            go_wp2_with fail
            refine ((d2.out _).mono ?_)
            rintro e W2 ⟨rfl, rfl⟩
            go_wp2_with fail
            refine ((d3.out _).mono ?_)
            rintro e W3 ⟨rfl, rfl⟩
            go_wp2_with fail
            exact hR.out _ _ ⟨rfl, ((HK3.out.alloc _).drewN _).toNew (fun _ h => h.elim)⟩
          have he : nErr n2 = 0 := by rw [nErr, if_neg h0]
          rw [he] at d2 d3
          clear h0
          have hr : V.rek 3 ⟨2, n, t⟩ ⟨2, n2, t2⟩ = (⟨2, nMod n n2, ⟨#[]⟩⟩, 0) := by simp [V.rek, rk, he]
          clear he
          have ix := hidden (fun W => run_index_cell W (t := 50) (n := 10) (e := 2) (k := .i64) (i := 3) (cs := #[.int .i64 (nSub n n2), .int .i64 (nMul n n2), .int .i64 (nDiv n n2), .int .i64 (nMod n n2), .int .i64 (nAnd n n2), .int .i64 (nOr n n2), .int .i64 (nXor n n2), .int .i64 (nLeft n n2), .int .i64 (nRight n n2), .int .i64 (nLogical n n2)]) (by kernel_rfl) (by decide) (by decide) (by kernel_rfl) (by kernel_rfl) (by kernel_rfl) rfl)
          have c1 := hidden (fun W => value_Reckon 3 ⟨2, n, t⟩ ⟨2, n2, t2⟩ W)
          rw [hr] at c1
          clear hr
          unfold V.val at c1
          obtain ⟨va, vb, hK0⟩ := box2 w 2 n 2 n2 t t2
          have VA := hidden va
          have VB := hidden vb
          have HK0 := hidden hK0
          clear va vb hK0
          unfold V.val at *
          go_enter Try.func7, Try.ntmps7
          go_wp2_with fail
          refine (kt.out _).mono ?_
          rintro e w1 ⟨rfl, hK⟩
          have HK1 := hidden ((HK0.out).trans hK (fun _ _ h => h))
          have VA1 := hidden (show IsVar w1 w.heap.size ⟨2, n, t⟩ from hK.heap VA.out (fun h => h))
          have VB1 := hidden (show IsVar w1 (w.heap.size + 1) ⟨2, n2, t2⟩ from hK.heap VB.out (fun h => h))
          obtain ⟨a0, a1, a2, -⟩ := VA1.out.cells
          obtain ⟨b0, b1, b2, -⟩ := VB1.out.cells
          simp only at a0 a1 a2 b0 b1 b2
          clear hK
          go_wp2_with fail
          refine (kr.out _ _ (Vals.lit w1 [⟨2, n, t⟩, ⟨2, n2, t2⟩] _ rfl)).mono ?_
          rintro e w2 ⟨rfl, hK⟩
          have HK2 := hidden ((HK1.out.alloc _).trans hK (fun _ _ h => h))
          have VA2 := hidden (show IsVar w2 w.heap.size ⟨2, n, t⟩ from hK.heap (blk_alloc VA1.out _) (fun h => h))
          have VB2 := hidden (show IsVar w2 (w.heap.size + 1) ⟨2, n2, t2⟩ from hK.heap (blk_alloc VB1.out _) (fun h => h))
          clear hK a0 a1 a2 b0 b1 b2 VA1 VB1 HK1
          obtain ⟨a0, a1, a2, -⟩ := VA2.out.cells
          obtain ⟨b0, b1, b2, -⟩ := VB2.out.cells
          simp only at a0 a1 a2 b0 b1 b2
          have hz2 := blk_lt VB2.out
          go_wp2_with fail
          refine (c1.out _).mono ?_
          rintro e w3 ⟨rfl, hK⟩
          have VA3 := hidden (show IsVar w3 w.heap.size ⟨2, n, t⟩ from hK.heap VA2.out (fun h => h))
          have VB3 := hidden (show IsVar w3 (w.heap.size + 1) ⟨2, n2, t2⟩ from hK.heap VB2.out (fun h => h))
          have HK3 := hidden (HK2.out.trans hK (fun _ _ h => h))
          clear hK a0 a1 a2 b0 b1 b2 hz2
          obtain ⟨a0, a1, a2, -⟩ := VA3.out.cells
          obtain ⟨b0, b1, b2, -⟩ := VB3.out.cells
          simp only at a0 a1 a2 b0 b1 b2
          have hz3 := blk_lt VB3.out
          have hy3 := blk_lt VA3.out
          go_wp2_with fail
          go_quiet (fail)
          go_wp2_with fail
          refine ((d2.out _).mono ?_)
          rintro e W2 ⟨rfl, rfl⟩
          go_wp2_with fail
          refine ((d3.out _).mono ?_)
          rintro e W3 ⟨rfl, rfl⟩
          go_wp2_with fail
          refine ((d0.out _).mono ?_)
          rintro e W0 ⟨rfl, rfl⟩
          go_wp2_with fail
          refine ((d1.out _).mono ?_)
          rintro e W1 ⟨rfl, rfl⟩
          go_wp2_with fail
          refine ((d4.out _).mono ?_)
          rintro e W4 ⟨rfl, rfl⟩
          go_wp2_with fail
          refine ((d5.out _).mono ?_)
          rintro e W5 ⟨rfl, rfl⟩
          go_wp2_with fail
          refine ((d6.out _).mono ?_)
          rintro e W6 ⟨rfl, rfl⟩
          go_wp2_with fail
          refine ((d7.out _).mono ?_)
          rintro e W7 ⟨rfl, rfl⟩
          go_wp2_with fail
          refine ((d8.out _).mono ?_)
          rintro e W8 ⟨rfl, rfl⟩
          go_wp2_with fail
          refine ((d9.out _).mono ?_)
          rintro e W9 ⟨rfl, rfl⟩
          have VX := hidden (show IsVar (w3.alloc (.cells #[.int .i64 2, .int .i64 (nMod n n2), .string ⟨#[]⟩] 23)) w3.heap.size ⟨2, nMod n n2, ⟨#[]⟩⟩ from blk_new w3 _)
          have ix2 := ix.out
          go_wp2_with fail
          clear ix2
          go_region_law (go_simp; go_at_call 27; refine (d10.out _ _).mono ?_; rintro e w4 ⟨rfl, hK⟩; have VX4 := hidden (show IsVar w4 w3.heap.size ⟨2, nMod n n2, ⟨#[]⟩⟩ from hK.heap VX.out (fun h => h)); have HK4 := hidden (((HK3.out.alloc _).drewN _).trans hK (fun _ _ h => h)); obtain ⟨x0, x1, x2, -⟩ := VX4.out.cells; simp only at x0 x1 x2; clear hK)
          all_goals go_wp2_with fail
          all_goals go_ret
          all_goals exact hR.out _ _ ⟨(by first | rfl | simp [Act.put]), HK4.out.toNew (fun _ h => h.elim)⟩
        · have hr : V.rek 4 ⟨2, n, t⟩ ⟨2, n2, t2⟩ = (⟨2, nAnd n n2, ⟨#[]⟩⟩, 0) := by simp [V.rek, rk]
          have ix := hidden (fun W => run_index_cell W (t := 50) (n := 10) (e := 2) (k := .i64) (i := 4) (cs := #[.int .i64 (nSub n n2), .int .i64 (nMul n n2), .int .i64 (nDiv n n2), .int .i64 (nMod n n2), .int .i64 (nAnd n n2), .int .i64 (nOr n n2), .int .i64 (nXor n n2), .int .i64 (nLeft n n2), .int .i64 (nRight n n2), .int .i64 (nLogical n n2)]) (by kernel_rfl) (by decide) (by decide) (by kernel_rfl) (by kernel_rfl) (by kernel_rfl) rfl)
          have c1 := hidden (fun W => value_Reckon 4 ⟨2, n, t⟩ ⟨2, n2, t2⟩ W)
          rw [hr] at c1
          clear hr
          unfold V.val at c1
          obtain ⟨va, vb, hK0⟩ := box2 w 2 n 2 n2 t t2
          have VA := hidden va
          have VB := hidden vb
          have HK0 := hidden hK0
          clear va vb hK0
          unfold V.val at *
          go_enter Try.func7, Try.ntmps7
          go_wp2_with fail
          refine (kt.out _).mono ?_
          rintro e w1 ⟨rfl, hK⟩
          have HK1 := hidden ((HK0.out).trans hK (fun _ _ h => h))
          have VA1 := hidden (show IsVar w1 w.heap.size ⟨2, n, t⟩ from hK.heap VA.out (fun h => h))
          have VB1 := hidden (show IsVar w1 (w.heap.size + 1) ⟨2, n2, t2⟩ from hK.heap VB.out (fun h => h))
          obtain ⟨a0, a1, a2, -⟩ := VA1.out.cells
          obtain ⟨b0, b1, b2, -⟩ := VB1.out.cells
          simp only at a0 a1 a2 b0 b1 b2
          clear hK
          go_wp2_with fail
          refine (kr.out _ _ (Vals.lit w1 [⟨2, n, t⟩, ⟨2, n2, t2⟩] _ rfl)).mono ?_
          rintro e w2 ⟨rfl, hK⟩
          have HK2 := hidden ((HK1.out.alloc _).trans hK (fun _ _ h => h))
          have VA2 := hidden (show IsVar w2 w.heap.size ⟨2, n, t⟩ from hK.heap (blk_alloc VA1.out _) (fun h => h))
          have VB2 := hidden (show IsVar w2 (w.heap.size + 1) ⟨2, n2, t2⟩ from hK.heap (blk_alloc VB1.out _) (fun h => h))
          clear hK a0 a1 a2 b0 b1 b2 VA1 VB1 HK1
          obtain ⟨a0, a1, a2, -⟩ := VA2.out.cells
          obtain ⟨b0, b1, b2, -⟩ := VB2.out.cells
          simp only at a0 a1 a2 b0 b1 b2
          have hz2 := blk_lt VB2.out
          go_wp2_with fail
          refine (c1.out _).mono ?_
          rintro e w3 ⟨rfl, hK⟩
          have VA3 := hidden (show IsVar w3 w.heap.size ⟨2, n, t⟩ from hK.heap VA2.out (fun h => h))
          have VB3 := hidden (show IsVar w3 (w.heap.size + 1) ⟨2, n2, t2⟩ from hK.heap VB2.out (fun h => h))
          have HK3 := hidden (HK2.out.trans hK (fun _ _ h => h))
          clear hK a0 a1 a2 b0 b1 b2 hz2
          obtain ⟨a0, a1, a2, -⟩ := VA3.out.cells
          obtain ⟨b0, b1, b2, -⟩ := VB3.out.cells
          simp only at a0 a1 a2 b0 b1 b2
          have hz3 := blk_lt VB3.out
          have hy3 := blk_lt VA3.out
          go_wp2_with fail
          go_quiet (fail)
          go_wp2_with fail
          refine ((d2.out _).mono ?_)
          rintro e W2 ⟨rfl, rfl⟩
          go_wp2_with fail
          refine ((d3.out _).mono ?_)
          rintro e W3 ⟨rfl, rfl⟩
          go_wp2_with fail
          refine ((d0.out _).mono ?_)
          rintro e W0 ⟨rfl, rfl⟩
          go_wp2_with fail
          refine ((d1.out _).mono ?_)
          rintro e W1 ⟨rfl, rfl⟩
          go_wp2_with fail
          refine ((d4.out _).mono ?_)
          rintro e W4 ⟨rfl, rfl⟩
          go_wp2_with fail
          refine ((d5.out _).mono ?_)
          rintro e W5 ⟨rfl, rfl⟩
          go_wp2_with fail
          refine ((d6.out _).mono ?_)
          rintro e W6 ⟨rfl, rfl⟩
          go_wp2_with fail
          refine ((d7.out _).mono ?_)
          rintro e W7 ⟨rfl, rfl⟩
          go_wp2_with fail
          refine ((d8.out _).mono ?_)
          rintro e W8 ⟨rfl, rfl⟩
          go_wp2_with fail
          refine ((d9.out _).mono ?_)
          rintro e W9 ⟨rfl, rfl⟩
          have VX := hidden (show IsVar (w3.alloc (.cells #[.int .i64 2, .int .i64 (nAnd n n2), .string ⟨#[]⟩] 23)) w3.heap.size ⟨2, nAnd n n2, ⟨#[]⟩⟩ from blk_new w3 _)
          have ix2 := ix.out
          go_wp2_with fail
          clear ix2
          go_region_law (go_simp; go_at_call 27; refine (d10.out _ _).mono ?_; rintro e w4 ⟨rfl, hK⟩; have VX4 := hidden (show IsVar w4 w3.heap.size ⟨2, nAnd n n2, ⟨#[]⟩⟩ from hK.heap VX.out (fun h => h)); have HK4 := hidden (((HK3.out.alloc _).drewN _).trans hK (fun _ _ h => h)); obtain ⟨x0, x1, x2, -⟩ := VX4.out.cells; simp only at x0 x1 x2; clear hK)
          all_goals go_wp2_with fail
          all_goals go_ret
          all_goals exact hR.out _ _ ⟨(by first | rfl | simp [Act.put]), HK4.out.toNew (fun _ h => h.elim)⟩
        · have hr : V.rek 5 ⟨2, n, t⟩ ⟨2, n2, t2⟩ = (⟨2, nOr n n2, ⟨#[]⟩⟩, 0) := by simp [V.rek, rk]
          have ix := hidden (fun W => run_index_cell W (t := 50) (n := 10) (e := 2) (k := .i64) (i := 5) (cs := #[.int .i64 (nSub n n2), .int .i64 (nMul n n2), .int .i64 (nDiv n n2), .int .i64 (nMod n n2), .int .i64 (nAnd n n2), .int .i64 (nOr n n2), .int .i64 (nXor n n2), .int .i64 (nLeft n n2), .int .i64 (nRight n n2), .int .i64 (nLogical n n2)]) (by kernel_rfl) (by decide) (by decide) (by kernel_rfl) (by kernel_rfl) (by kernel_rfl) rfl)
          have c1 := hidden (fun W => value_Reckon 5 ⟨2, n, t⟩ ⟨2, n2, t2⟩ W)
          rw [hr] at c1
          clear hr
          unfold V.val at c1
          obtain ⟨va, vb, hK0⟩ := box2 w 2 n 2 n2 t t2
          have VA := hidden va
          have VB := hidden vb
          have HK0 := hidden hK0
          clear va vb hK0
          unfold V.val at *
          go_enter Try.func7, Try.ntmps7
          go_wp2_with fail
          refine (kt.out _).mono ?_
          rintro e w1 ⟨rfl, hK⟩
          have HK1 := hidden ((HK0.out).trans hK (fun _ _ h => h))
          have VA1 := hidden (show IsVar w1 w.heap.size ⟨2, n, t⟩ from hK.heap VA.out (fun h => h))
          have VB1 := hidden (show IsVar w1 (w.heap.size + 1) ⟨2, n2, t2⟩ from hK.heap VB.out (fun h => h))
          obtain ⟨a0, a1, a2, -⟩ := VA1.out.cells
          obtain ⟨b0, b1, b2, -⟩ := VB1.out.cells
          simp only at a0 a1 a2 b0 b1 b2
          clear hK
          go_wp2_with fail
          refine (kr.out _ _ (Vals.lit w1 [⟨2, n, t⟩, ⟨2, n2, t2⟩] _ rfl)).mono ?_
          rintro e w2 ⟨rfl, hK⟩
          have HK2 := hidden ((HK1.out.alloc _).trans hK (fun _ _ h => h))
          have VA2 := hidden (show IsVar w2 w.heap.size ⟨2, n, t⟩ from hK.heap (blk_alloc VA1.out _) (fun h => h))
          have VB2 := hidden (show IsVar w2 (w.heap.size + 1) ⟨2, n2, t2⟩ from hK.heap (blk_alloc VB1.out _) (fun h => h))
          clear hK a0 a1 a2 b0 b1 b2 VA1 VB1 HK1
          obtain ⟨a0, a1, a2, -⟩ := VA2.out.cells
          obtain ⟨b0, b1, b2, -⟩ := VB2.out.cells
          simp only at a0 a1 a2 b0 b1 b2
          have hz2 := blk_lt VB2.out
          go_wp2_with fail
          refine (c1.out _).mono ?_
          rintro e w3 ⟨rfl, hK⟩
          have VA3 := hidden (show IsVar w3 w.heap.size ⟨2, n, t⟩ from hK.heap VA2.out (fun h => h))
          have VB3 := hidden (show IsVar w3 (w.heap.size + 1) ⟨2, n2, t2⟩ from hK.heap VB2.out (fun h => h))
          have HK3 := hidden (HK2.out.trans hK (fun _ _ h => h))
          clear hK a0 a1 a2 b0 b1 b2 hz2
          obtain ⟨a0, a1, a2, -⟩ := VA3.out.cells
          obtain ⟨b0, b1, b2, -⟩ := VB3.out.cells
          simp only at a0 a1 a2 b0 b1 b2
          have hz3 := blk_lt VB3.out
          have hy3 := blk_lt VA3.out
          go_wp2_with fail
          go_quiet (fail)
          go_wp2_with fail
          refine ((d2.out _).mono ?_)
          rintro e W2 ⟨rfl, rfl⟩
          go_wp2_with fail
          refine ((d3.out _).mono ?_)
          rintro e W3 ⟨rfl, rfl⟩
          go_wp2_with fail
          refine ((d0.out _).mono ?_)
          rintro e W0 ⟨rfl, rfl⟩
          go_wp2_with fail
          refine ((d1.out _).mono ?_)
          rintro e W1 ⟨rfl, rfl⟩
          go_wp2_with fail
          refine ((d4.out _).mono ?_)
          rintro e W4 ⟨rfl, rfl⟩
          go_wp2_with fail
          refine ((d5.out _).mono ?_)
          rintro e W5 ⟨rfl, rfl⟩
          go_wp2_with fail
          refine ((d6.out _).mono ?_)
          rintro e W6 ⟨rfl, rfl⟩
          go_wp2_with fail
          refine ((d7.out _).mono ?_)
          rintro e W7 ⟨rfl, rfl⟩
          go_wp2_with fail
          refine ((d8.out _).mono ?_)
          rintro e W8 ⟨rfl, rfl⟩
          go_wp2_with fail
          refine ((d9.out _).mono ?_)
          rintro e W9 ⟨rfl, rfl⟩
          have VX := hidden (show IsVar (w3.alloc (.cells #[.int .i64 2, .int .i64 (nOr n n2), .string ⟨#[]⟩] 23)) w3.heap.size ⟨2, nOr n n2, ⟨#[]⟩⟩ from blk_new w3 _)
          have ix2 := ix.out
          go_wp2_with fail
          clear ix2
          go_region_law (go_simp; go_at_call 27; refine (d10.out _ _).mono ?_; rintro e w4 ⟨rfl, hK⟩; have VX4 := hidden (show IsVar w4 w3.heap.size ⟨2, nOr n n2, ⟨#[]⟩⟩ from hK.heap VX.out (fun h => h)); have HK4 := hidden (((HK3.out.alloc _).drewN _).trans hK (fun _ _ h => h)); obtain ⟨x0, x1, x2, -⟩ := VX4.out.cells; simp only at x0 x1 x2; clear hK)
          all_goals go_wp2_with fail
          all_goals go_ret
          all_goals exact hR.out _ _ ⟨(by first | rfl | simp [Act.put]), HK4.out.toNew (fun _ h => h.elim)⟩
        · have hr : V.rek 6 ⟨2, n, t⟩ ⟨2, n2, t2⟩ = (⟨2, nXor n n2, ⟨#[]⟩⟩, 0) := by simp [V.rek, rk]
          have ix := hidden (fun W => run_index_cell W (t := 50) (n := 10) (e := 2) (k := .i64) (i := 6) (cs := #[.int .i64 (nSub n n2), .int .i64 (nMul n n2), .int .i64 (nDiv n n2), .int .i64 (nMod n n2), .int .i64 (nAnd n n2), .int .i64 (nOr n n2), .int .i64 (nXor n n2), .int .i64 (nLeft n n2), .int .i64 (nRight n n2), .int .i64 (nLogical n n2)]) (by kernel_rfl) (by decide) (by decide) (by kernel_rfl) (by kernel_rfl) (by kernel_rfl) rfl)
          have c1 := hidden (fun W => value_Reckon 6 ⟨2, n, t⟩ ⟨2, n2, t2⟩ W)
          rw [hr] at c1
          clear hr
          unfold V.val at c1
          obtain ⟨va, vb, hK0⟩ := box2 w 2 n 2 n2 t t2
          have VA := hidden va
          have VB := hidden vb
          have HK0 := hidden hK0
          clear va vb hK0
          unfold V.val at *
          go_enter Try.func7, Try.ntmps7
          go_wp2_with fail
          refine (kt.out _).mono ?_
          rintro e w1 ⟨rfl, hK⟩
          have HK1 := hidden ((HK0.out).trans hK (fun _ _ h => h))
          have VA1 := hidden (show IsVar w1 w.heap.size ⟨2, n, t⟩ from hK.heap VA.out (fun h => h))
          have VB1 := hidden (show IsVar w1 (w.heap.size + 1) ⟨2, n2, t2⟩ from hK.heap VB.out (fun h => h))
          obtain ⟨a0, a1, a2, -⟩ := VA1.out.cells
          obtain ⟨b0, b1, b2, -⟩ := VB1.out.cells
          simp only at a0 a1 a2 b0 b1 b2
          clear hK
          go_wp2_with fail
          refine (kr.out _ _ (Vals.lit w1 [⟨2, n, t⟩, ⟨2, n2, t2⟩] _ rfl)).mono ?_
          rintro e w2 ⟨rfl, hK⟩
          have HK2 := hidden ((HK1.out.alloc _).trans hK (fun _ _ h => h))
          have VA2 := hidden (show IsVar w2 w.heap.size ⟨2, n, t⟩ from hK.heap (blk_alloc VA1.out _) (fun h => h))
          have VB2 := hidden (show IsVar w2 (w.heap.size + 1) ⟨2, n2, t2⟩ from hK.heap (blk_alloc VB1.out _) (fun h => h))
          clear hK a0 a1 a2 b0 b1 b2 VA1 VB1 HK1
          obtain ⟨a0, a1, a2, -⟩ := VA2.out.cells
          obtain ⟨b0, b1, b2, -⟩ := VB2.out.cells
          simp only at a0 a1 a2 b0 b1 b2
          have hz2 := blk_lt VB2.out
          go_wp2_with fail
          refine (c1.out _).mono ?_
          rintro e w3 ⟨rfl, hK⟩
          have VA3 := hidden (show IsVar w3 w.heap.size ⟨2, n, t⟩ from hK.heap VA2.out (fun h => h))
          have VB3 := hidden (show IsVar w3 (w.heap.size + 1) ⟨2, n2, t2⟩ from hK.heap VB2.out (fun h => h))
          have HK3 := hidden (HK2.out.trans hK (fun _ _ h => h))
          clear hK a0 a1 a2 b0 b1 b2 hz2
          obtain ⟨a0, a1, a2, -⟩ := VA3.out.cells
          obtain ⟨b0, b1, b2, -⟩ := VB3.out.cells
          simp only at a0 a1 a2 b0 b1 b2
          have hz3 := blk_lt VB3.out
          have hy3 := blk_lt VA3.out
          go_wp2_with fail
          go_quiet (fail)
          go_wp2_with fail
          refine ((d2.out _).mono ?_)
          rintro e W2 ⟨rfl, rfl⟩
          go_wp2_with fail
          refine ((d3.out _).mono ?_)
          rintro e W3 ⟨rfl, rfl⟩
          go_wp2_with fail
          refine ((d0.out _).mono ?_)
          rintro e W0 ⟨rfl, rfl⟩
          go_wp2_with fail
          refine ((d1.out _).mono ?_)
          rintro e W1 ⟨rfl, rfl⟩
          go_wp2_with fail
          refine ((d4.out _).mono ?_)
          rintro e W4 ⟨rfl, rfl⟩
          go_wp2_with fail
          refine ((d5.out _).mono ?_)
          rintro e W5 ⟨rfl, rfl⟩
          go_wp2_with fail
          refine ((d6.out _).mono ?_)
          rintro e W6 ⟨rfl, rfl⟩
          go_wp2_with fail
          refine ((d7.out _).mono ?_)
          rintro e W7 ⟨rfl, rfl⟩
          go_wp2_with fail
          refine ((d8.out _).mono ?_)
          rintro e W8 ⟨rfl, rfl⟩
          go_wp2_with fail
          refine ((d9.out _).mono ?_)
          rintro e W9 ⟨rfl, rfl⟩
          have VX := hidden (show IsVar (w3.alloc (.cells #[.int .i64 2, .int .i64 (nXor n n2), .string ⟨#[]⟩] 23)) w3.heap.size ⟨2, nXor n n2, ⟨#[]⟩⟩ from blk_new w3 _)
          have ix2 := ix.out
          go_wp2_with fail
          clear ix2
          go_region_law (go_simp; go_at_call 27; refine (d10.out _ _).mono ?_; rintro e w4 ⟨rfl, hK⟩; have VX4 := hidden (show IsVar w4 w3.heap.size ⟨2, nXor n n2, ⟨#[]⟩⟩ from hK.heap VX.out (fun h => h)); have HK4 := hidden (((HK3.out.alloc _).drewN _).trans hK (fun _ _ h => h)); obtain ⟨x0, x1, x2, -⟩ := VX4.out.cells; simp only at x0 x1 x2; clear hK)
          all_goals go_wp2_with fail
          all_goals go_ret
          all_goals exact hR.out _ _ ⟨(by first | rfl | simp [Act.put]), HK4.out.toNew (fun _ h => h.elim)⟩
        · have hr : V.rek 7 ⟨2, n, t⟩ ⟨2, n2, t2⟩ = (⟨2, nLeft n n2, ⟨#[]⟩⟩, 0) := by simp [V.rek, rk]
          have ix := hidden (fun W => run_index_cell W (t := 50) (n := 10) (e := 2) (k := .i64) (i := 7) (cs := #[.int .i64 (nSub n n2), .int .i64 (nMul n n2), .int .i64 (nDiv n n2), .int .i64 (nMod n n2), .int .i64 (nAnd n n2), .int .i64 (nOr n n2), .int .i64 (nXor n n2), .int .i64 (nLeft n n2), .int .i64 (nRight n n2), .int .i64 (nLogical n n2)]) (by kernel_rfl) (by decide) (by decide) (by kernel_rfl) (by kernel_rfl) (by kernel_rfl) rfl)
          have c1 := hidden (fun W => value_Reckon 7 ⟨2, n, t⟩ ⟨2, n2, t2⟩ W)
          rw [hr] at c1
          clear hr
          unfold V.val at c1
          obtain ⟨va, vb, hK0⟩ := box2 w 2 n 2 n2 t t2
          have VA := hidden va
          have VB := hidden vb
          have HK0 := hidden hK0
          clear va vb hK0
          unfold V.val at *
          go_enter Try.func7, Try.ntmps7
          go_wp2_with fail
          refine (kt.out _).mono ?_
          rintro e w1 ⟨rfl, hK⟩
          have HK1 := hidden ((HK0.out).trans hK (fun _ _ h => h))
          have VA1 := hidden (show IsVar w1 w.heap.size ⟨2, n, t⟩ from hK.heap VA.out (fun h => h))
          have VB1 := hidden (show IsVar w1 (w.heap.size + 1) ⟨2, n2, t2⟩ from hK.heap VB.out (fun h => h))
          obtain ⟨a0, a1, a2, -⟩ := VA1.out.cells
          obtain ⟨b0, b1, b2, -⟩ := VB1.out.cells
          simp only at a0 a1 a2 b0 b1 b2
          clear hK
          go_wp2_with fail
          refine (kr.out _ _ (Vals.lit w1 [⟨2, n, t⟩, ⟨2, n2, t2⟩] _ rfl)).mono ?_
          rintro e w2 ⟨rfl, hK⟩
          have HK2 := hidden ((HK1.out.alloc _).trans hK (fun _ _ h => h))
          have VA2 := hidden (show IsVar w2 w.heap.size ⟨2, n, t⟩ from hK.heap (blk_alloc VA1.out _) (fun h => h))
          have VB2 := hidden (show IsVar w2 (w.heap.size + 1) ⟨2, n2, t2⟩ from hK.heap (blk_alloc VB1.out _) (fun h => h))
          clear hK a0 a1 a2 b0 b1 b2 VA1 VB1 HK1
          obtain ⟨a0, a1, a2, -⟩ := VA2.out.cells
          obtain ⟨b0, b1, b2, -⟩ := VB2.out.cells
          simp only at a0 a1 a2 b0 b1 b2
          have hz2 := blk_lt VB2.out
          go_wp2_with fail
          refine (c1.out _).mono ?_
          rintro e w3 ⟨rfl, hK⟩
          have VA3 := hidden (show IsVar w3 w.heap.size ⟨2, n, t⟩ from hK.heap VA2.out (fun h => h))
          have VB3 := hidden (show IsVar w3 (w.heap.size + 1) ⟨2, n2, t2⟩ from hK.heap VB2.out (fun h => h))
          have HK3 := hidden (HK2.out.trans hK (fun _ _ h => h))
          clear hK a0 a1 a2 b0 b1 b2 hz2
          obtain ⟨a0, a1, a2, -⟩ := VA3.out.cells
          obtain ⟨b0, b1, b2, -⟩ := VB3.out.cells
          simp only at a0 a1 a2 b0 b1 b2
          have hz3 := blk_lt VB3.out
          have hy3 := blk_lt VA3.out
          go_wp2_with fail
          go_quiet (fail)
          go_wp2_with fail
          refine ((d2.out _).mono ?_)
          rintro e W2 ⟨rfl, rfl⟩
          go_wp2_with fail
          refine ((d3.out _).mono ?_)
          rintro e W3 ⟨rfl, rfl⟩
          go_wp2_with fail
          refine ((d0.out _).mono ?_)
          rintro e W0 ⟨rfl, rfl⟩
          go_wp2_with fail
          refine ((d1.out _).mono ?_)
          rintro e W1 ⟨rfl, rfl⟩
          go_wp2_with fail
          refine ((d4.out _).mono ?_)
          rintro e W4 ⟨rfl, rfl⟩
          go_wp2_with fail
          refine ((d5.out _).mono ?_)
          rintro e W5 ⟨rfl, rfl⟩
          go_wp2_with fail
          refine ((d6.out _).mono ?_)
          rintro e W6 ⟨rfl, rfl⟩
          go_wp2_with fail
          refine ((d7.out _).mono ?_)
          rintro e W7 ⟨rfl, rfl⟩
          go_wp2_with fail
          refine ((d8.out _).mono ?_)
          rintro e W8 ⟨rfl, rfl⟩
          go_wp2_with fail
          refine ((d9.out _).mono ?_)
          rintro e W9 ⟨rfl, rfl⟩
          have VX := hidden (show IsVar (w3.alloc (.cells #[.int .i64 2, .int .i64 (nLeft n n2), .string ⟨#[]⟩] 23)) w3.heap.size ⟨2, nLeft n n2, ⟨#[]⟩⟩ from blk_new w3 _)
          have ix2 := ix.out
          go_wp2_with fail
          clear ix2
          go_region_law (go_simp; go_at_call 27; refine (d10.out _ _).mono ?_; rintro e w4 ⟨rfl, hK⟩; have VX4 := hidden (show IsVar w4 w3.heap.size ⟨2, nLeft n n2, ⟨#[]⟩⟩ from hK.heap VX.out (fun h => h)); have HK4 := hidden (((HK3.out.alloc _).drewN _).trans hK (fun _ _ h => h)); obtain ⟨x0, x1, x2, -⟩ := VX4.out.cells; simp only at x0 x1 x2; clear hK)
          all_goals go_wp2_with fail
          all_goals go_ret
          all_goals exact hR.out _ _ ⟨(by first | rfl | simp [Act.put]), HK4.out.toNew (fun _ h => h.elim)⟩
        · have hr : V.rek 8 ⟨2, n, t⟩ ⟨2, n2, t2⟩ = (⟨2, nRight n n2, ⟨#[]⟩⟩, 0) := by simp [V.rek, rk]
          have ix := hidden (fun W => run_index_cell W (t := 50) (n := 10) (e := 2) (k := .i64) (i := 8) (cs := #[.int .i64 (nSub n n2), .int .i64 (nMul n n2), .int .i64 (nDiv n n2), .int .i64 (nMod n n2), .int .i64 (nAnd n n2), .int .i64 (nOr n n2), .int .i64 (nXor n n2), .int .i64 (nLeft n n2), .int .i64 (nRight n n2), .int .i64 (nLogical n n2)]) (by kernel_rfl) (by decide) (by decide) (by kernel_rfl) (by kernel_rfl) (by kernel_rfl) rfl)
          have c1 := hidden (fun W => value_Reckon 8 ⟨2, n, t⟩ ⟨2, n2, t2⟩ W)
          rw [hr] at c1
          clear hr
          unfold V.val at c1
          obtain ⟨va, vb, hK0⟩ := box2 w 2 n 2 n2 t t2
          have VA := hidden va
          have VB := hidden vb
          have HK0 := hidden hK0
          clear va vb hK0
          unfold V.val at *
          go_enter Try.func7, Try.ntmps7
          go_wp2_with fail
          refine (kt.out _).mono ?_
          rintro e w1 ⟨rfl, hK⟩
          have HK1 := hidden ((HK0.out).trans hK (fun _ _ h => h))
          have VA1 := hidden (show IsVar w1 w.heap.size ⟨2, n, t⟩ from hK.heap VA.out (fun h => h))
          have VB1 := hidden (show IsVar w1 (w.heap.size + 1) ⟨2, n2, t2⟩ from hK.heap VB.out (fun h => h))
          obtain ⟨a0, a1, a2, -⟩ := VA1.out.cells
          obtain ⟨b0, b1, b2, -⟩ := VB1.out.cells
          simp only at a0 a1 a2 b0 b1 b2
          clear hK
          go_wp2_with fail
          refine (kr.out _ _ (Vals.lit w1 [⟨2, n, t⟩, ⟨2, n2, t2⟩] _ rfl)).mono ?_
          rintro e w2 ⟨rfl, hK⟩
          have HK2 := hidden ((HK1.out.alloc _).trans hK (fun _ _ h => h))
          have VA2 := hidden (show IsVar w2 w.heap.size ⟨2, n, t⟩ from hK.heap (blk_alloc VA1.out _) (fun h => h))
          have VB2 := hidden (show IsVar w2 (w.heap.size + 1) ⟨2, n2, t2⟩ from hK.heap (blk_alloc VB1.out _) (fun h => h))
          clear hK a0 a1 a2 b0 b1 b2 VA1 VB1 HK1
          obtain ⟨a0, a1, a2, -⟩ := VA2.out.cells
          obtain ⟨b0, b1, b2, -⟩ := VB2.out.cells
          simp only at a0 a1 a2 b0 b1 b2
          have hz2 := blk_lt VB2.out
          go_wp2_with fail
          refine (c1.out _).mono ?_
          rintro e w3 ⟨rfl, hK⟩
          have VA3 := hidden (show IsVar w3 w.heap.size ⟨2, n, t⟩ from hK.heap VA2.out (fun h => h))
          have VB3 := hidden (show IsVar w3 (w.heap.size + 1) ⟨2, n2, t2⟩ from hK.heap VB2.out (fun h => h))
          have HK3 := hidden (HK2.out.trans hK (fun _ _ h => h))
          clear hK a0 a1 a2 b0 b1 b2 hz2
          obtain ⟨a0, a1, a2, -⟩ := VA3.out.cells
          obtain ⟨b0, b1, b2, -⟩ := VB3.out.cells
          simp only at a0 a1 a2 b0 b1 b2
          have hz3 := blk_lt VB3.out
          have hy3 := blk_lt VA3.out
          go_wp2_with fail
          go_quiet (fail)
          go_wp2_with fail
          refine ((d2.out _).mono ?_)
          rintro e W2 ⟨rfl, rfl⟩
          go_wp2_with fail
          refine ((d3.out _).mono ?_)
          rintro e W3 ⟨rfl, rfl⟩
          go_wp2_with fail
          refine ((d0.out _).mono ?_)
          rintro e W0 ⟨rfl, rfl⟩
          go_wp2_with fail
          refine ((d1.out _).mono ?_)
          rintro e W1 ⟨rfl, rfl⟩
          go_wp2_with fail
          refine ((d4.out _).mono ?_)
          rintro e W4 ⟨rfl, rfl⟩
          go_wp2_with fail
          refine ((d5.out _).mono ?_)
          rintro e W5 ⟨rfl, rfl⟩
          go_wp2_with fail
          refine ((d6.out _).mono ?_)
          rintro e W6 ⟨rfl, rfl⟩
          go_wp2_with fail
          refine ((d7.out _).mono ?_)
          rintro e W7 ⟨rfl, rfl⟩
          go_wp2_with fail
          refine ((d8.out _).mono ?_)
          rintro e W8 ⟨rfl, rfl⟩
          go_wp2_with fail
          refine ((d9.out _).mono ?_)
          rintro e W9 ⟨rfl, rfl⟩
          have VX := hidden (show IsVar (w3.alloc (.cells #[.int .i64 2, .int .i64 (nRight n n2), .string ⟨#[]⟩] 23)) w3.heap.size ⟨2, nRight n n2, ⟨#[]⟩⟩ from blk_new w3 _)
          have ix2 := ix.out
          go_wp2_with fail
          clear ix2
          go_region_law (go_simp; go_at_call 27; refine (d10.out _ _).mono ?_; rintro e w4 ⟨rfl, hK⟩; have VX4 := hidden (show IsVar w4 w3.heap.size ⟨2, nRight n n2, ⟨#[]⟩⟩ from hK.heap VX.out (fun h => h)); have HK4 := hidden (((HK3.out.alloc _).drewN _).trans hK (fun _ _ h => h)); obtain ⟨x0, x1, x2, -⟩ := VX4.out.cells; simp only at x0 x1 x2; clear hK)
          all_goals go_wp2_with fail
          all_goals go_ret
          all_goals exact hR.out _ _ ⟨(by first | rfl | simp [Act.put]), HK4.out.toNew (fun _ h => h.elim)⟩
        · have hr : V.rek 9 ⟨2, n, t⟩ ⟨2, n2, t2⟩ = (⟨2, nLogical n n2, ⟨#[]⟩⟩, 0) := by simp [V.rek, rk]
          have ix := hidden (fun W => run_index_cell W (t := 50) (n := 10) (e := 2) (k := .i64) (i := 9) (cs := #[.int .i64 (nSub n n2), .int .i64 (nMul n n2), .int .i64 (nDiv n n2), .int .i64 (nMod n n2), .int .i64 (nAnd n n2), .int .i64 (nOr n n2), .int .i64 (nXor n n2), .int .i64 (nLeft n n2), .int .i64 (nRight n n2), .int .i64 (nLogical n n2)]) (by kernel_rfl) (by decide) (by decide) (by kernel_rfl) (by kernel_rfl) (by kernel_rfl) rfl)
          have c1 := hidden (fun W => value_Reckon 9 ⟨2, n, t⟩ ⟨2, n2, t2⟩ W)
          rw [hr] at c1
          clear hr
          unfold V.val at c1
          obtain ⟨va, vb, hK0⟩ := box2 w 2 n 2 n2 t t2
          have VA := hidden va
          have VB := hidden vb
          have HK0 := hidden hK0
          clear va vb hK0
          unfold V.val at *
          go_enter Try.func7, Try.ntmps7
          go_wp2_with fail
          refine (kt.out _).mono ?_
          rintro e w1 ⟨rfl, hK⟩
          have HK1 := hidden ((HK0.out).trans hK (fun _ _ h => h))
          have VA1 := hidden (show IsVar w1 w.heap.size ⟨2, n, t⟩ from hK.heap VA.out (fun h => h))
          have VB1 := hidden (show IsVar w1 (w.heap.size + 1) ⟨2, n2, t2⟩ from hK.heap VB.out (fun h => h))
          obtain ⟨a0, a1, a2, -⟩ := VA1.out.cells
          obtain ⟨b0, b1, b2, -⟩ := VB1.out.cells
          simp only at a0 a1 a2 b0 b1 b2
          clear hK
          go_wp2_with fail
          refine (kr.out _ _ (Vals.lit w1 [⟨2, n, t⟩, ⟨2, n2, t2⟩] _ rfl)).mono ?_
          rintro e w2 ⟨rfl, hK⟩
          have HK2 := hidden ((HK1.out.alloc _).trans hK (fun _ _ h => h))
          have VA2 := hidden (show IsVar w2 w.heap.size ⟨2, n, t⟩ from hK.heap (blk_alloc VA1.out _) (fun h => h))
          have VB2 := hidden (show IsVar w2 (w.heap.size + 1) ⟨2, n2, t2⟩ from hK.heap (blk_alloc VB1.out _) (fun h => h))
          clear hK a0 a1 a2 b0 b1 b2 VA1 VB1 HK1
          obtain ⟨a0, a1, a2, -⟩ := VA2.out.cells
          obtain ⟨b0, b1, b2, -⟩ := VB2.out.cells
          simp only at a0 a1 a2 b0 b1 b2
          have hz2 := blk_lt VB2.out
          go_wp2_with fail
          refine (c1.out _).mono ?_
          rintro e w3 ⟨rfl, hK⟩
          have VA3 := hidden (show IsVar w3 w.heap.size ⟨2, n, t⟩ from hK.heap VA2.out (fun h => h))
          have VB3 := hidden (show IsVar w3 (w.heap.size + 1) ⟨2, n2, t2⟩ from hK.heap VB2.out (fun h => h))
          have HK3 := hidden (HK2.out.trans hK (fun _ _ h => h))
          clear hK a0 a1 a2 b0 b1 b2 hz2
          obtain ⟨a0, a1, a2, -⟩ := VA3.out.cells
          obtain ⟨b0, b1, b2, -⟩ := VB3.out.cells
          simp only at a0 a1 a2 b0 b1 b2
          have hz3 := blk_lt VB3.out
          have hy3 := blk_lt VA3.out
          go_wp2_with fail
          go_quiet (fail)
          go_wp2_with fail
          refine ((d2.out _).mono ?_)
          rintro e W2 ⟨rfl, rfl⟩
          go_wp2_with fail
          refine ((d3.out _).mono ?_)
          rintro e W3 ⟨rfl, rfl⟩
          go_wp2_with fail
          refine ((d0.out _).mono ?_)
          rintro e W0 ⟨rfl, rfl⟩
          go_wp2_with fail
          refine ((d1.out _).mono ?_)
          rintro e W1 ⟨rfl, rfl⟩
          go_wp2_with fail
          refine ((d4.out _).mono ?_)
          rintro e W4 ⟨rfl, rfl⟩
          go_wp2_with fail
          refine ((d5.out _).mono ?_)
          rintro e W5 ⟨rfl, rfl⟩
          go_wp2_with fail
          refine ((d6.out _).mono ?_)
          rintro e W6 ⟨rfl, rfl⟩
          go_wp2_with fail
          refine ((d7.out _).mono ?_)
          rintro e W7 ⟨rfl, rfl⟩
          go_wp2_with fail
          refine ((d8.out _).mono ?_)
          rintro e W8 ⟨rfl, rfl⟩
          go_wp2_with fail
          refine ((d9.out _).mono ?_)
          rintro e W9 ⟨rfl, rfl⟩
          have VX := hidden (show IsVar (w3.alloc (.cells #[.int .i64 2, .int .i64 (nLogical n n2), .string ⟨#[]⟩] 23)) w3.heap.size ⟨2, nLogical n n2, ⟨#[]⟩⟩ from blk_new w3 _)
          have ix2 := ix.out
          go_wp2_with fail
          clear ix2
          go_region_law (go_simp; go_at_call 27; refine (d10.out _ _).mono ?_; rintro e w4 ⟨rfl, hK⟩; have VX4 := hidden (show IsVar w4 w3.heap.size ⟨2, nLogical n n2, ⟨#[]⟩⟩ from hK.heap VX.out (fun h => h)); have HK4 := hidden (((HK3.out.alloc _).drewN _).trans hK (fun _ _ h => h)); obtain ⟨x0, x1, x2, -⟩ := VX4.out.cells; simp only at x0 x1 x2; clear hK)
          all_goals go_wp2_with fail
          all_goals go_ret
          all_goals exact hR.out _ _ ⟨(by first | rfl | simp [Act.put]), HK4.out.toNew (fun _ h => h.elim)⟩
      have hr : V.rek op a b = (V.null, 30) := by unfold V.rek; rw [if_neg (by omega), if_pos (.inr g2)]
      have hg : (b.k == 2) = false := by simpa using g2
      obtain ⟨k, n, t⟩ := a
      obtain ⟨k2, n2, t2⟩ := b
      simp only at g1 hg
      subst g1
      have c1 := hidden (fun W => value_Reckon op ⟨2, n, t⟩ ⟨k2, n2, t2⟩ W)
      rw [hr] at c1
      clear hr
      unfold V.val at c1
      simp only [V.null] at c1
      obtain ⟨va, vb, hK0⟩ := box2 w 2 n k2 n2 t t2
      have VA := hidden va
      have VB := hidden vb
      have HK0 := hidden hK0
      clear va vb hK0
      unfold V.val at *
      go_enter Try.func7, Try.ntmps7
      go_wp2_with fail
      refine (kt.out _).mono ?_
      rintro e w1 ⟨rfl, hK⟩
      have HK1 := hidden ((HK0.out).trans hK (fun _ _ h => h))
      have VA1 := hidden (show IsVar w1 w.heap.size ⟨2, n, t⟩ from hK.heap VA.out (fun h => h))
      have VB1 := hidden (show IsVar w1 (w.heap.size + 1) ⟨k2, n2, t2⟩ from hK.heap VB.out (fun h => h))
      obtain ⟨a0, a1, a2, -⟩ := VA1.out.cells
      obtain ⟨b0, b1, b2, -⟩ := VB1.out.cells
      simp only at a0 a1 a2 b0 b1 b2
      clear hK
      go_wp2_with fail
      refine (kr.out _ _ (Vals.lit w1 [⟨2, n, t⟩, ⟨k2, n2, t2⟩] _ rfl)).mono ?_
      rintro e w2 ⟨rfl, hK⟩
      have HK2 := hidden ((HK1.out.alloc _).trans hK (fun _ _ h => h))
      have VA2 := hidden (show IsVar w2 w.heap.size ⟨2, n, t⟩ from hK.heap (blk_alloc VA1.out _) (fun h => h))
      have VB2 := hidden (show IsVar w2 (w.heap.size + 1) ⟨k2, n2, t2⟩ from hK.heap (blk_alloc VB1.out _) (fun h => h))
      clear hK a0 a1 a2 b0 b1 b2 VA1 VB1 HK1
      obtain ⟨a0, a1, a2, -⟩ := VA2.out.cells
      obtain ⟨b0, b1, b2, -⟩ := VB2.out.cells
      simp only at a0 a1 a2 b0 b1 b2
      have hz2 := blk_lt VB2.out
      go_wp2_with fail
      refine (c1.out _).mono ?_
      rintro e w3 ⟨rfl, hK⟩
      have VA3 := hidden (show IsVar w3 w.heap.size ⟨2, n, t⟩ from hK.heap VA2.out (fun h => h))
      have VB3 := hidden (show IsVar w3 (w.heap.size + 1) ⟨k2, n2, t2⟩ from hK.heap VB2.out (fun h => h))
      have HK3 := hidden (HK2.out.trans hK (fun _ _ h => h))
      clear hK a0 a1 a2 b0 b1 b2 hz2
      obtain ⟨a0, a1, a2, -⟩ := VA3.out.cells
      obtain ⟨b0, b1, b2, -⟩ := VB3.out.cells
      simp only at a0 a1 a2 b0 b1 b2
      have hz3 := blk_lt VB3.out
      have hy3 := blk_lt VA3.out
      go_wp2_with fail
      exact hR.out _ _ ⟨rfl, (HK3.out.alloc _).toNew (fun _ h => h.elim)⟩
    have hr : V.rek op a b = (V.null, 30) := by unfold V.rek; rw [if_neg (by omega), if_pos (.inl g1)]
    have hg : (a.k == 2) = false := by simpa using g1
    obtain ⟨k, n, t⟩ := a
    obtain ⟨k2, n2, t2⟩ := b
    simp only at hg
    have c1 := hidden (fun W => value_Reckon op ⟨k, n, t⟩ ⟨k2, n2, t2⟩ W)
    rw [hr] at c1
    clear hr
    unfold V.val at c1
    simp only [V.null] at c1
    obtain ⟨va, vb, hK0⟩ := box2 w k n k2 n2 t t2
    have VA := hidden va
    have VB := hidden vb
    have HK0 := hidden hK0
    clear va vb hK0
    unfold V.val at *
    go_enter Try.func7, Try.ntmps7
    go_wp2_with fail
    refine (kt.out _).mono ?_
    rintro e w1 ⟨rfl, hK⟩
    have HK1 := hidden ((HK0.out).trans hK (fun _ _ h => h))
    have VA1 := hidden (show IsVar w1 w.heap.size ⟨k, n, t⟩ from hK.heap VA.out (fun h => h))
    have VB1 := hidden (show IsVar w1 (w.heap.size + 1) ⟨k2, n2, t2⟩ from hK.heap VB.out (fun h => h))
    obtain ⟨a0, a1, a2, -⟩ := VA1.out.cells
    obtain ⟨b0, b1, b2, -⟩ := VB1.out.cells
    simp only at a0 a1 a2 b0 b1 b2
    clear hK
    go_wp2_with fail
    refine (kr.out _ _ (Vals.lit w1 [⟨k, n, t⟩, ⟨k2, n2, t2⟩] _ rfl)).mono ?_
    rintro e w2 ⟨rfl, hK⟩
    have HK2 := hidden ((HK1.out.alloc _).trans hK (fun _ _ h => h))
    have VA2 := hidden (show IsVar w2 w.heap.size ⟨k, n, t⟩ from hK.heap (blk_alloc VA1.out _) (fun h => h))
    have VB2 := hidden (show IsVar w2 (w.heap.size + 1) ⟨k2, n2, t2⟩ from hK.heap (blk_alloc VB1.out _) (fun h => h))
    clear hK a0 a1 a2 b0 b1 b2 VA1 VB1 HK1
    obtain ⟨a0, a1, a2, -⟩ := VA2.out.cells
    obtain ⟨b0, b1, b2, -⟩ := VB2.out.cells
    simp only at a0 a1 a2 b0 b1 b2
    have hz2 := blk_lt VB2.out
    go_wp2_with fail
    refine (c1.out _).mono ?_
    rintro e w3 ⟨rfl, hK⟩
    have VA3 := hidden (show IsVar w3 w.heap.size ⟨k, n, t⟩ from hK.heap VA2.out (fun h => h))
    have VB3 := hidden (show IsVar w3 (w.heap.size + 1) ⟨k2, n2, t2⟩ from hK.heap VB2.out (fun h => h))
    have HK3 := hidden (HK2.out.trans hK (fun _ _ h => h))
    clear hK a0 a1 a2 b0 b1 b2 hz2
    obtain ⟨a0, a1, a2, -⟩ := VA3.out.cells
    obtain ⟨b0, b1, b2, -⟩ := VB3.out.cells
    simp only at a0 a1 a2 b0 b1 b2
    have hz3 := blk_lt VB3.out
    have hy3 := blk_lt VA3.out
    go_wp2_with fail
    exact hR.out _ _ ⟨rfl, (HK3.out.alloc _).toNew (fun _ h => h.elim)⟩
end Go.Proofs.Ytmjkglmkckofgaa
