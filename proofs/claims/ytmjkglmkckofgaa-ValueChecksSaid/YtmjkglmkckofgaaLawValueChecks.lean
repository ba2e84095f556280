/- The walk of the statement ValueChecks. -/
import Derived.Test.YtmjkglmkckofgaaVal3
namespace Go.Proofs.Ytmjkglmkckofgaa
open Go.RowKit
set_option maxRecDepth 100000
theorem run_index_cell (W : World) {t e : TypeId} {n : Nat} {cs : Array Value} {k : IntKind} {i : Int} {v : Value} (h : Try.prog.underlying t = some (.array n e)) (h0 : 0 ≤ i) (h1 : i < n) (he : (Try.prog.info? e).isSome = true) (h2 : Try.prog.cellsOf e = 1) (hp : Try.prog.plainKey e = true) (hv : cs[i.toNat]? = some v) :
    (Instr.index t (.agg cs) (.int k i)).run Try.prog W = .ok v W := by
  have hi : 0 ≤ i ∧ i < (n : Int) := ⟨h0, h1⟩
  obtain ⟨ie, he⟩ := Option.isSome_iff_exists.1 he
  have hs : (sizeOf e).run Try.prog W = .ok 1 W := by rw [run_sizeOf W he, h2]
  have hpt := run_part_plain W hp hv
  simp [Instr.index, asIntOf, run_underlying h, hi, hs, hpt]
set_option maxHeartbeats 8000000 in
theorem valueChecks_walk (w : World) (v : V) :
    Calls Try.prog 3 #[v.val] w fun e w' => e = .returned (.bool true) ∧ Below w.heap.size w w' := by
  have kt := hidden (fun W => tells_true W)
  refine post_gen fun R hR => ?_
  obtain ⟨k, n, t⟩ := v
  rcases (show k = 0 ∨ k = 1 ∨ k = 2 ∨ k = 3 ∨ k = 4 ∨ (k ≠ 0 ∧ k ≠ 1 ∧ k ≠ 2 ∧ k ≠ 3 ∧ k ≠ 4) by omega) with rfl | rfl | rfl | rfl | rfl | ⟨g0, g1, g2, g3, g4⟩
  · by_cases hn : n = 0
    · subst hn
      by_cases ht : t.toList ≠ []
      · have ht1 : (t.toList == []) = false := by simpa using ht
        have ht2 : (t.toList != []) = true := by simpa using ht
        have ht3 : t.toList.isEmpty = false := by simpa using ht
        have ht4 : (!t.toList.isEmpty) = true := by simpa using ht
        have c1 := hidden (fun W => value_Check ⟨0, 0, t⟩ W)
        rw [show V.chk ⟨0, 0, t⟩ = 5 from by first | (simp_all [V.chk, Lib.toList_data]; done) | (simp_all [V.chk, Lib.toList_data]; intros; omega)] at c1
        unfold V.val at *
        have VA := hidden (show IsVar (w.alloc (.cells #[.int .i64 0, .int .i64 0, .string t] 23)) w.heap.size ⟨0, 0, t⟩ from blk_new w _)
        have HK0 := hidden (show Keeps (fun _ => False) w (w.alloc (.cells #[.int .i64 0, .int .i64 0, .string t] 23)) from (Keeps.refl _ w).alloc _)
        go_enter Try.func3, Try.ntmps3
        go_wp2_with fail
        refine (kt.out _).mono ?_
        rintro e w1 ⟨rfl, hK⟩
        have VA1 := hidden (show IsVar w1 w.heap.size ⟨0, 0, t⟩ from hK.heap VA.out (fun h => h))
        have HK1 := hidden (HK0.out.trans hK (fun _ _ h => h))
        clear hK
        try clear a0 a1 a2 hz
        obtain ⟨a0, a1, a2, -⟩ := VA1.out.cells
        simp only at a0 a1 a2
        have hz := blk_lt VA1.out
        go_wp2_with fail
        refine (c1.out _).mono ?_
        rintro e w2 ⟨rfl, hK⟩
        have VA2 := hidden (show IsVar w2 w.heap.size ⟨0, 0, t⟩ from hK.heap VA1.out (fun h => h))
        have HK2 := hidden (HK1.out.trans hK (fun _ _ h => h))
        clear hK
        try clear a0 a1 a2 hz
        obtain ⟨a0, a1, a2, -⟩ := VA2.out.cells
        simp only at a0 a1 a2
        have hz := blk_lt VA2.out
        go_wp2_with fail
        exact hR.out _ _ ⟨rfl, HK2.out.toNew (fun _ h => h.elim)⟩
      · rw [show t = ⟨#[]⟩ from by
          have h : t.toList = [] := Classical.byContradiction ht
          rw [Lib.toList_data] at h
          exact ByteArray.ext (Array.ext' h)]
        have hix := fun W => run_index_cell W (t := 27) (e := 9) (n := 5) (cs := #[.string ⟨#[110, 117, 108, 108]⟩, .string ⟨#[98, 111, 111, 108]⟩, .string ⟨#[105, 110, 116, 101, 103, 101, 114]⟩, .string ⟨#[115, 116, 114, 105, 110, 103]⟩, .string ⟨#[114, 101, 102]⟩]) (k := .i64) (i := 0) (v := .string ⟨#[110, 117, 108, 108]⟩) Try.underlying27 (by decide) (by decide) (by kernel_rfl) (by kernel_rfl) (by kernel_rfl) rfl
        have c1 := hidden (fun W => value_Check ⟨0, 0, ⟨#[]⟩⟩ W)
        rw [show V.chk ⟨0, 0, ⟨#[]⟩⟩ = 0 from by first | (simp_all [V.chk, Lib.toList_data]; done) | (simp_all [V.chk, Lib.toList_data]; intros; omega)] at c1
        have c2 := hidden (fun W => value_Type ⟨0, 0, ⟨#[]⟩⟩ W)
        rw [show V.typ ⟨0, 0, ⟨#[]⟩⟩ = ⟨#[110, 117, 108, 108]⟩ from by rfl] at c2
        have c3 := hidden (fun W => value_True ⟨0, 0, ⟨#[]⟩⟩ W)
        rw [show V.tru ⟨0, 0, ⟨#[]⟩⟩ = false from by rfl] at c3
        unfold V.val at *
        have VA := hidden (show IsVar (w.alloc (.cells #[.int .i64 0, .int .i64 0, .string ⟨#[]⟩] 23)) w.heap.size ⟨0, 0, ⟨#[]⟩⟩ from blk_new w _)
        have HK0 := hidden (show Keeps (fun _ => False) w (w.alloc (.cells #[.int .i64 0, .int .i64 0, .string ⟨#[]⟩] 23)) from (Keeps.refl _ w).alloc _)
        go_enter Try.func3, Try.ntmps3
        go_wp2_with fail
        refine (kt.out _).mono ?_
        rintro e w1 ⟨rfl, hK⟩
        have VA1 := hidden (show IsVar w1 w.heap.size ⟨0, 0, ⟨#[]⟩⟩ from hK.heap VA.out (fun h => h))
        have HK1 := hidden (HK0.out.trans hK (fun _ _ h => h))
        clear hK
        try clear a0 a1 a2 hz
        obtain ⟨a0, a1, a2, -⟩ := VA1.out.cells
        simp only at a0 a1 a2
        have hz := blk_lt VA1.out
        go_wp2_with fail
        refine (c1.out _).mono ?_
        rintro e w2 ⟨rfl, hK⟩
        have VA2 := hidden (show IsVar w2 w.heap.size ⟨0, 0, ⟨#[]⟩⟩ from hK.heap VA1.out (fun h => h))
        have HK2 := hidden (HK1.out.trans hK (fun _ _ h => h))
        clear hK
        try clear a0 a1 a2 hz
        obtain ⟨a0, a1, a2, -⟩ := VA2.out.cells
        simp only at a0 a1 a2
        have hz := blk_lt VA2.out
        go_wp2_with fail
        refine (c2.out _).mono ?_
        rintro e w3 ⟨rfl, hK⟩
        have VA3 := hidden (show IsVar w3 w.heap.size ⟨0, 0, ⟨#[]⟩⟩ from hK.heap VA2.out (fun h => h))
        have HK3 := hidden (HK2.out.trans hK (fun _ _ h => h))
        clear hK
        try clear a0 a1 a2 hz
        obtain ⟨a0, a1, a2, -⟩ := VA3.out.cells
        simp only at a0 a1 a2
        have hz := blk_lt VA3.out
        go_wp2_with fail
        refine (c3.out _).mono ?_
        rintro e w4 ⟨rfl, hK⟩
        have VA4 := hidden (show IsVar w4 w.heap.size ⟨0, 0, ⟨#[]⟩⟩ from hK.heap VA3.out (fun h => h))
        have HK4 := hidden (HK3.out.trans hK (fun _ _ h => h))
        clear hK
        try clear a0 a1 a2 hz
        obtain ⟨a0, a1, a2, -⟩ := VA4.out.cells
        simp only at a0 a1 a2
        have hz := blk_lt VA4.out
        go_wp2_with fail
        exact hR.out _ _ ⟨rfl, HK4.out.toNew (fun _ h => h.elim)⟩
    · have hna : (n == 0) = false := by simpa using hn
      have hnb : (n != 0) = true := by simpa using hn
      have c1 := hidden (fun W => value_Check ⟨0, n, t⟩ W)
      rw [show V.chk ⟨0, n, t⟩ = 5 from by first | (simp_all [V.chk, Lib.toList_data]; done) | (simp_all [V.chk, Lib.toList_data]; intros; omega)] at c1
      unfold V.val at *
      have VA := hidden (show IsVar (w.alloc (.cells #[.int .i64 0, .int .i64 n, .string t] 23)) w.heap.size ⟨0, n, t⟩ from blk_new w _)
      have HK0 := hidden (show Keeps (fun _ => False) w (w.alloc (.cells #[.int .i64 0, .int .i64 n, .string t] 23)) from (Keeps.refl _ w).alloc _)
      go_enter Try.func3, Try.ntmps3
      go_wp2_with fail
      refine (kt.out _).mono ?_
      rintro e w1 ⟨rfl, hK⟩
      have VA1 := hidden (show IsVar w1 w.heap.size ⟨0, n, t⟩ from hK.heap VA.out (fun h => h))
      have HK1 := hidden (HK0.out.trans hK (fun _ _ h => h))
      clear hK
      try clear a0 a1 a2 hz
      obtain ⟨a0, a1, a2, -⟩ := VA1.out.cells
      simp only at a0 a1 a2
      have hz := blk_lt VA1.out
      go_wp2_with fail
      refine (c1.out _).mono ?_
      rintro e w2 ⟨rfl, hK⟩
      have VA2 := hidden (show IsVar w2 w.heap.size ⟨0, n, t⟩ from hK.heap VA1.out (fun h => h))
      have HK2 := hidden (HK1.out.trans hK (fun _ _ h => h))
      clear hK
      try clear a0 a1 a2 hz
      obtain ⟨a0, a1, a2, -⟩ := VA2.out.cells
      simp only at a0 a1 a2
      have hz := blk_lt VA2.out
      go_wp2_with fail
      exact hR.out _ _ ⟨rfl, HK2.out.toNew (fun _ h => h.elim)⟩
  · by_cases hlo : n < 0
    · have c1 := hidden (fun W => value_Check ⟨1, n, t⟩ W)
      rw [show V.chk ⟨1, n, t⟩ = 5 from by first | (simp_all [V.chk, Lib.toList_data]; done) | (simp_all [V.chk, Lib.toList_data]; intros; omega)] at c1
      unfold V.val at *
      have VA := hidden (show IsVar (w.alloc (.cells #[.int .i64 1, .int .i64 n, .string t] 23)) w.heap.size ⟨1, n, t⟩ from blk_new w _)
      have HK0 := hidden (show Keeps (fun _ => False) w (w.alloc (.cells #[.int .i64 1, .int .i64 n, .string t] 23)) from (Keeps.refl _ w).alloc _)
      go_enter Try.func3, Try.ntmps3
      go_wp2_with fail
      refine (kt.out _).mono ?_
      rintro e w1 ⟨rfl, hK⟩
      have VA1 := hidden (show IsVar w1 w.heap.size ⟨1, n, t⟩ from hK.heap VA.out (fun h => h))
      have HK1 := hidden (HK0.out.trans hK (fun _ _ h => h))
      clear hK
      try clear a0 a1 a2 hz
      obtain ⟨a0, a1, a2, -⟩ := VA1.out.cells
      simp only at a0 a1 a2
      have hz := blk_lt VA1.out
      go_wp2_with fail
      refine (c1.out _).mono ?_
      rintro e w2 ⟨rfl, hK⟩
      have VA2 := hidden (show IsVar w2 w.heap.size ⟨1, n, t⟩ from hK.heap VA1.out (fun h => h))
      have HK2 := hidden (HK1.out.trans hK (fun _ _ h => h))
      clear hK
      try clear a0 a1 a2 hz
      obtain ⟨a0, a1, a2, -⟩ := VA2.out.cells
      simp only at a0 a1 a2
      have hz := blk_lt VA2.out
      go_wp2_with fail
      exact hR.out _ _ ⟨rfl, HK2.out.toNew (fun _ h => h.elim)⟩
    by_cases hhi : 1 < n
    · have c1 := hidden (fun W => value_Check ⟨1, n, t⟩ W)
      rw [show V.chk ⟨1, n, t⟩ = 5 from by first | (simp_all [V.chk, Lib.toList_data]; done) | (simp_all [V.chk, Lib.toList_data]; intros; omega)] at c1
      unfold V.val at *
      have VA := hidden (show IsVar (w.alloc (.cells #[.int .i64 1, .int .i64 n, .string t] 23)) w.heap.size ⟨1, n, t⟩ from blk_new w _)
      have HK0 := hidden (show Keeps (fun _ => False) w (w.alloc (.cells #[.int .i64 1, .int .i64 n, .string t] 23)) from (Keeps.refl _ w).alloc _)
      go_enter Try.func3, Try.ntmps3
      go_wp2_with fail
      refine (kt.out _).mono ?_
      rintro e w1 ⟨rfl, hK⟩
      have VA1 := hidden (show IsVar w1 w.heap.size ⟨1, n, t⟩ from hK.heap VA.out (fun h => h))
      have HK1 := hidden (HK0.out.trans hK (fun _ _ h => h))
      clear hK
      try clear a0 a1 a2 hz
      obtain ⟨a0, a1, a2, -⟩ := VA1.out.cells
      simp only at a0 a1 a2
      have hz := blk_lt VA1.out
      go_wp2_with fail
      refine (c1.out _).mono ?_
      rintro e w2 ⟨rfl, hK⟩
      have VA2 := hidden (show IsVar w2 w.heap.size ⟨1, n, t⟩ from hK.heap VA1.out (fun h => h))
      have HK2 := hidden (HK1.out.trans hK (fun _ _ h => h))
      clear hK
      try clear a0 a1 a2 hz
      obtain ⟨a0, a1, a2, -⟩ := VA2.out.cells
      simp only at a0 a1 a2
      have hz := blk_lt VA2.out
      go_wp2_with fail
      exact hR.out _ _ ⟨rfl, HK2.out.toNew (fun _ h => h.elim)⟩
    by_cases ht : t.toList ≠ []
    · have ht1 : (t.toList == []) = false := by simpa using ht
      have ht2 : (t.toList != []) = true := by simpa using ht
      have ht3 : t.toList.isEmpty = false := by simpa using ht
      have ht4 : (!t.toList.isEmpty) = true := by simpa using ht
      have c1 := hidden (fun W => value_Check ⟨1, n, t⟩ W)
      rw [show V.chk ⟨1, n, t⟩ = 5 from by first | (simp_all [V.chk, Lib.toList_data]; done) | (simp_all [V.chk, Lib.toList_data]; intros; omega)] at c1
      unfold V.val at *
      have VA := hidden (show IsVar (w.alloc (.cells #[.int .i64 1, .int .i64 n, .string t] 23)) w.heap.size ⟨1, n, t⟩ from blk_new w _)
      have HK0 := hidden (show Keeps (fun _ => False) w (w.alloc (.cells #[.int .i64 1, .int .i64 n, .string t] 23)) from (Keeps.refl _ w).alloc _)
      go_enter Try.func3, Try.ntmps3
      go_wp2_with fail
      refine (kt.out _).mono ?_
      rintro e w1 ⟨rfl, hK⟩
      have VA1 := hidden (show IsVar w1 w.heap.size ⟨1, n, t⟩ from hK.heap VA.out (fun h => h))
      have HK1 := hidden (HK0.out.trans hK (fun _ _ h => h))
      clear hK
      try clear a0 a1 a2 hz
      obtain ⟨a0, a1, a2, -⟩ := VA1.out.cells
      simp only at a0 a1 a2
      have hz := blk_lt VA1.out
      go_wp2_with fail
      refine (c1.out _).mono ?_
      rintro e w2 ⟨rfl, hK⟩
      have VA2 := hidden (show IsVar w2 w.heap.size ⟨1, n, t⟩ from hK.heap VA1.out (fun h => h))
      have HK2 := hidden (HK1.out.trans hK (fun _ _ h => h))
      clear hK
      try clear a0 a1 a2 hz
      obtain ⟨a0, a1, a2, -⟩ := VA2.out.cells
      simp only at a0 a1 a2
      have hz := blk_lt VA2.out
      go_wp2_with fail
      exact hR.out _ _ ⟨rfl, HK2.out.toNew (fun _ h => h.elim)⟩
    rw [show t = ⟨#[]⟩ from by
      have h : t.toList = [] := Classical.byContradiction ht
      rw [Lib.toList_data] at h
      exact ByteArray.ext (Array.ext' h)]
    rcases (show n = 0 ∨ n = 1 by omega) with rfl | rfl
    · have hix := fun W => run_index_cell W (t := 27) (e := 9) (n := 5) (cs := #[.string ⟨#[110, 117, 108, 108]⟩, .string ⟨#[98, 111, 111, 108]⟩, .string ⟨#[105, 110, 116, 101, 103, 101, 114]⟩, .string ⟨#[115, 116, 114, 105, 110, 103]⟩, .string ⟨#[114, 101, 102]⟩]) (k := .i64) (i := 1) (v := .string ⟨#[98, 111, 111, 108]⟩) Try.underlying27 (by decide) (by decide) (by kernel_rfl) (by kernel_rfl) (by kernel_rfl) rfl
      have c1 := hidden (fun W => value_Check ⟨1, 0, ⟨#[]⟩⟩ W)
      rw [show V.chk ⟨1, 0, ⟨#[]⟩⟩ = 0 from by first | (simp_all [V.chk, Lib.toList_data]; done) | (simp_all [V.chk, Lib.toList_data]; intros; omega)] at c1
      have c2 := hidden (fun W => value_Type ⟨1, 0, ⟨#[]⟩⟩ W)
      rw [show V.typ ⟨1, 0, ⟨#[]⟩⟩ = ⟨#[98, 111, 111, 108]⟩ from by rfl] at c2
      have c3 := hidden (fun W => value_True ⟨1, 0, ⟨#[]⟩⟩ W)
      rw [show V.tru ⟨1, 0, ⟨#[]⟩⟩ = false from by rfl] at c3
      unfold V.val at *
      have VA := hidden (show IsVar (w.alloc (.cells #[.int .i64 1, .int .i64 0, .string ⟨#[]⟩] 23)) w.heap.size ⟨1, 0, ⟨#[]⟩⟩ from blk_new w _)
      have HK0 := hidden (show Keeps (fun _ => False) w (w.alloc (.cells #[.int .i64 1, .int .i64 0, .string ⟨#[]⟩] 23)) from (Keeps.refl _ w).alloc _)
      go_enter Try.func3, Try.ntmps3
      go_wp2_with fail
      refine (kt.out _).mono ?_
      rintro e w1 ⟨rfl, hK⟩
      have VA1 := hidden (show IsVar w1 w.heap.size ⟨1, 0, ⟨#[]⟩⟩ from hK.heap VA.out (fun h => h))
      have HK1 := hidden (HK0.out.trans hK (fun _ _ h => h))
      clear hK
      try clear a0 a1 a2 hz
      obtain ⟨a0, a1, a2, -⟩ := VA1.out.cells
      simp only at a0 a1 a2
      have hz := blk_lt VA1.out
      go_wp2_with fail
      refine (c1.out _).mono ?_
      rintro e w2 ⟨rfl, hK⟩
      have VA2 := hidden (show IsVar w2 w.heap.size ⟨1, 0, ⟨#[]⟩⟩ from hK.heap VA1.out (fun h => h))
      have HK2 := hidden (HK1.out.trans hK (fun _ _ h => h))
      clear hK
      try clear a0 a1 a2 hz
      obtain ⟨a0, a1, a2, -⟩ := VA2.out.cells
      simp only at a0 a1 a2
      have hz := blk_lt VA2.out
      go_wp2_with fail
      refine (c2.out _).mono ?_
      rintro e w3 ⟨rfl, hK⟩
      have VA3 := hidden (show IsVar w3 w.heap.size ⟨1, 0, ⟨#[]⟩⟩ from hK.heap VA2.out (fun h => h))
      have HK3 := hidden (HK2.out.trans hK (fun _ _ h => h))
      clear hK
      try clear a0 a1 a2 hz
      obtain ⟨a0, a1, a2, -⟩ := VA3.out.cells
      simp only at a0 a1 a2
      have hz := blk_lt VA3.out
      go_wp2_with fail
      refine (c3.out _).mono ?_
      rintro e w4 ⟨rfl, hK⟩
      have VA4 := hidden (show IsVar w4 w.heap.size ⟨1, 0, ⟨#[]⟩⟩ from hK.heap VA3.out (fun h => h))
      have HK4 := hidden (HK3.out.trans hK (fun _ _ h => h))
      clear hK
      try clear a0 a1 a2 hz
      obtain ⟨a0, a1, a2, -⟩ := VA4.out.cells
      simp only at a0 a1 a2
      have hz := blk_lt VA4.out
      go_wp2_with fail
      exact hR.out _ _ ⟨rfl, HK4.out.toNew (fun _ h => h.elim)⟩
    · have hix := fun W => run_index_cell W (t := 27) (e := 9) (n := 5) (cs := #[.string ⟨#[110, 117, 108, 108]⟩, .string ⟨#[98, 111, 111, 108]⟩, .string ⟨#[105, 110, 116, 101, 103, 101, 114]⟩, .string ⟨#[115, 116, 114, 105, 110, 103]⟩, .string ⟨#[114, 101, 102]⟩]) (k := .i64) (i := 1) (v := .string ⟨#[98, 111, 111, 108]⟩) Try.underlying27 (by decide) (by decide) (by kernel_rfl) (by kernel_rfl) (by kernel_rfl) rfl
      have c1 := hidden (fun W => value_Check ⟨1, 1, ⟨#[]⟩⟩ W)
      rw [show V.chk ⟨1, 1, ⟨#[]⟩⟩ = 0 from by first | (simp_all [V.chk, Lib.toList_data]; done) | (simp_all [V.chk, Lib.toList_data]; intros; omega)] at c1
      have c2 := hidden (fun W => value_Type ⟨1, 1, ⟨#[]⟩⟩ W)
      rw [show V.typ ⟨1, 1, ⟨#[]⟩⟩ = ⟨#[98, 111, 111, 108]⟩ from by rfl] at c2
      have c3 := hidden (fun W => value_True ⟨1, 1, ⟨#[]⟩⟩ W)
      rw [show V.tru ⟨1, 1, ⟨#[]⟩⟩ = true from by rfl] at c3
      unfold V.val at *
      have VA := hidden (show IsVar (w.alloc (.cells #[.int .i64 1, .int .i64 1, .string ⟨#[]⟩] 23)) w.heap.size ⟨1, 1, ⟨#[]⟩⟩ from blk_new w _)
      have HK0 := hidden (show Keeps (fun _ => False) w (w.alloc (.cells #[.int .i64 1, .int .i64 1, .string ⟨#[]⟩] 23)) from (Keeps.refl _ w).alloc _)
      go_enter Try.func3, Try.ntmps3
      go_wp2_with fail
      refine (kt.out _).mono ?_
      rintro e w1 ⟨rfl, hK⟩
      have VA1 := hidden (show IsVar w1 w.heap.size ⟨1, 1, ⟨#[]⟩⟩ from hK.heap VA.out (fun h => h))
      have HK1 := hidden (HK0.out.trans hK (fun _ _ h => h))
      clear hK
      try clear a0 a1 a2 hz
      obtain ⟨a0, a1, a2, -⟩ := VA1.out.cells
      simp only at a0 a1 a2
      have hz := blk_lt VA1.out
      go_wp2_with fail
      refine (c1.out _).mono ?_
      rintro e w2 ⟨rfl, hK⟩
      have VA2 := hidden (show IsVar w2 w.heap.size ⟨1, 1, ⟨#[]⟩⟩ from hK.heap VA1.out (fun h => h))
      have HK2 := hidden (HK1.out.trans hK (fun _ _ h => h))
      clear hK
      try clear a0 a1 a2 hz
      obtain ⟨a0, a1, a2, -⟩ := VA2.out.cells
      simp only at a0 a1 a2
      have hz := blk_lt VA2.out
      go_wp2_with fail
      refine (c2.out _).mono ?_
      rintro e w3 ⟨rfl, hK⟩
      have VA3 := hidden (show IsVar w3 w.heap.size ⟨1, 1, ⟨#[]⟩⟩ from hK.heap VA2.out (fun h => h))
      have HK3 := hidden (HK2.out.trans hK (fun _ _ h => h))
      clear hK
      try clear a0 a1 a2 hz
      obtain ⟨a0, a1, a2, -⟩ := VA3.out.cells
      simp only at a0 a1 a2
      have hz := blk_lt VA3.out
      go_wp2_with fail
      refine (c3.out _).mono ?_
      rintro e w4 ⟨rfl, hK⟩
      have VA4 := hidden (show IsVar w4 w.heap.size ⟨1, 1, ⟨#[]⟩⟩ from hK.heap VA3.out (fun h => h))
      have HK4 := hidden (HK3.out.trans hK (fun _ _ h => h))
      clear hK
      try clear a0 a1 a2 hz
      obtain ⟨a0, a1, a2, -⟩ := VA4.out.cells
      simp only at a0 a1 a2
      have hz := blk_lt VA4.out
      go_wp2_with fail
      exact hR.out _ _ ⟨rfl, HK4.out.toNew (fun _ h => h.elim)⟩
  · by_cases ht : t.toList ≠ []
    · have ht1 : (t.toList == []) = false := by simpa using ht
      have ht2 : (t.toList != []) = true := by simpa using ht
      have ht3 : t.toList.isEmpty = false := by simpa using ht
      have ht4 : (!t.toList.isEmpty) = true := by simpa using ht
      have c1 := hidden (fun W => value_Check ⟨2, n, t⟩ W)
      rw [show V.chk ⟨2, n, t⟩ = 5 from by first | (simp_all [V.chk, Lib.toList_data]; done) | (simp_all [V.chk, Lib.toList_data]; intros; omega)] at c1
      unfold V.val at *
      have VA := hidden (show IsVar (w.alloc (.cells #[.int .i64 2, .int .i64 n, .string t] 23)) w.heap.size ⟨2, n, t⟩ from blk_new w _)
      have HK0 := hidden (show Keeps (fun _ => False) w (w.alloc (.cells #[.int .i64 2, .int .i64 n, .string t] 23)) from (Keeps.refl _ w).alloc _)
      go_enter Try.func3, Try.ntmps3
      go_wp2_with fail
      refine (kt.out _).mono ?_
      rintro e w1 ⟨rfl, hK⟩
      have VA1 := hidden (show IsVar w1 w.heap.size ⟨2, n, t⟩ from hK.heap VA.out (fun h => h))
      have HK1 := hidden (HK0.out.trans hK (fun _ _ h => h))
      clear hK
      try clear a0 a1 a2 hz
      obtain ⟨a0, a1, a2, -⟩ := VA1.out.cells
      simp only at a0 a1 a2
      have hz := blk_lt VA1.out
      go_wp2_with fail
      refine (c1.out _).mono ?_
      rintro e w2 ⟨rfl, hK⟩
      have VA2 := hidden (show IsVar w2 w.heap.size ⟨2, n, t⟩ from hK.heap VA1.out (fun h => h))
      have HK2 := hidden (HK1.out.trans hK (fun _ _ h => h))
      clear hK
      try clear a0 a1 a2 hz
      obtain ⟨a0, a1, a2, -⟩ := VA2.out.cells
      simp only at a0 a1 a2
      have hz := blk_lt VA2.out
      go_wp2_with fail
      exact hR.out _ _ ⟨rfl, HK2.out.toNew (fun _ h => h.elim)⟩
    rw [show t = ⟨#[]⟩ from by
      have h : t.toList = [] := Classical.byContradiction ht
      rw [Lib.toList_data] at h
      exact ByteArray.ext (Array.ext' h)]
    by_cases hn : n = 0
    · subst hn
      have hix := fun W => run_index_cell W (t := 27) (e := 9) (n := 5) (cs := #[.string ⟨#[110, 117, 108, 108]⟩, .string ⟨#[98, 111, 111, 108]⟩, .string ⟨#[105, 110, 116, 101, 103, 101, 114]⟩, .string ⟨#[115, 116, 114, 105, 110, 103]⟩, .string ⟨#[114, 101, 102]⟩]) (k := .i64) (i := 2) (v := .string ⟨#[105, 110, 116, 101, 103, 101, 114]⟩) Try.underlying27 (by decide) (by decide) (by kernel_rfl) (by kernel_rfl) (by kernel_rfl) rfl
      have c1 := hidden (fun W => value_Check ⟨2, 0, ⟨#[]⟩⟩ W)
      rw [show V.chk ⟨2, 0, ⟨#[]⟩⟩ = 0 from by first | (simp_all [V.chk, Lib.toList_data]; done) | (simp_all [V.chk, Lib.toList_data]; intros; omega)] at c1
      have c2 := hidden (fun W => value_Type ⟨2, 0, ⟨#[]⟩⟩ W)
      rw [show V.typ ⟨2, 0, ⟨#[]⟩⟩ = ⟨#[105, 110, 116, 101, 103, 101, 114]⟩ from by rfl] at c2
      have c3 := hidden (fun W => value_True ⟨2, 0, ⟨#[]⟩⟩ W)
      rw [show V.tru ⟨2, 0, ⟨#[]⟩⟩ = false from by rfl] at c3
      unfold V.val at *
      have VA := hidden (show IsVar (w.alloc (.cells #[.int .i64 2, .int .i64 0, .string ⟨#[]⟩] 23)) w.heap.size ⟨2, 0, ⟨#[]⟩⟩ from blk_new w _)
      have HK0 := hidden (show Keeps (fun _ => False) w (w.alloc (.cells #[.int .i64 2, .int .i64 0, .string ⟨#[]⟩] 23)) from (Keeps.refl _ w).alloc _)
      go_enter Try.func3, Try.ntmps3
      go_wp2_with fail
      refine (kt.out _).mono ?_
      rintro e w1 ⟨rfl, hK⟩
      have VA1 := hidden (show IsVar w1 w.heap.size ⟨2, 0, ⟨#[]⟩⟩ from hK.heap VA.out (fun h => h))
      have HK1 := hidden (HK0.out.trans hK (fun _ _ h => h))
      clear hK
      try clear a0 a1 a2 hz
      obtain ⟨a0, a1, a2, -⟩ := VA1.out.cells
      simp only at a0 a1 a2
      have hz := blk_lt VA1.out
      go_wp2_with fail
      refine (c1.out _).mono ?_
      rintro e w2 ⟨rfl, hK⟩
      have VA2 := hidden (show IsVar w2 w.heap.size ⟨2, 0, ⟨#[]⟩⟩ from hK.heap VA1.out (fun h => h))
      have HK2 := hidden (HK1.out.trans hK (fun _ _ h => h))
      clear hK
      try clear a0 a1 a2 hz
      obtain ⟨a0, a1, a2, -⟩ := VA2.out.cells
      simp only at a0 a1 a2
      have hz := blk_lt VA2.out
      go_wp2_with fail
      refine (c2.out _).mono ?_
      rintro e w3 ⟨rfl, hK⟩
      have VA3 := hidden (show IsVar w3 w.heap.size ⟨2, 0, ⟨#[]⟩⟩ from hK.heap VA2.out (fun h => h))
      have HK3 := hidden (HK2.out.trans hK (fun _ _ h => h))
      clear hK
      try clear a0 a1 a2 hz
      obtain ⟨a0, a1, a2, -⟩ := VA3.out.cells
      simp only at a0 a1 a2
      have hz := blk_lt VA3.out
      go_wp2_with fail
      refine (c3.out _).mono ?_
      rintro e w4 ⟨rfl, hK⟩
      have VA4 := hidden (show IsVar w4 w.heap.size ⟨2, 0, ⟨#[]⟩⟩ from hK.heap VA3.out (fun h => h))
      have HK4 := hidden (HK3.out.trans hK (fun _ _ h => h))
      clear hK
      try clear a0 a1 a2 hz
      obtain ⟨a0, a1, a2, -⟩ := VA4.out.cells
      simp only at a0 a1 a2
      have hz := blk_lt VA4.out
      go_wp2_with fail
      exact hR.out _ _ ⟨rfl, HK4.out.toNew (fun _ h => h.elim)⟩
    · have hna : (n == 0) = false := by simpa using hn
      have hnb : (n != 0) = true := by simpa using hn
      have hix := fun W => run_index_cell W (t := 27) (e := 9) (n := 5) (cs := #[.string ⟨#[110, 117, 108, 108]⟩, .string ⟨#[98, 111, 111, 108]⟩, .string ⟨#[105, 110, 116, 101, 103, 101, 114]⟩, .string ⟨#[115, 116, 114, 105, 110, 103]⟩, .string ⟨#[114, 101, 102]⟩]) (k := .i64) (i := 2) (v := .string ⟨#[105, 110, 116, 101, 103, 101, 114]⟩) Try.underlying27 (by decide) (by decide) (by kernel_rfl) (by kernel_rfl) (by kernel_rfl) rfl
      have c1 := hidden (fun W => value_Check ⟨2, n, ⟨#[]⟩⟩ W)
      rw [show V.chk ⟨2, n, ⟨#[]⟩⟩ = 0 from by first | (simp_all [V.chk, Lib.toList_data]; done) | (simp_all [V.chk, Lib.toList_data]; intros; omega)] at c1
      have c2 := hidden (fun W => value_Type ⟨2, n, ⟨#[]⟩⟩ W)
      rw [show V.typ ⟨2, n, ⟨#[]⟩⟩ = ⟨#[105, 110, 116, 101, 103, 101, 114]⟩ from by rfl] at c2
      have c3 := hidden (fun W => value_True ⟨2, n, ⟨#[]⟩⟩ W)
      rw [show V.tru ⟨2, n, ⟨#[]⟩⟩ = true from by simp [V.tru, hn]] at c3
      unfold V.val at *
      have VA := hidden (show IsVar (w.alloc (.cells #[.int .i64 2, .int .i64 n, .string ⟨#[]⟩] 23)) w.heap.size ⟨2, n, ⟨#[]⟩⟩ from blk_new w _)
      have HK0 := hidden (show Keeps (fun _ => False) w (w.alloc (.cells #[.int .i64 2, .int .i64 n, .string ⟨#[]⟩] 23)) from (Keeps.refl _ w).alloc _)
      go_enter Try.func3, Try.ntmps3
      go_wp2_with fail
      refine (kt.out _).mono ?_
      rintro e w1 ⟨rfl, hK⟩
      have VA1 := hidden (show IsVar w1 w.heap.size ⟨2, n, ⟨#[]⟩⟩ from hK.heap VA.out (fun h => h))
      have HK1 := hidden (HK0.out.trans hK (fun _ _ h => h))
      clear hK
      try clear a0 a1 a2 hz
      obtain ⟨a0, a1, a2, -⟩ := VA1.out.cells
      simp only at a0 a1 a2
      have hz := blk_lt VA1.out
      go_wp2_with fail
      refine (c1.out _).mono ?_
      rintro e w2 ⟨rfl, hK⟩
      have VA2 := hidden (show IsVar w2 w.heap.size ⟨2, n, ⟨#[]⟩⟩ from hK.heap VA1.out (fun h => h))
      have HK2 := hidden (HK1.out.trans hK (fun _ _ h => h))
      clear hK
      try clear a0 a1 a2 hz
      obtain ⟨a0, a1, a2, -⟩ := VA2.out.cells
      simp only at a0 a1 a2
      have hz := blk_lt VA2.out
      go_wp2_with fail
      refine (c2.out _).mono ?_
      rintro e w3 ⟨rfl, hK⟩
      have VA3 := hidden (show IsVar w3 w.heap.size ⟨2, n, ⟨#[]⟩⟩ from hK.heap VA2.out (fun h => h))
      have HK3 := hidden (HK2.out.trans hK (fun _ _ h => h))
      clear hK
      try clear a0 a1 a2 hz
      obtain ⟨a0, a1, a2, -⟩ := VA3.out.cells
      simp only at a0 a1 a2
      have hz := blk_lt VA3.out
      go_wp2_with fail
      refine (c3.out _).mono ?_
      rintro e w4 ⟨rfl, hK⟩
      have VA4 := hidden (show IsVar w4 w.heap.size ⟨2, n, ⟨#[]⟩⟩ from hK.heap VA3.out (fun h => h))
      have HK4 := hidden (HK3.out.trans hK (fun _ _ h => h))
      clear hK
      try clear a0 a1 a2 hz
      obtain ⟨a0, a1, a2, -⟩ := VA4.out.cells
      simp only at a0 a1 a2
      have hz := blk_lt VA4.out
      go_wp2_with fail
      exact hR.out _ _ ⟨rfl, HK4.out.toNew (fun _ h => h.elim)⟩
  · by_cases hn : n = 0
    · subst hn
      have hix := fun W => run_index_cell W (t := 27) (e := 9) (n := 5) (cs := #[.string ⟨#[110, 117, 108, 108]⟩, .string ⟨#[98, 111, 111, 108]⟩, .string ⟨#[105, 110, 116, 101, 103, 101, 114]⟩, .string ⟨#[115, 116, 114, 105, 110, 103]⟩, .string ⟨#[114, 101, 102]⟩]) (k := .i64) (i := 3) (v := .string ⟨#[115, 116, 114, 105, 110, 103]⟩) Try.underlying27 (by decide) (by decide) (by kernel_rfl) (by kernel_rfl) (by kernel_rfl) rfl
      have c1 := hidden (fun W => value_Check ⟨3, 0, t⟩ W)
      rw [show V.chk ⟨3, 0, t⟩ = 0 from by first | (simp_all [V.chk, Lib.toList_data]; done) | (simp_all [V.chk, Lib.toList_data]; intros; omega)] at c1
      have c2 := hidden (fun W => value_Type ⟨3, 0, t⟩ W)
      rw [show V.typ ⟨3, 0, t⟩ = ⟨#[115, 116, 114, 105, 110, 103]⟩ from by rfl] at c2
      have c3 := hidden (fun W => value_True ⟨3, 0, t⟩ W)
      rw [show V.tru ⟨3, 0, t⟩ = true from by rfl] at c3
      unfold V.val at *
      have VA := hidden (show IsVar (w.alloc (.cells #[.int .i64 3, .int .i64 0, .string t] 23)) w.heap.size ⟨3, 0, t⟩ from blk_new w _)
      have HK0 := hidden (show Keeps (fun _ => False) w (w.alloc (.cells #[.int .i64 3, .int .i64 0, .string t] 23)) from (Keeps.refl _ w).alloc _)
      go_enter Try.func3, Try.ntmps3
      go_wp2_with fail
      refine (kt.out _).mono ?_
      rintro e w1 ⟨rfl, hK⟩
      have VA1 := hidden (show IsVar w1 w.heap.size ⟨3, 0, t⟩ from hK.heap VA.out (fun h => h))
      have HK1 := hidden (HK0.out.trans hK (fun _ _ h => h))
      clear hK
      try clear a0 a1 a2 hz
      obtain ⟨a0, a1, a2, -⟩ := VA1.out.cells
      simp only at a0 a1 a2
      have hz := blk_lt VA1.out
      go_wp2_with fail
      refine (c1.out _).mono ?_
      rintro e w2 ⟨rfl, hK⟩
      have VA2 := hidden (show IsVar w2 w.heap.size ⟨3, 0, t⟩ from hK.heap VA1.out (fun h => h))
      have HK2 := hidden (HK1.out.trans hK (fun _ _ h => h))
      clear hK
      try clear a0 a1 a2 hz
      obtain ⟨a0, a1, a2, -⟩ := VA2.out.cells
      simp only at a0 a1 a2
      have hz := blk_lt VA2.out
      go_wp2_with fail
      refine (c2.out _).mono ?_
      rintro e w3 ⟨rfl, hK⟩
      have VA3 := hidden (show IsVar w3 w.heap.size ⟨3, 0, t⟩ from hK.heap VA2.out (fun h => h))
      have HK3 := hidden (HK2.out.trans hK (fun _ _ h => h))
      clear hK
      try clear a0 a1 a2 hz
      obtain ⟨a0, a1, a2, -⟩ := VA3.out.cells
      simp only at a0 a1 a2
      have hz := blk_lt VA3.out
      go_wp2_with fail
      refine (c3.out _).mono ?_
      rintro e w4 ⟨rfl, hK⟩
      have VA4 := hidden (show IsVar w4 w.heap.size ⟨3, 0, t⟩ from hK.heap VA3.out (fun h => h))
      have HK4 := hidden (HK3.out.trans hK (fun _ _ h => h))
      clear hK
      try clear a0 a1 a2 hz
      obtain ⟨a0, a1, a2, -⟩ := VA4.out.cells
      simp only at a0 a1 a2
      have hz := blk_lt VA4.out
      go_wp2_with fail
      exact hR.out _ _ ⟨rfl, HK4.out.toNew (fun _ h => h.elim)⟩
    · have hna : (n == 0) = false := by simpa using hn
      have hnb : (n != 0) = true := by simpa using hn
      have c1 := hidden (fun W => value_Check ⟨3, n, t⟩ W)
      rw [show V.chk ⟨3, n, t⟩ = 5 from by first | (simp_all [V.chk, Lib.toList_data]; done) | (simp_all [V.chk, Lib.toList_data]; intros; omega)] at c1
      unfold V.val at *
      have VA := hidden (show IsVar (w.alloc (.cells #[.int .i64 3, .int .i64 n, .string t] 23)) w.heap.size ⟨3, n, t⟩ from blk_new w _)
      have HK0 := hidden (show Keeps (fun _ => False) w (w.alloc (.cells #[.int .i64 3, .int .i64 n, .string t] 23)) from (Keeps.refl _ w).alloc _)
      go_enter Try.func3, Try.ntmps3
      go_wp2_with fail
      refine (kt.out _).mono ?_
      rintro e w1 ⟨rfl, hK⟩
      have VA1 := hidden (show IsVar w1 w.heap.size ⟨3, n, t⟩ from hK.heap VA.out (fun h => h))
      have HK1 := hidden (HK0.out.trans hK (fun _ _ h => h))
      clear hK
      try clear a0 a1 a2 hz
      obtain ⟨a0, a1, a2, -⟩ := VA1.out.cells
      simp only at a0 a1 a2
      have hz := blk_lt VA1.out
      go_wp2_with fail
      refine (c1.out _).mono ?_
      rintro e w2 ⟨rfl, hK⟩
      have VA2 := hidden (show IsVar w2 w.heap.size ⟨3, n, t⟩ from hK.heap VA1.out (fun h => h))
      have HK2 := hidden (HK1.out.trans hK (fun _ _ h => h))
      clear hK
      try clear a0 a1 a2 hz
      obtain ⟨a0, a1, a2, -⟩ := VA2.out.cells
      simp only at a0 a1 a2
      have hz := blk_lt VA2.out
      go_wp2_with fail
      exact hR.out _ _ ⟨rfl, HK2.out.toNew (fun _ h => h.elim)⟩
  · by_cases hlo : n < 0
    · have c1 := hidden (fun W => value_Check ⟨4, n, t⟩ W)
      rw [show V.chk ⟨4, n, t⟩ = 5 from by first | (simp_all [V.chk, Lib.toList_data]; done) | (simp_all [V.chk, Lib.toList_data]; intros; omega)] at c1
      unfold V.val at *
      have VA := hidden (show IsVar (w.alloc (.cells #[.int .i64 4, .int .i64 n, .string t] 23)) w.heap.size ⟨4, n, t⟩ from blk_new w _)
      have HK0 := hidden (show Keeps (fun _ => False) w (w.alloc (.cells #[.int .i64 4, .int .i64 n, .string t] 23)) from (Keeps.refl _ w).alloc _)
      go_enter Try.func3, Try.ntmps3
      go_wp2_with fail
      refine (kt.out _).mono ?_
      rintro e w1 ⟨rfl, hK⟩
      have VA1 := hidden (show IsVar w1 w.heap.size ⟨4, n, t⟩ from hK.heap VA.out (fun h => h))
      have HK1 := hidden (HK0.out.trans hK (fun _ _ h => h))
      clear hK
      try clear a0 a1 a2 hz
      obtain ⟨a0, a1, a2, -⟩ := VA1.out.cells
      simp only at a0 a1 a2
      have hz := blk_lt VA1.out
      go_wp2_with fail
      refine (c1.out _).mono ?_
      rintro e w2 ⟨rfl, hK⟩
      have VA2 := hidden (show IsVar w2 w.heap.size ⟨4, n, t⟩ from hK.heap VA1.out (fun h => h))
      have HK2 := hidden (HK1.out.trans hK (fun _ _ h => h))
      clear hK
      try clear a0 a1 a2 hz
      obtain ⟨a0, a1, a2, -⟩ := VA2.out.cells
      simp only at a0 a1 a2
      have hz := blk_lt VA2.out
      go_wp2_with fail
      exact hR.out _ _ ⟨rfl, HK2.out.toNew (fun _ h => h.elim)⟩
    by_cases ht : t.toList ≠ []
    · have ht1 : (t.toList == []) = false := by simpa using ht
      have ht2 : (t.toList != []) = true := by simpa using ht
      have ht3 : t.toList.isEmpty = false := by simpa using ht
      have ht4 : (!t.toList.isEmpty) = true := by simpa using ht
      have c1 := hidden (fun W => value_Check ⟨4, n, t⟩ W)
      rw [show V.chk ⟨4, n, t⟩ = 5 from by first | (simp_all [V.chk, Lib.toList_data]; done) | (simp_all [V.chk, Lib.toList_data]; intros; omega)] at c1
      unfold V.val at *
      have VA := hidden (show IsVar (w.alloc (.cells #[.int .i64 4, .int .i64 n, .string t] 23)) w.heap.size ⟨4, n, t⟩ from blk_new w _)
      have HK0 := hidden (show Keeps (fun _ => False) w (w.alloc (.cells #[.int .i64 4, .int .i64 n, .string t] 23)) from (Keeps.refl _ w).alloc _)
      go_enter Try.func3, Try.ntmps3
      go_wp2_with fail
      refine (kt.out _).mono ?_
      rintro e w1 ⟨rfl, hK⟩
      have VA1 := hidden (show IsVar w1 w.heap.size ⟨4, n, t⟩ from hK.heap VA.out (fun h => h))
      have HK1 := hidden (HK0.out.trans hK (fun _ _ h => h))
      clear hK
      try clear a0 a1 a2 hz
      obtain ⟨a0, a1, a2, -⟩ := VA1.out.cells
      simp only at a0 a1 a2
      have hz := blk_lt VA1.out
      go_wp2_with fail
      refine (c1.out _).mono ?_
      rintro e w2 ⟨rfl, hK⟩
      have VA2 := hidden (show IsVar w2 w.heap.size ⟨4, n, t⟩ from hK.heap VA1.out (fun h => h))
      have HK2 := hidden (HK1.out.trans hK (fun _ _ h => h))
      clear hK
      try clear a0 a1 a2 hz
      obtain ⟨a0, a1, a2, -⟩ := VA2.out.cells
      simp only at a0 a1 a2
      have hz := blk_lt VA2.out
      go_wp2_with fail
      exact hR.out _ _ ⟨rfl, HK2.out.toNew (fun _ h => h.elim)⟩
    rw [show t = ⟨#[]⟩ from by
      have h : t.toList = [] := Classical.byContradiction ht
      rw [Lib.toList_data] at h
      exact ByteArray.ext (Array.ext' h)]
    have hix := fun W => run_index_cell W (t := 27) (e := 9) (n := 5) (cs := #[.string ⟨#[110, 117, 108, 108]⟩, .string ⟨#[98, 111, 111, 108]⟩, .string ⟨#[105, 110, 116, 101, 103, 101, 114]⟩, .string ⟨#[115, 116, 114, 105, 110, 103]⟩, .string ⟨#[114, 101, 102]⟩]) (k := .i64) (i := 4) (v := .string ⟨#[114, 101, 102]⟩) Try.underlying27 (by decide) (by decide) (by kernel_rfl) (by kernel_rfl) (by kernel_rfl) rfl
    have c1 := hidden (fun W => value_Check ⟨4, n, ⟨#[]⟩⟩ W)
    rw [show V.chk ⟨4, n, ⟨#[]⟩⟩ = 0 from by first | (simp_all [V.chk, Lib.toList_data]; done) | (simp_all [V.chk, Lib.toList_data]; intros; omega)] at c1
    have c2 := hidden (fun W => value_Type ⟨4, n, ⟨#[]⟩⟩ W)
    rw [show V.typ ⟨4, n, ⟨#[]⟩⟩ = ⟨#[114, 101, 102]⟩ from by rfl] at c2
    have c3 := hidden (fun W => value_True ⟨4, n, ⟨#[]⟩⟩ W)
    rw [show V.tru ⟨4, n, ⟨#[]⟩⟩ = true from by rfl] at c3
    unfold V.val at *
    have VA := hidden (show IsVar (w.alloc (.cells #[.int .i64 4, .int .i64 n, .string ⟨#[]⟩] 23)) w.heap.size ⟨4, n, ⟨#[]⟩⟩ from blk_new w _)
    have HK0 := hidden (show Keeps (fun _ => False) w (w.alloc (.cells #[.int .i64 4, .int .i64 n, .string ⟨#[]⟩] 23)) from (Keeps.refl _ w).alloc _)
    go_enter Try.func3, Try.ntmps3
    go_wp2_with fail
    refine (kt.out _).mono ?_
    rintro e w1 ⟨rfl, hK⟩
    have VA1 := hidden (show IsVar w1 w.heap.size ⟨4, n, ⟨#[]⟩⟩ from hK.heap VA.out (fun h => h))
    have HK1 := hidden (HK0.out.trans hK (fun _ _ h => h))
    clear hK
    try clear a0 a1 a2 hz
    obtain ⟨a0, a1, a2, -⟩ := VA1.out.cells
    simp only at a0 a1 a2
    have hz := blk_lt VA1.out
    go_wp2_with fail
    refine (c1.out _).mono ?_
    rintro e w2 ⟨rfl, hK⟩
    have VA2 := hidden (show IsVar w2 w.heap.size ⟨4, n, ⟨#[]⟩⟩ from hK.heap VA1.out (fun h => h))
    have HK2 := hidden (HK1.out.trans hK (fun _ _ h => h))
    clear hK
    try clear a0 a1 a2 hz
    obtain ⟨a0, a1, a2, -⟩ := VA2.out.cells
    simp only at a0 a1 a2
    have hz := blk_lt VA2.out
    go_wp2_with fail
    refine (c2.out _).mono ?_
    rintro e w3 ⟨rfl, hK⟩
    have VA3 := hidden (show IsVar w3 w.heap.size ⟨4, n, ⟨#[]⟩⟩ from hK.heap VA2.out (fun h => h))
    have HK3 := hidden (HK2.out.trans hK (fun _ _ h => h))
    clear hK
    try clear a0 a1 a2 hz
    obtain ⟨a0, a1, a2, -⟩ := VA3.out.cells
    simp only at a0 a1 a2
    have hz := blk_lt VA3.out
    go_wp2_with fail
    refine (c3.out _).mono ?_
    rintro e w4 ⟨rfl, hK⟩
    have VA4 := hidden (show IsVar w4 w.heap.size ⟨4, n, ⟨#[]⟩⟩ from hK.heap VA3.out (fun h => h))
    have HK4 := hidden (HK3.out.trans hK (fun _ _ h => h))
    clear hK
    try clear a0 a1 a2 hz
    obtain ⟨a0, a1, a2, -⟩ := VA4.out.cells
    simp only at a0 a1 a2
    have hz := blk_lt VA4.out
    go_wp2_with fail
    exact hR.out _ _ ⟨rfl, HK4.out.toNew (fun _ h => h.elim)⟩
  · have i0 : (k == 0) = false := by simpa using g0
    have i1 : (k == 1) = false := by simpa using g1
    have i2 : (k == 2) = false := by simpa using g2
    have i3 : (k == 3) = false := by simpa using g3
    have i4 : (k == 4) = false := by simpa using g4
    have c1 := hidden (fun W => value_Check ⟨k, n, t⟩ W)
    rw [show V.chk ⟨k, n, t⟩ = 30 from by simp_all [V.chk, Lib.toList_data]; omega] at c1
    unfold V.val at *
    have VA := hidden (show IsVar (w.alloc (.cells #[.int .i64 k, .int .i64 n, .string t] 23)) w.heap.size ⟨k, n, t⟩ from blk_new w _)
    have HK0 := hidden (show Keeps (fun _ => False) w (w.alloc (.cells #[.int .i64 k, .int .i64 n, .string t] 23)) from (Keeps.refl _ w).alloc _)
    go_enter Try.func3, Try.ntmps3
    go_wp2_with fail
    refine (kt.out _).mono ?_
    rintro e w1 ⟨rfl, hK⟩
    have VA1 := hidden (show IsVar w1 w.heap.size ⟨k, n, t⟩ from hK.heap VA.out (fun h => h))
    have HK1 := hidden (HK0.out.trans hK (fun _ _ h => h))
    clear hK
    try clear a0 a1 a2 hz
    obtain ⟨a0, a1, a2, -⟩ := VA1.out.cells
    simp only at a0 a1 a2
    have hz := blk_lt VA1.out
    go_wp2_with fail
    refine (c1.out _).mono ?_
    rintro e w2 ⟨rfl, hK⟩
    have VA2 := hidden (show IsVar w2 w.heap.size ⟨k, n, t⟩ from hK.heap VA1.out (fun h => h))
    have HK2 := hidden (HK1.out.trans hK (fun _ _ h => h))
    clear hK
    try clear a0 a1 a2 hz
    obtain ⟨a0, a1, a2, -⟩ := VA2.out.cells
    simp only at a0 a1 a2
    have hz := blk_lt VA2.out
    go_wp2_with fail
    exact hR.out _ _ ⟨rfl, HK2.out.toNew (fun _ h => h.elim)⟩
end Go.Proofs.Ytmjkglmkckofgaa
