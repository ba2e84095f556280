/- The walk of the statement ValueTexts. -/
import Derived.Test.YtmjkglmkckofgaaVal3
namespace Go.Proofs.Ytmjkglmkckofgaa
open Go.RowKit
set_option maxRecDepth 100000
theorem run_index_cell (W : World) {t e : TypeId} {n : Nat} {cs : Array Value} {k : IntKind} {i : Int} {v : Value} (h : Try.prog.underlying t = some (.array n e)) (h0 : 0 ≤ i) (h1 : i < n) (he : (Try.prog.info? e).isSome = true) (h2 : Try.prog.cellsOf e = 1) (hp : Try.prog.plainKey e = true) (hv : cs[i.toNat]? = some v) :
    (Instr.index t (.agg cs) (.int k i)).run Try.prog W = .ok v W := by
  have hi : 0 ≤ i ∧ i < (n : Int) := ⟨h0, h1⟩
  obtain ⟨ie, he⟩ := Option.isSome_iff_exists.1 he
  have hs : (sizeOf e).run Try.prog W = .ok 1 W := by rw [run_sizeOf W he, h2]
  have hpt := run_part_plain W hp hv
  simp [Instr.index, asIntOf, run_underlying h, hi, hs, hpt]
set_option maxHeartbeats 8000000 in
theorem valueTexts_walk (w : World) (v : V) (hv : -9223372036854775808 ≤ v.n ∧ v.n ≤ 9223372036854775807) :
    Calls Try.prog 4 #[v.val] w fun e w' => e = .returned (.bool true) ∧ Below w.heap.size w w' := by
  have kt := hidden (fun W => tells_true W)
  have kr := hidden (fun (W : World) (A : Option Addr) (hs : Vals W A [v]) => right_any W A 1 [v] hs (by simp))
  have hall : [v].all V.ok = v.ok := by simp
  rw [hall] at kr
  clear hall
  refine post_gen fun R hR => ?_
  cases hok : v.ok with
  | false =>
    rw [hok] at kr
    obtain ⟨k, n, t⟩ := v
    clear hok
    unfold V.val at *
    have VA := hidden (show IsVar (w.alloc (.cells #[.int .i64 k, .int .i64 n, .string t] 23)) w.heap.size ⟨k, n, t⟩ from blk_new w _)
    have HK0 := hidden (show Keeps (fun _ => False) w (w.alloc (.cells #[.int .i64 k, .int .i64 n, .string t] 23)) from (Keeps.refl _ w).alloc _)
    go_enter Try.func4, Try.ntmps4
    go_wp2_with fail
    refine (kt.out _).mono ?_
    rintro e w1 ⟨rfl, hK⟩
    have VA1 := hidden (show IsVar w1 w.heap.size ⟨k, n, t⟩ from hK.heap VA.out (fun h => h))
    have HK1 := hidden (HK0.out.trans hK (fun _ _ h => h))
    clear hK
    try clear a0 a1 a2 hz
    obtain ⟨a0, a1, a2, -⟩ := VA1.out.cells
    simp only at a0 a1 a2
    have hz := blk_lt VA1.out
    go_wp2_with fail
    refine (kr.out _ _ (Vals.lit w1 [⟨k, n, t⟩] _ rfl)).mono ?_
    rintro e w2 ⟨rfl, hK⟩
    have VA2 := hidden (show IsVar w2 w.heap.size ⟨k, n, t⟩ from hK.heap (blk_alloc VA1.out _) (fun h => h))
    have HK2 := hidden ((HK1.out.alloc _).trans hK (fun _ _ h => h))
    clear hK a0 a1 a2 hz VA1 HK1
    obtain ⟨a0, a1, a2, -⟩ := VA2.out.cells
    simp only at a0 a1 a2
    have hz := blk_lt VA2.out
    go_wp2_with fail
    exact hR.out _ _ ⟨rfl, HK2.out.toNew (fun _ h => h.elim)⟩
  | true =>
    rw [hok] at kr
    obtain ⟨sa, ka0, ka4, ta, na, ba, ra⟩ := ok_is hok
    clear hok
    obtain ⟨k, n, t⟩ := v
    simp only at *
    rcases (show k = 0 ∨ k = 1 ∨ k = 2 ∨ k = 3 ∨ k = 4 by omega) with rfl | rfl | rfl | rfl | rfl
    · have ht := ta (by decide)
      have hn := na (.inl rfl)
      subst ht
      subst hn
      clear ka0 ka4 ta na ba ra
      have c1 := hidden (fun W => value_Text ⟨0, 0, ⟨#[]⟩⟩ W (by decide))
      rw [show V.txt ⟨0, 0, ⟨#[]⟩⟩ = (⟨#[110, 117, 108, 108]⟩, 0) from rfl] at c1
      have c2 := hidden (fun W => value_Source ⟨0, 0, ⟨#[]⟩⟩ W (by decide) (show ByteArray.size ⟨#[]⟩ ≤ 17592186044416 by decide))
      rw [show V.src ⟨0, 0, ⟨#[]⟩⟩ = (⟨#[110, 117, 108, 108]⟩, 0) from rfl] at c2
      have c3 := hidden (fun W => value_Number ⟨0, 0, ⟨#[]⟩⟩ W (show ByteArray.size ⟨#[]⟩ ≤ 140737488351232 by decide))
      rw [show V.num ⟨0, 0, ⟨#[]⟩⟩ = (0, 30) from rfl] at c3
      unfold V.val at *
      have VA := hidden (show IsVar (w.alloc (.cells #[.int .i64 0, .int .i64 0, .string ⟨#[]⟩] 23)) w.heap.size ⟨0, 0, ⟨#[]⟩⟩ from blk_new w _)
      have HK0 := hidden (show Keeps (fun _ => False) w (w.alloc (.cells #[.int .i64 0, .int .i64 0, .string ⟨#[]⟩] 23)) from (Keeps.refl _ w).alloc _)
      go_enter Try.func4, Try.ntmps4
      go_wp2_with fail
      refine (kt.out _).mono ?_
      rintro e w1 ⟨rfl, hK⟩
      have VA1 := hidden (show IsVar w1 w.heap.size ⟨0, 0, ⟨#[]⟩⟩ from hK.heap VA.out (fun h => h))
      have HK1 := hidden (HK0.out.trans hK (fun _ _ h => h))
      clear hK
      try clear a0 a1 a2 hz
      obtain ⟨a0, a1, a2, -⟩ := VA1.out.cells
      simp only at a0 a1 a2
      have hz := blk_lt VA1.out
      go_wp2_with fail
      refine (kr.out _ _ (Vals.lit w1 [⟨0, 0, ⟨#[]⟩⟩] _ rfl)).mono ?_
      rintro e w2 ⟨rfl, hK⟩
      have VA2 := hidden (show IsVar w2 w.heap.size ⟨0, 0, ⟨#[]⟩⟩ from hK.heap (blk_alloc VA1.out _) (fun h => h))
      have HK2 := hidden ((HK1.out.alloc _).trans hK (fun _ _ h => h))
      clear hK a0 a1 a2 hz VA1 HK1
      obtain ⟨a0, a1, a2, -⟩ := VA2.out.cells
      simp only at a0 a1 a2
      have hz := blk_lt VA2.out
      go_wp2_with fail
      refine (c1.out _).mono ?_
      rintro e w3 ⟨rfl, hK⟩
      have VA3 := hidden (show IsVar w3 w.heap.size ⟨0, 0, ⟨#[]⟩⟩ from hK.heap VA2.out (fun h => h))
      have HK3 := hidden (HK2.out.trans hK (fun _ _ h => h))
      clear hK
      try clear a0 a1 a2 hz
      obtain ⟨a0, a1, a2, -⟩ := VA3.out.cells
      simp only at a0 a1 a2
      have hz := blk_lt VA3.out
      go_wp2_with fail
      refine (c2.out _).mono ?_
      rintro e w4 ⟨rfl, hK⟩
      have VA4 := hidden (show IsVar w4 w.heap.size ⟨0, 0, ⟨#[]⟩⟩ from hK.heap VA3.out (fun h => h))
      have HK4 := hidden (HK3.out.trans hK (fun _ _ h => h))
      clear hK
      try clear a0 a1 a2 hz
      obtain ⟨a0, a1, a2, -⟩ := VA4.out.cells
      simp only at a0 a1 a2
      have hz := blk_lt VA4.out
      go_wp2_with fail
      refine (c3.out _).mono ?_
      rintro e w5 ⟨rfl, hK⟩
      have VA5 := hidden (show IsVar w5 w.heap.size ⟨0, 0, ⟨#[]⟩⟩ from hK.heap VA4.out (fun h => h))
      have HK5 := hidden (HK4.out.trans hK (fun _ _ h => h))
      clear hK
      try clear a0 a1 a2 hz
      obtain ⟨a0, a1, a2, -⟩ := VA5.out.cells
      simp only at a0 a1 a2
      have hz := blk_lt VA5.out
      go_wp2_with fail
      exact hR.out _ _ ⟨rfl, HK5.out.toNew (fun _ h => h.elim)⟩
    · have ht := ta (by decide)
      have hn := ba rfl
      subst ht
      clear ka0 ka4 ta na ba ra
      rcases hn with hn | hn
      · subst hn
        have hix := fun W => run_index_cell W (t := 33) (e := 9) (n := 2) (cs := #[.string ⟨#[102, 97, 108, 115, 101]⟩, .string ⟨#[116, 114, 117, 101]⟩]) (k := .i64) (i := 0) (v := .string ⟨#[102, 97, 108, 115, 101]⟩) Try.underlying33 (by decide) (by decide) (by kernel_rfl) (by kernel_rfl) (by kernel_rfl) rfl
        have c1 := hidden (fun W => value_Text ⟨1, 0, ⟨#[]⟩⟩ W (by decide))
        rw [show V.txt ⟨1, 0, ⟨#[]⟩⟩ = (⟨#[102, 97, 108, 115, 101]⟩, 0) from rfl] at c1
        have c2 := hidden (fun W => value_Source ⟨1, 0, ⟨#[]⟩⟩ W (by decide) (show ByteArray.size ⟨#[]⟩ ≤ 17592186044416 by decide))
        rw [show V.src ⟨1, 0, ⟨#[]⟩⟩ = (⟨#[102, 97, 108, 115, 101]⟩, 0) from rfl] at c2
        have c3 := hidden (fun W => value_Number ⟨1, 0, ⟨#[]⟩⟩ W (show ByteArray.size ⟨#[]⟩ ≤ 140737488351232 by decide))
        rw [show V.num ⟨1, 0, ⟨#[]⟩⟩ = (0, 0) from rfl] at c3
        unfold V.val at *
        have VA := hidden (show IsVar (w.alloc (.cells #[.int .i64 1, .int .i64 0, .string ⟨#[]⟩] 23)) w.heap.size ⟨1, 0, ⟨#[]⟩⟩ from blk_new w _)
        have HK0 := hidden (show Keeps (fun _ => False) w (w.alloc (.cells #[.int .i64 1, .int .i64 0, .string ⟨#[]⟩] 23)) from (Keeps.refl _ w).alloc _)
        go_enter Try.func4, Try.ntmps4
        go_wp2_with fail
        refine (kt.out _).mono ?_
        rintro e w1 ⟨rfl, hK⟩
        have VA1 := hidden (show IsVar w1 w.heap.size ⟨1, 0, ⟨#[]⟩⟩ from hK.heap VA.out (fun h => h))
        have HK1 := hidden (HK0.out.trans hK (fun _ _ h => h))
        clear hK
        try clear a0 a1 a2 hz
        obtain ⟨a0, a1, a2, -⟩ := VA1.out.cells
        simp only at a0 a1 a2
        have hz := blk_lt VA1.out
        go_wp2_with fail
        refine (kr.out _ _ (Vals.lit w1 [⟨1, 0, ⟨#[]⟩⟩] _ rfl)).mono ?_
        rintro e w2 ⟨rfl, hK⟩
        have VA2 := hidden (show IsVar w2 w.heap.size ⟨1, 0, ⟨#[]⟩⟩ from hK.heap (blk_alloc VA1.out _) (fun h => h))
        have HK2 := hidden ((HK1.out.alloc _).trans hK (fun _ _ h => h))
        clear hK a0 a1 a2 hz VA1 HK1
        obtain ⟨a0, a1, a2, -⟩ := VA2.out.cells
        simp only at a0 a1 a2
        have hz := blk_lt VA2.out
        go_wp2_with fail
        refine (c1.out _).mono ?_
        rintro e w3 ⟨rfl, hK⟩
        have VA3 := hidden (show IsVar w3 w.heap.size ⟨1, 0, ⟨#[]⟩⟩ from hK.heap VA2.out (fun h => h))
        have HK3 := hidden (HK2.out.trans hK (fun _ _ h => h))
        clear hK
        try clear a0 a1 a2 hz
        obtain ⟨a0, a1, a2, -⟩ := VA3.out.cells
        simp only at a0 a1 a2
        have hz := blk_lt VA3.out
        go_wp2_with fail
        refine (c2.out _).mono ?_
        rintro e w4 ⟨rfl, hK⟩
        have VA4 := hidden (show IsVar w4 w.heap.size ⟨1, 0, ⟨#[]⟩⟩ from hK.heap VA3.out (fun h => h))
        have HK4 := hidden (HK3.out.trans hK (fun _ _ h => h))
        clear hK
        try clear a0 a1 a2 hz
        obtain ⟨a0, a1, a2, -⟩ := VA4.out.cells
        simp only at a0 a1 a2
        have hz := blk_lt VA4.out
        go_wp2_with fail
        refine (c3.out _).mono ?_
        rintro e w5 ⟨rfl, hK⟩
        have VA5 := hidden (show IsVar w5 w.heap.size ⟨1, 0, ⟨#[]⟩⟩ from hK.heap VA4.out (fun h => h))
        have HK5 := hidden (HK4.out.trans hK (fun _ _ h => h))
        clear hK
        try clear a0 a1 a2 hz
        obtain ⟨a0, a1, a2, -⟩ := VA5.out.cells
        simp only at a0 a1 a2
        have hz := blk_lt VA5.out
        go_wp2_with fail
        exact hR.out _ _ ⟨rfl, HK5.out.toNew (fun _ h => h.elim)⟩
      · subst hn
        have hix := fun W => run_index_cell W (t := 33) (e := 9) (n := 2) (cs := #[.string ⟨#[102, 97, 108, 115, 101]⟩, .string ⟨#[116, 114, 117, 101]⟩]) (k := .i64) (i := 1) (v := .string ⟨#[116, 114, 117, 101]⟩) Try.underlying33 (by decide) (by decide) (by kernel_rfl) (by kernel_rfl) (by kernel_rfl) rfl
        have c1 := hidden (fun W => value_Text ⟨1, 1, ⟨#[]⟩⟩ W (by decide))
        rw [show V.txt ⟨1, 1, ⟨#[]⟩⟩ = (⟨#[116, 114, 117, 101]⟩, 0) from rfl] at c1
        have c2 := hidden (fun W => value_Source ⟨1, 1, ⟨#[]⟩⟩ W (by decide) (show ByteArray.size ⟨#[]⟩ ≤ 17592186044416 by decide))
        rw [show V.src ⟨1, 1, ⟨#[]⟩⟩ = (⟨#[116, 114, 117, 101]⟩, 0) from rfl] at c2
        have c3 := hidden (fun W => value_Number ⟨1, 1, ⟨#[]⟩⟩ W (show ByteArray.size ⟨#[]⟩ ≤ 140737488351232 by decide))
        rw [show V.num ⟨1, 1, ⟨#[]⟩⟩ = (1, 0) from rfl] at c3
        unfold V.val at *
        have VA := hidden (show IsVar (w.alloc (.cells #[.int .i64 1, .int .i64 1, .string ⟨#[]⟩] 23)) w.heap.size ⟨1, 1, ⟨#[]⟩⟩ from blk_new w _)
        have HK0 := hidden (show Keeps (fun _ => False) w (w.alloc (.cells #[.int .i64 1, .int .i64 1, .string ⟨#[]⟩] 23)) from (Keeps.refl _ w).alloc _)
        go_enter Try.func4, Try.ntmps4
        go_wp2_with fail
        refine (kt.out _).mono ?_
        rintro e w1 ⟨rfl, hK⟩
        have VA1 := hidden (show IsVar w1 w.heap.size ⟨1, 1, ⟨#[]⟩⟩ from hK.heap VA.out (fun h => h))
        have HK1 := hidden (HK0.out.trans hK (fun _ _ h => h))
        clear hK
        try clear a0 a1 a2 hz
        obtain ⟨a0, a1, a2, -⟩ := VA1.out.cells
        simp only at a0 a1 a2
        have hz := blk_lt VA1.out
        go_wp2_with fail
        refine (kr.out _ _ (Vals.lit w1 [⟨1, 1, ⟨#[]⟩⟩] _ rfl)).mono ?_
        rintro e w2 ⟨rfl, hK⟩
        have VA2 := hidden (show IsVar w2 w.heap.size ⟨1, 1, ⟨#[]⟩⟩ from hK.heap (blk_alloc VA1.out _) (fun h => h))
        have HK2 := hidden ((HK1.out.alloc _).trans hK (fun _ _ h => h))
        clear hK a0 a1 a2 hz VA1 HK1
        obtain ⟨a0, a1, a2, -⟩ := VA2.out.cells
        simp only at a0 a1 a2
        have hz := blk_lt VA2.out
        go_wp2_with fail
        refine (c1.out _).mono ?_
        rintro e w3 ⟨rfl, hK⟩
        have VA3 := hidden (show IsVar w3 w.heap.size ⟨1, 1, ⟨#[]⟩⟩ from hK.heap VA2.out (fun h => h))
        have HK3 := hidden (HK2.out.trans hK (fun _ _ h => h))
        clear hK
        try clear a0 a1 a2 hz
        obtain ⟨a0, a1, a2, -⟩ := VA3.out.cells
        simp only at a0 a1 a2
        have hz := blk_lt VA3.out
        go_wp2_with fail
        refine (c2.out _).mono ?_
        rintro e w4 ⟨rfl, hK⟩
        have VA4 := hidden (show IsVar w4 w.heap.size ⟨1, 1, ⟨#[]⟩⟩ from hK.heap VA3.out (fun h => h))
        have HK4 := hidden (HK3.out.trans hK (fun _ _ h => h))
        clear hK
        try clear a0 a1 a2 hz
        obtain ⟨a0, a1, a2, -⟩ := VA4.out.cells
        simp only at a0 a1 a2
        have hz := blk_lt VA4.out
        go_wp2_with fail
        refine (c3.out _).mono ?_
        rintro e w5 ⟨rfl, hK⟩
        have VA5 := hidden (show IsVar w5 w.heap.size ⟨1, 1, ⟨#[]⟩⟩ from hK.heap VA4.out (fun h => h))
        have HK5 := hidden (HK4.out.trans hK (fun _ _ h => h))
        clear hK
        try clear a0 a1 a2 hz
        obtain ⟨a0, a1, a2, -⟩ := VA5.out.cells
        simp only at a0 a1 a2
        have hz := blk_lt VA5.out
        go_wp2_with fail
        exact hR.out _ _ ⟨rfl, HK5.out.toNew (fun _ h => h.elim)⟩
    · have ht := ta (by decide)
      subst ht
      clear ka0 ka4 ta na ba ra
      have hl := textI_len n hv.1 hv.2
      have hl2 : (mkS (textI n)).size ≤ 1000 := by rw [mkS_size]; omega
      have hnum : V.num ⟨3, 0, mkS (textI n)⟩ = (n, 0) := by
        have h := lead_text n hv.1 hv.2
        have h2 := dec_ne n.natAbs []
        have h3 : (textI n).length ≠ 0 := by
          unfold textI
          split
          · simp
          · intro h4; exact h2 (List.eq_nil_of_length_eq_zero h4)
        unfold V.num
        rw [if_neg (by simp), if_pos rfl]
        show (if (leadL (textI n)).2 = 0 ∨ (leadL (textI n)).2 ≠ (mkS (textI n)).size then ((0, 5) : Int × Int) else ((leadL (textI n)).1, 0)) = _
        rw [h, mkS_size, if_neg (by simp only; omega)]
      have c6 := hidden (fun W => value_Number ⟨3, 0, mkS (textI n)⟩ W (Nat.le_trans hl2 (by decide)))
      rw [hnum] at c6
      have c4 := hidden (fun W => num_Text n W hv.1 hv.2)
      have c5 := hidden (fun (s : ByteArray) W => value_Str s W)
      clear hnum hl hl2
      have c1 := hidden (fun W => value_Text ⟨2, n, ⟨#[]⟩⟩ W (hv))
      rw [show V.txt ⟨2, n, ⟨#[]⟩⟩ = (mkS (textI n), 0) from rfl] at c1
      have c2 := hidden (fun W => value_Source ⟨2, n, ⟨#[]⟩⟩ W (hv) (show ByteArray.size ⟨#[]⟩ ≤ 17592186044416 by decide))
      rw [show V.src ⟨2, n, ⟨#[]⟩⟩ = (mkS (textI n), 0) from rfl] at c2
      have c3 := hidden (fun W => value_Number ⟨2, n, ⟨#[]⟩⟩ W (show ByteArray.size ⟨#[]⟩ ≤ 140737488351232 by decide))
      rw [show V.num ⟨2, n, ⟨#[]⟩⟩ = (n, 0) from rfl] at c3
      generalize mkS (textI n) = s at *
      unfold V.val at *
      have VA := hidden (show IsVar (w.alloc (.cells #[.int .i64 2, .int .i64 n, .string ⟨#[]⟩] 23)) w.heap.size ⟨2, n, ⟨#[]⟩⟩ from blk_new w _)
      have HK0 := hidden (show Keeps (fun _ => False) w (w.alloc (.cells #[.int .i64 2, .int .i64 n, .string ⟨#[]⟩] 23)) from (Keeps.refl _ w).alloc _)
      go_enter Try.func4, Try.ntmps4
      go_wp2_with fail
      refine (kt.out _).mono ?_
      rintro e w1 ⟨rfl, hK⟩
      have VA1 := hidden (show IsVar w1 w.heap.size ⟨2, n, ⟨#[]⟩⟩ from hK.heap VA.out (fun h => h))
      have HK1 := hidden (HK0.out.trans hK (fun _ _ h => h))
      clear hK
      try clear a0 a1 a2 hz
      obtain ⟨a0, a1, a2, -⟩ := VA1.out.cells
      simp only at a0 a1 a2
      have hz := blk_lt VA1.out
      go_wp2_with fail
      refine (kr.out _ _ (Vals.lit w1 [⟨2, n, ⟨#[]⟩⟩] _ rfl)).mono ?_
      rintro e w2 ⟨rfl, hK⟩
      have VA2 := hidden (show IsVar w2 w.heap.size ⟨2, n, ⟨#[]⟩⟩ from hK.heap (blk_alloc VA1.out _) (fun h => h))
      have HK2 := hidden ((HK1.out.alloc _).trans hK (fun _ _ h => h))
      clear hK a0 a1 a2 hz VA1 HK1
      obtain ⟨a0, a1, a2, -⟩ := VA2.out.cells
      simp only at a0 a1 a2
      have hz := blk_lt VA2.out
      go_wp2_with fail
      refine (c1.out _).mono ?_
      rintro e w3 ⟨rfl, hK⟩
      have VA3 := hidden (show IsVar w3 w.heap.size ⟨2, n, ⟨#[]⟩⟩ from hK.heap VA2.out (fun h => h))
      have HK3 := hidden (HK2.out.trans hK (fun _ _ h => h))
      clear hK
      try clear a0 a1 a2 hz
      obtain ⟨a0, a1, a2, -⟩ := VA3.out.cells
      simp only at a0 a1 a2
      have hz := blk_lt VA3.out
      go_wp2_with fail
      refine (c2.out _).mono ?_
      rintro e w4 ⟨rfl, hK⟩
      have VA4 := hidden (show IsVar w4 w.heap.size ⟨2, n, ⟨#[]⟩⟩ from hK.heap VA3.out (fun h => h))
      have HK4 := hidden (HK3.out.trans hK (fun _ _ h => h))
      clear hK
      try clear a0 a1 a2 hz
      obtain ⟨a0, a1, a2, -⟩ := VA4.out.cells
      simp only at a0 a1 a2
      have hz := blk_lt VA4.out
      go_wp2_with fail
      refine (c4.out _).mono ?_
      rintro e w5 ⟨rfl, hK⟩
      have VA5 := hidden (show IsVar w5 w.heap.size ⟨2, n, ⟨#[]⟩⟩ from hK.heap VA4.out (fun h => h))
      have HK5 := hidden (HK4.out.trans hK (fun _ _ h => h))
      clear hK
      try clear a0 a1 a2 hz
      obtain ⟨a0, a1, a2, -⟩ := VA5.out.cells
      simp only at a0 a1 a2
      have hz := blk_lt VA5.out
      go_wp2_with fail
      refine (c3.out _).mono ?_
      rintro e w6 ⟨rfl, hK⟩
      have VA6 := hidden (show IsVar w6 w.heap.size ⟨2, n, ⟨#[]⟩⟩ from hK.heap VA5.out (fun h => h))
      have HK6 := hidden (HK5.out.trans hK (fun _ _ h => h))
      clear hK
      try clear a0 a1 a2 hz
      obtain ⟨a0, a1, a2, -⟩ := VA6.out.cells
      simp only at a0 a1 a2
      have hz := blk_lt VA6.out
      go_wp2_with fail
      refine (c5.out _ _).mono ?_
      rintro e w7 ⟨rfl, hK⟩
      have VA7 := hidden (show IsVar w7 w.heap.size ⟨2, n, ⟨#[]⟩⟩ from hK.heap VA6.out (fun h => h))
      have HK7 := hidden (HK6.out.trans hK (fun _ _ h => h))
      clear hK
      try clear a0 a1 a2 hz
      obtain ⟨a0, a1, a2, -⟩ := VA7.out.cells
      simp only at a0 a1 a2
      have hz := blk_lt VA7.out
      go_wp2_with fail
      refine (c6.out _).mono ?_
      rintro e w8 ⟨rfl, hK⟩
      have VA8 := hidden (show IsVar w8 w.heap.size ⟨2, n, ⟨#[]⟩⟩ from hK.heap VA7.out (fun h => h))
      have HK8 := hidden (HK7.out.trans hK (fun _ _ h => h))
      clear hK
      try clear a0 a1 a2 hz
      obtain ⟨a0, a1, a2, -⟩ := VA8.out.cells
      simp only at a0 a1 a2
      have hz := blk_lt VA8.out
      go_wp2_with fail
      exact hR.out _ _ ⟨rfl, HK8.out.toNew (fun _ h => h.elim)⟩
    · have hn := na (.inr rfl)
      subst hn
      clear ka0 ka4 ta na ba ra
      have c4 := hidden (fun W => str_Quote t W (Nat.le_trans sa (by decide)))
      have c5 := hidden (fun W => num_Leading t W (Nat.le_trans sa (by decide)))
      have hnum : V.num ⟨3, 0, t⟩ = if (leadL t.data.toList).2 = 0 ∨ (leadL t.data.toList).2 ≠ t.size then (0, 5) else ((leadL t.data.toList).1, 0) := rfl
      have hle : t.data.toList = [] → (leadL t.data.toList).2 = 0 := fun h => by rw [h]; rfl
      generalize leadL t.data.toList = x at *
      obtain ⟨x1, x2⟩ := x
      simp only at hnum hle c5
      by_cases he : t.toList = []
      · have hx2 : x2 = 0 := hle (by rw [← Lib.toList_data]; exact he)
        subst hx2
        have f1 : (t.toList == []) = true := by simpa using he
        have f2 : (t.toList != []) = false := by simpa using he
        have f3 : t.toList.isEmpty = true := by simpa using he
        have f4 : (!t.toList.isEmpty) = false := by simpa using he
        have c1 := hidden (fun W => value_Text ⟨3, 0, t⟩ W (hv))
        rw [show V.txt ⟨3, 0, t⟩ = (t, 0) from rfl] at c1
        have c2 := hidden (fun W => value_Source ⟨3, 0, t⟩ W (hv) (Nat.le_trans sa (by decide)))
        rw [show V.src ⟨3, 0, t⟩ = (mkS (quoteL t.data.toList), 0) from rfl] at c2
        have c3 := hidden (fun W => value_Number ⟨3, 0, t⟩ W (Nat.le_trans sa (by decide)))
        rw [show V.num ⟨3, 0, t⟩ = (0, 5) from by rw [hnum, if_pos (.inl rfl)]] at c3
        generalize mkS (quoteL t.data.toList) = q at *
        clear hnum hle
        unfold V.val at *
        have VA := hidden (show IsVar (w.alloc (.cells #[.int .i64 3, .int .i64 0, .string t] 23)) w.heap.size ⟨3, 0, t⟩ from blk_new w _)
        have HK0 := hidden (show Keeps (fun _ => False) w (w.alloc (.cells #[.int .i64 3, .int .i64 0, .string t] 23)) from (Keeps.refl _ w).alloc _)
        go_enter Try.func4, Try.ntmps4
        go_wp2_with fail
        refine (kt.out _).mono ?_
        rintro e w1 ⟨rfl, hK⟩
        have VA1 := hidden (show IsVar w1 w.heap.size ⟨3, 0, t⟩ from hK.heap VA.out (fun h => h))
        have HK1 := hidden (HK0.out.trans hK (fun _ _ h => h))
        clear hK
        try clear a0 a1 a2 hz
        obtain ⟨a0, a1, a2, -⟩ := VA1.out.cells
        simp only at a0 a1 a2
        have hz := blk_lt VA1.out
        go_wp2_with fail
        refine (kr.out _ _ (Vals.lit w1 [⟨3, 0, t⟩] _ rfl)).mono ?_
        rintro e w2 ⟨rfl, hK⟩
        have VA2 := hidden (show IsVar w2 w.heap.size ⟨3, 0, t⟩ from hK.heap (blk_alloc VA1.out _) (fun h => h))
        have HK2 := hidden ((HK1.out.alloc _).trans hK (fun _ _ h => h))
        clear hK a0 a1 a2 hz VA1 HK1
        obtain ⟨a0, a1, a2, -⟩ := VA2.out.cells
        simp only at a0 a1 a2
        have hz := blk_lt VA2.out
        go_wp2_with fail
        refine (c1.out _).mono ?_
        rintro e w3 ⟨rfl, hK⟩
        have VA3 := hidden (show IsVar w3 w.heap.size ⟨3, 0, t⟩ from hK.heap VA2.out (fun h => h))
        have HK3 := hidden (HK2.out.trans hK (fun _ _ h => h))
        clear hK
        try clear a0 a1 a2 hz
        obtain ⟨a0, a1, a2, -⟩ := VA3.out.cells
        simp only at a0 a1 a2
        have hz := blk_lt VA3.out
        go_wp2_with fail
        refine (c2.out _).mono ?_
        rintro e w4 ⟨rfl, hK⟩
        have VA4 := hidden (show IsVar w4 w.heap.size ⟨3, 0, t⟩ from hK.heap VA3.out (fun h => h))
        have HK4 := hidden (HK3.out.trans hK (fun _ _ h => h))
        clear hK
        try clear a0 a1 a2 hz
        obtain ⟨a0, a1, a2, -⟩ := VA4.out.cells
        simp only at a0 a1 a2
        have hz := blk_lt VA4.out
        go_wp2_with fail
        refine (c4.out _).mono ?_
        rintro e w5 ⟨rfl, hK⟩
        have VA5 := hidden (show IsVar w5 w.heap.size ⟨3, 0, t⟩ from hK.heap VA4.out (fun h => h))
        have HK5 := hidden (HK4.out.trans hK (fun _ _ h => h))
        clear hK
        try clear a0 a1 a2 hz
        obtain ⟨a0, a1, a2, -⟩ := VA5.out.cells
        simp only at a0 a1 a2
        have hz := blk_lt VA5.out
        go_wp2_with fail
        refine (c3.out _).mono ?_
        rintro e w6 ⟨rfl, hK⟩
        have VA6 := hidden (show IsVar w6 w.heap.size ⟨3, 0, t⟩ from hK.heap VA5.out (fun h => h))
        have HK6 := hidden (HK5.out.trans hK (fun _ _ h => h))
        clear hK
        try clear a0 a1 a2 hz
        obtain ⟨a0, a1, a2, -⟩ := VA6.out.cells
        simp only at a0 a1 a2
        have hz := blk_lt VA6.out
        go_wp2_with fail
        refine (c5.out _).mono ?_
        rintro e w7 ⟨rfl, rfl⟩
        go_wp2_with fail
        exact hR.out _ _ ⟨rfl, HK6.out.toNew (fun _ h => h.elim)⟩
      have f1 : (t.toList == []) = false := by simpa using he
      have f2 : (t.toList != []) = true := by simpa using he
      have f3 : t.toList.isEmpty = false := by simpa using he
      have f4 : (!t.toList.isEmpty) = true := by simpa using he
      by_cases hz0 : x2 = t.size
      · by_cases hz1 : x2 = 0
        · exfalso
          apply he
          rw [Lib.toList_data]
          exact List.eq_nil_of_length_eq_zero (by have : t.data.toList.length = t.size := rfl; omega)
        · subst hz0
          have g1 : ((t.size : Int) == t.size) = true := by simp
          have g2 : ((t.size : Int) != t.size) = false := by simp
          have c1 := hidden (fun W => value_Text ⟨3, 0, t⟩ W (hv))
          rw [show V.txt ⟨3, 0, t⟩ = (t, 0) from rfl] at c1
          have c2 := hidden (fun W => value_Source ⟨3, 0, t⟩ W (hv) (Nat.le_trans sa (by decide)))
          rw [show V.src ⟨3, 0, t⟩ = (mkS (quoteL t.data.toList), 0) from rfl] at c2
          have c3 := hidden (fun W => value_Number ⟨3, 0, t⟩ W (Nat.le_trans sa (by decide)))
          rw [show V.num ⟨3, 0, t⟩ = (x1, 0) from by rw [hnum, if_neg (by omega)]] at c3
          generalize mkS (quoteL t.data.toList) = q at *
          clear hnum hle
          unfold V.val at *
          have VA := hidden (show IsVar (w.alloc (.cells #[.int .i64 3, .int .i64 0, .string t] 23)) w.heap.size ⟨3, 0, t⟩ from blk_new w _)
          have HK0 := hidden (show Keeps (fun _ => False) w (w.alloc (.cells #[.int .i64 3, .int .i64 0, .string t] 23)) from (Keeps.refl _ w).alloc _)
          go_enter Try.func4, Try.ntmps4
          go_wp2_with fail
          refine (kt.out _).mono ?_
          rintro e w1 ⟨rfl, hK⟩
          have VA1 := hidden (show IsVar w1 w.heap.size ⟨3, 0, t⟩ from hK.heap VA.out (fun h => h))
          have HK1 := hidden (HK0.out.trans hK (fun _ _ h => h))
          clear hK
          try clear a0 a1 a2 hz
          obtain ⟨a0, a1, a2, -⟩ := VA1.out.cells
          simp only at a0 a1 a2
          have hz := blk_lt VA1.out
          go_wp2_with fail
          refine (kr.out _ _ (Vals.lit w1 [⟨3, 0, t⟩] _ rfl)).mono ?_
          rintro e w2 ⟨rfl, hK⟩
          have VA2 := hidden (show IsVar w2 w.heap.size ⟨3, 0, t⟩ from hK.heap (blk_alloc VA1.out _) (fun h => h))
          have HK2 := hidden ((HK1.out.alloc _).trans hK (fun _ _ h => h))
          clear hK a0 a1 a2 hz VA1 HK1
          obtain ⟨a0, a1, a2, -⟩ := VA2.out.cells
          simp only at a0 a1 a2
          have hz := blk_lt VA2.out
          go_wp2_with fail
          refine (c1.out _).mono ?_
          rintro e w3 ⟨rfl, hK⟩
          have VA3 := hidden (show IsVar w3 w.heap.size ⟨3, 0, t⟩ from hK.heap VA2.out (fun h => h))
          have HK3 := hidden (HK2.out.trans hK (fun _ _ h => h))
          clear hK
          try clear a0 a1 a2 hz
          obtain ⟨a0, a1, a2, -⟩ := VA3.out.cells
          simp only at a0 a1 a2
          have hz := blk_lt VA3.out
          go_wp2_with fail
          refine (c2.out _).mono ?_
          rintro e w4 ⟨rfl, hK⟩
          have VA4 := hidden (show IsVar w4 w.heap.size ⟨3, 0, t⟩ from hK.heap VA3.out (fun h => h))
          have HK4 := hidden (HK3.out.trans hK (fun _ _ h => h))
          clear hK
          try clear a0 a1 a2 hz
          obtain ⟨a0, a1, a2, -⟩ := VA4.out.cells
          simp only at a0 a1 a2
          have hz := blk_lt VA4.out
          go_wp2_with fail
          refine (c4.out _).mono ?_
          rintro e w5 ⟨rfl, hK⟩
          have VA5 := hidden (show IsVar w5 w.heap.size ⟨3, 0, t⟩ from hK.heap VA4.out (fun h => h))
          have HK5 := hidden (HK4.out.trans hK (fun _ _ h => h))
          clear hK
          try clear a0 a1 a2 hz
          obtain ⟨a0, a1, a2, -⟩ := VA5.out.cells
          simp only at a0 a1 a2
          have hz := blk_lt VA5.out
          go_wp2_with fail
          refine (c3.out _).mono ?_
          rintro e w6 ⟨rfl, hK⟩
          have VA6 := hidden (show IsVar w6 w.heap.size ⟨3, 0, t⟩ from hK.heap VA5.out (fun h => h))
          have HK6 := hidden (HK5.out.trans hK (fun _ _ h => h))
          clear hK
          try clear a0 a1 a2 hz
          obtain ⟨a0, a1, a2, -⟩ := VA6.out.cells
          simp only at a0 a1 a2
          have hz := blk_lt VA6.out
          go_wp2_with fail
          refine (c5.out _).mono ?_
          rintro e w7 ⟨rfl, rfl⟩
          go_wp2_with fail
          exact hR.out _ _ ⟨rfl, HK6.out.toNew (fun _ h => h.elim)⟩
      · have g1 : ((x2 : Int) == t.size) = false := by simp; omega
        have g2 : ((x2 : Int) != t.size) = true := by simp; omega
        have c1 := hidden (fun W => value_Text ⟨3, 0, t⟩ W (hv))
        rw [show V.txt ⟨3, 0, t⟩ = (t, 0) from rfl] at c1
        have c2 := hidden (fun W => value_Source ⟨3, 0, t⟩ W (hv) (Nat.le_trans sa (by decide)))
        rw [show V.src ⟨3, 0, t⟩ = (mkS (quoteL t.data.toList), 0) from rfl] at c2
        have c3 := hidden (fun W => value_Number ⟨3, 0, t⟩ W (Nat.le_trans sa (by decide)))
        rw [show V.num ⟨3, 0, t⟩ = (0, 5) from by rw [hnum, if_pos (by omega)]] at c3
        generalize mkS (quoteL t.data.toList) = q at *
        clear hnum hle
        unfold V.val at *
        have VA := hidden (show IsVar (w.alloc (.cells #[.int .i64 3, .int .i64 0, .string t] 23)) w.heap.size ⟨3, 0, t⟩ from blk_new w _)
        have HK0 := hidden (show Keeps (fun _ => False) w (w.alloc (.cells #[.int .i64 3, .int .i64 0, .string t] 23)) from (Keeps.refl _ w).alloc _)
        go_enter Try.func4, Try.ntmps4
        go_wp2_with fail
        refine (kt.out _).mono ?_
        rintro e w1 ⟨rfl, hK⟩
        have VA1 := hidden (show IsVar w1 w.heap.size ⟨3, 0, t⟩ from hK.heap VA.out (fun h => h))
        have HK1 := hidden (HK0.out.trans hK (fun _ _ h => h))
        clear hK
        try clear a0 a1 a2 hz
        obtain ⟨a0, a1, a2, -⟩ := VA1.out.cells
        simp only at a0 a1 a2
        have hz := blk_lt VA1.out
        go_wp2_with fail
        refine (kr.out _ _ (Vals.lit w1 [⟨3, 0, t⟩] _ rfl)).mono ?_
        rintro e w2 ⟨rfl, hK⟩
        have VA2 := hidden (show IsVar w2 w.heap.size ⟨3, 0, t⟩ from hK.heap (blk_alloc VA1.out _) (fun h => h))
        have HK2 := hidden ((HK1.out.alloc _).trans hK (fun _ _ h => h))
        clear hK a0 a1 a2 hz VA1 HK1
        obtain ⟨a0, a1, a2, -⟩ := VA2.out.cells
        simp only at a0 a1 a2
        have hz := blk_lt VA2.out
        go_wp2_with fail
        refine (c1.out _).mono ?_
        rintro e w3 ⟨rfl, hK⟩
        have VA3 := hidden (show IsVar w3 w.heap.size ⟨3, 0, t⟩ from hK.heap VA2.out (fun h => h))
        have HK3 := hidden (HK2.out.trans hK (fun _ _ h => h))
        clear hK
        try clear a0 a1 a2 hz
        obtain ⟨a0, a1, a2, -⟩ := VA3.out.cells
        simp only at a0 a1 a2
        have hz := blk_lt VA3.out
        go_wp2_with fail
        refine (c2.out _).mono ?_
        rintro e w4 ⟨rfl, hK⟩
        have VA4 := hidden (show IsVar w4 w.heap.size ⟨3, 0, t⟩ from hK.heap VA3.out (fun h => h))
        have HK4 := hidden (HK3.out.trans hK (fun _ _ h => h))
        clear hK
        try clear a0 a1 a2 hz
        obtain ⟨a0, a1, a2, -⟩ := VA4.out.cells
        simp only at a0 a1 a2
        have hz := blk_lt VA4.out
        go_wp2_with fail
        refine (c4.out _).mono ?_
        rintro e w5 ⟨rfl, hK⟩
        have VA5 := hidden (show IsVar w5 w.heap.size ⟨3, 0, t⟩ from hK.heap VA4.out (fun h => h))
        have HK5 := hidden (HK4.out.trans hK (fun _ _ h => h))
        clear hK
        try clear a0 a1 a2 hz
        obtain ⟨a0, a1, a2, -⟩ := VA5.out.cells
        simp only at a0 a1 a2
        have hz := blk_lt VA5.out
        go_wp2_with fail
        refine (c3.out _).mono ?_
        rintro e w6 ⟨rfl, hK⟩
        have VA6 := hidden (show IsVar w6 w.heap.size ⟨3, 0, t⟩ from hK.heap VA5.out (fun h => h))
        have HK6 := hidden (HK5.out.trans hK (fun _ _ h => h))
        clear hK
        try clear a0 a1 a2 hz
        obtain ⟨a0, a1, a2, -⟩ := VA6.out.cells
        simp only at a0 a1 a2
        have hz := blk_lt VA6.out
        go_wp2_with fail
        refine (c5.out _).mono ?_
        rintro e w7 ⟨rfl, rfl⟩
        go_wp2_with fail
        exact hR.out _ _ ⟨rfl, HK6.out.toNew (fun _ h => h.elim)⟩
    · have ht := ta (by decide)
      subst ht
      clear ka0 ka4 ta na ba ra
      have c1 := hidden (fun W => value_Text ⟨4, n, ⟨#[]⟩⟩ W (hv))
      rw [show V.txt ⟨4, n, ⟨#[]⟩⟩ = (⟨#[]⟩, 30) from rfl] at c1
      have c2 := hidden (fun W => value_Source ⟨4, n, ⟨#[]⟩⟩ W (hv) (show ByteArray.size ⟨#[]⟩ ≤ 17592186044416 by decide))
      rw [show V.src ⟨4, n, ⟨#[]⟩⟩ = (⟨#[]⟩, 30) from rfl] at c2
      have c3 := hidden (fun W => value_Number ⟨4, n, ⟨#[]⟩⟩ W (show ByteArray.size ⟨#[]⟩ ≤ 140737488351232 by decide))
      rw [show V.num ⟨4, n, ⟨#[]⟩⟩ = (0, 30) from rfl] at c3
      unfold V.val at *
      have VA := hidden (show IsVar (w.alloc (.cells #[.int .i64 4, .int .i64 n, .string ⟨#[]⟩] 23)) w.heap.size ⟨4, n, ⟨#[]⟩⟩ from blk_new w _)
      have HK0 := hidden (show Keeps (fun _ => False) w (w.alloc (.cells #[.int .i64 4, .int .i64 n, .string ⟨#[]⟩] 23)) from (Keeps.refl _ w).alloc _)
      go_enter Try.func4, Try.ntmps4
      go_wp2_with fail
      refine (kt.out _).mono ?_
      rintro e w1 ⟨rfl, hK⟩
      have VA1 := hidden (show IsVar w1 w.heap.size ⟨4, n, ⟨#[]⟩⟩ from hK.heap VA.out (fun h => h))
      have HK1 := hidden (HK0.out.trans hK (fun _ _ h => h))
      clear hK
      try clear a0 a1 a2 hz
      obtain ⟨a0, a1, a2, -⟩ := VA1.out.cells
      simp only at a0 a1 a2
      have hz := blk_lt VA1.out
      go_wp2_with fail
      refine (kr.out _ _ (Vals.lit w1 [⟨4, n, ⟨#[]⟩⟩] _ rfl)).mono ?_
      rintro e w2 ⟨rfl, hK⟩
      have VA2 := hidden (show IsVar w2 w.heap.size ⟨4, n, ⟨#[]⟩⟩ from hK.heap (blk_alloc VA1.out _) (fun h => h))
      have HK2 := hidden ((HK1.out.alloc _).trans hK (fun _ _ h => h))
      clear hK a0 a1 a2 hz VA1 HK1
      obtain ⟨a0, a1, a2, -⟩ := VA2.out.cells
      simp only at a0 a1 a2
      have hz := blk_lt VA2.out
      go_wp2_with fail
      refine (c1.out _).mono ?_
      rintro e w3 ⟨rfl, hK⟩
      have VA3 := hidden (show IsVar w3 w.heap.size ⟨4, n, ⟨#[]⟩⟩ from hK.heap VA2.out (fun h => h))
      have HK3 := hidden (HK2.out.trans hK (fun _ _ h => h))
      clear hK
      try clear a0 a1 a2 hz
      obtain ⟨a0, a1, a2, -⟩ := VA3.out.cells
      simp only at a0 a1 a2
      have hz := blk_lt VA3.out
      go_wp2_with fail
      refine (c2.out _).mono ?_
      rintro e w4 ⟨rfl, hK⟩
      have VA4 := hidden (show IsVar w4 w.heap.size ⟨4, n, ⟨#[]⟩⟩ from hK.heap VA3.out (fun h => h))
      have HK4 := hidden (HK3.out.trans hK (fun _ _ h => h))
      clear hK
      try clear a0 a1 a2 hz
      obtain ⟨a0, a1, a2, -⟩ := VA4.out.cells
      simp only at a0 a1 a2
      have hz := blk_lt VA4.out
      go_wp2_with fail
      exact hR.out _ _ ⟨rfl, HK4.out.toNew (fun _ h => h.elim)⟩
end Go.Proofs.Ytmjkglmkckofgaa
