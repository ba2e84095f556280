/- Texts that belong together: SlotF SlotG SameV SlotD SlotN SlotN8 HeapS Walk SlotP Walk2. -/
import Derived.Test.YtfdfjogoiagnkaaZp1
set_option linter.unusedSimpArgs false
set_option linter.unusedVariables false
namespace Go.Proofs.Ytfdfjogoiagnkaa
open Go.RowKit
set_option maxRecDepth 100000

theorem slot_octet_low (w : World) (s : ByteArray) (kn : Int) (kt : ByteArray) (hn : kn < 0) :
    Calls Try.prog 68 #[.string s, V.val ⟨2, kn, kt⟩] w fun e w' => e = .returned (.tuple #[V.val ⟨0, 0, ⟨#[]⟩⟩, .int .i64 1]) ∧ Keeps (fun _ => False) w w' := by
  have CN := hidden (fun (W : World) => value_Null W)
  have CI := hidden (fun (W : World) (n : Int) => value_Int n W)
  unfold V.val at CN CI
  unfold V.null at CN
  refine post_gen fun R hR => ?_
  unfold V.val
  go_enter Try.func68, Try.ntmps68
  go_wp2_with fail
  refine (CN.out _).mono ?_
  rintro e w1 ⟨rfl, hK⟩
  have HR := hidden (show IsVar w1 (w.heap.size + 1) V.null from hK.heap (var2 w _ V.null) (fun h => h))
  have HM := hidden ((((Keeps.refl (fun _ => False) w).alloc _).alloc _).trans hK (fun _ _ h => h))
  clear hK
  obtain ⟨v0, v1, v2, v3, v4, v5⟩ := HR.out.cells
  have hvz := blk_lt HR.out
  simp only [V.null] at v0 v1 v2
  go_wp2_with fail
  obtain ⟨d0, d1, d2, _⟩ := (HR.out.set ⟨0, 0, ⟨#[]⟩⟩).cells
  simp only at d0 d1 d2
  exact bodyPost_ret (v := .tuple #[V.val ⟨0, 0, ⟨#[]⟩⟩, .int .i64 1]) (by simp [results, Try.results68, go_sem, d0, d1, d2, V.val]) rfl (hR.out _ _ ⟨rfl, HM.out.var (r := w.heap.size + 1) (fun h => by omega) _ _ _⟩)

theorem slot_octet_high (w : World) (s : ByteArray) (kn : Int) (kt : ByteArray) (h0 : ¬ kn < 0) (hn : (s.size : Int) ≤ kn) :
    Calls Try.prog 68 #[.string s, V.val ⟨2, kn, kt⟩] w fun e w' => e = .returned (.tuple #[V.val ⟨0, 0, ⟨#[]⟩⟩, .int .i64 1]) ∧ Keeps (fun _ => False) w w' := by
  have CN := hidden (fun (W : World) => value_Null W)
  have CI := hidden (fun (W : World) (n : Int) => value_Int n W)
  unfold V.val at CN CI
  unfold V.null at CN
  refine post_gen fun R hR => ?_
  unfold V.val
  go_enter Try.func68, Try.ntmps68
  go_wp2_with fail
  refine (CN.out _).mono ?_
  rintro e w1 ⟨rfl, hK⟩
  have HR := hidden (show IsVar w1 (w.heap.size + 1) V.null from hK.heap (var2 w _ V.null) (fun h => h))
  have HM := hidden ((((Keeps.refl (fun _ => False) w).alloc _).alloc _).trans hK (fun _ _ h => h))
  clear hK
  obtain ⟨v0, v1, v2, v3, v4, v5⟩ := HR.out.cells
  have hvz := blk_lt HR.out
  simp only [V.null] at v0 v1 v2
  go_wp2_with fail
  obtain ⟨d0, d1, d2, _⟩ := (HR.out.set ⟨0, 0, ⟨#[]⟩⟩).cells
  simp only at d0 d1 d2
  exact bodyPost_ret (v := .tuple #[V.val ⟨0, 0, ⟨#[]⟩⟩, .int .i64 1]) (by simp [results, Try.results68, go_sem, d0, d1, d2, V.val]) rfl (hR.out _ _ ⟨rfl, HM.out.var (r := w.heap.size + 1) (fun h => by omega) _ _ _⟩)

theorem slot_octet_ok (w : World) (s : ByteArray) (i : Nat) (kt : ByteArray) (hi : i < s.size) :
    Calls Try.prog 68 #[.string s, V.val ⟨2, (i : Nat), kt⟩] w fun e w' => e = .returned (.tuple #[V.val ⟨2, (s[i].toNat : Int), ⟨#[]⟩⟩, .int .i64 0]) ∧ Keeps (fun _ => False) w w' := by
  have CN := hidden (fun (W : World) => value_Null W)
  have CI := hidden (fun (W : World) (n : Int) => value_Int n W)
  unfold V.val at CN CI
  unfold V.null at CN
  refine post_gen fun R hR => ?_
  unfold V.val
  go_enter Try.func68, Try.ntmps68
  have h0 : ¬ ((i : Int) < 0) := by omega
  have h1 : ¬ ((s.size : Int) ≤ (i : Int)) := by omega
  have h2 : wrap64 (s[i].toNat : Int) = (s[i].toNat : Int) := IntWalk.wrap64_in _ (by have := UInt8.toNat_lt s[i]; omega)
  go_wp2_with fail
  refine (CI.out _ _).mono ?_
  rintro e w1 ⟨rfl, hK⟩
  have HR := hidden (show IsVar w1 (w.heap.size + 1) V.null from hK.heap (var2 w _ V.null) (fun h => h))
  have HM := hidden ((((Keeps.refl (fun _ => False) w).alloc _).alloc _).trans hK (fun _ _ h => h))
  clear hK
  obtain ⟨v0, v1, v2, v3, v4, v5⟩ := HR.out.cells
  have hvz := blk_lt HR.out
  simp only [V.null] at v0 v1 v2
  go_wp2_with fail
  obtain ⟨d0, d1, d2, _⟩ := (HR.out.set ⟨2, (s[i].toNat : Int), ⟨#[]⟩⟩).cells
  simp only at d0 d1 d2
  exact bodyPost_ret (v := .tuple #[V.val ⟨2, (s[i].toNat : Int), ⟨#[]⟩⟩, .int .i64 0]) (by simp [results, Try.results68, go_sem, d0, d1, d2, V.val]) rfl (hR.out _ _ ⟨rfl, HM.out.var (r := w.heap.size + 1) (fun h => by omega) _ _ _⟩)

section
variable {w : World} {F : Nat → Prop} {hb : Nat} {H : List (Option (Nat × Cl))} {s : HSt} {i p : Nat} {c : Cl}

set_option maxHeartbeats 4000000 in
theorem slot_Get_null (on : Int) (ot : ByteArray) (kk kn : Int) (kt : ByteArray) :
    Calls Try.prog 43 #[.pointer (some ⟨hb, 0, none⟩), V.val ⟨0, on, ot⟩, V.val ⟨kk, kn, kt⟩] w fun e w' => e = .returned (.tuple #[V.val ⟨0, 0, ⟨#[]⟩⟩, .int .i64 30]) ∧ Keeps (fun _ => False) w w' := by
  have CN := hidden (fun (W : World) => value_Null W)
  unfold V.val at CN
  unfold V.null at CN
  refine post_gen fun R hR => ?_
  unfold V.val
  go_enter Try.func43, Try.ntmps43
  go_wp2_with fail
  refine (CN.out _).mono ?_
  rintro e w1 ⟨rfl, hK⟩
  have HR := hidden (show IsVar w1 (w.heap.size + 2) V.null from hK.heap (new3b w _ _ _) (fun h => h))
  have HM := hidden (((((Keeps.refl (fun _ => False) w).alloc _).alloc _).alloc _).trans hK (fun _ _ h => h))
  clear hK
  obtain ⟨v0, v1, v2, v3, v4, v5⟩ := HR.out.cells
  have hvz := blk_lt HR.out
  simp only [V.null] at v0 v1 v2
  go_wp2_with fail
  obtain ⟨d0, d1, d2, _⟩ := (HR.out.set ⟨0, 0, ⟨#[]⟩⟩).cells
  simp only at d0 d1 d2
  exact bodyPost_ret (v := .tuple #[V.val ⟨0, 0, ⟨#[]⟩⟩, .int .i64 30]) (by simp [results, Try.results43, go_sem, d0, d1, d2, V.val]) rfl (hR.out _ _ ⟨rfl, HM.out.var (r := w.heap.size + 2) (fun h => by omega) _ _ _⟩)

set_option maxHeartbeats 4000000 in
theorem slot_Get_str (on : Int) (ot : ByteArray) (kk kn : Int) (kt : ByteArray) (rk rn : Int) (rt : ByteArray) (re : Int) (hC : ∀ W : World, Calls Try.prog 68 #[.string ot, V.val ⟨kk, kn, kt⟩] W fun e w' => e = .returned (.tuple #[V.val ⟨rk, rn, rt⟩, .int .i64 re]) ∧ Keeps (fun _ => False) W w') :
    Calls Try.prog 43 #[.pointer (some ⟨hb, 0, none⟩), V.val ⟨3, on, ot⟩, V.val ⟨kk, kn, kt⟩] w fun e w' => e = .returned (.tuple #[V.val ⟨rk, rn, rt⟩, .int .i64 re]) ∧ Keeps (fun _ => False) w w' := by
  have CO := hidden hC
  clear hC
  unfold V.val at CO
  refine post_gen fun R hR => ?_
  unfold V.val
  go_enter Try.func43, Try.ntmps43
  go_wp2_with fail
  refine (CO.out _).mono ?_
  rintro e w1 ⟨rfl, hK⟩
  have HR := hidden (show IsVar w1 (w.heap.size + 2) V.null from hK.heap (new3b w _ _ _) (fun h => h))
  have HM := hidden (((((Keeps.refl (fun _ => False) w).alloc _).alloc _).alloc _).trans hK (fun _ _ h => h))
  clear hK
  obtain ⟨v0, v1, v2, v3, v4, v5⟩ := HR.out.cells
  have hvz := blk_lt HR.out
  simp only [V.null] at v0 v1 v2
  go_wp2_with fail
  obtain ⟨d0, d1, d2, _⟩ := (HR.out.set ⟨rk, rn, rt⟩).cells
  simp only at d0 d1 d2
  exact bodyPost_ret (v := .tuple #[V.val ⟨rk, rn, rt⟩, .int .i64 re]) (by simp [results, Try.results43, go_sem, d0, d1, d2, V.val]) rfl (hR.out _ _ ⟨rfl, HM.out.var (r := w.heap.size + 2) (fun h => by omega) _ _ _⟩)

set_option maxHeartbeats 4000000 in
theorem slot_Get_no (h : IsHeap w F hb H s) (ok on : Int) (ot : ByteArray) (h0 : ok ≠ 0) (h3 : ok ≠ 3) (hv : (ofR H ⟨ok, on, ot⟩ 0).2 ≠ 0) (kk kn : Int) (kt : ByteArray) :
    Calls Try.prog 43 #[.pointer (some ⟨hb, 0, none⟩), V.val ⟨ok, on, ot⟩, V.val ⟨kk, kn, kt⟩] w fun e w' => e = .returned (.tuple #[V.val ⟨0, 0, ⟨#[]⟩⟩, .int .i64 3]) ∧ Keeps (fun _ => False) w w' := by
  have CN := hidden (fun (W : World) => value_Null W)
  unfold V.val at CN
  unfold V.null at CN
  have CO := hidden (fun (W : World) (hk' : Keeps (fun _ => False) w W) => heap_Of (h.calm hk') ⟨ok, on, ot⟩ 0)
  unfold V.val at CO
  have hne : ((ofR H ⟨ok, on, ot⟩ 0).2 != 0) = true := by simpa using hv
  generalize (ofR H ⟨ok, on, ot⟩ 0).1 = pa at *
  generalize (ofR H ⟨ok, on, ot⟩ 0).2 = ea at *
  clear h hv
  refine post_gen fun R hR => ?_
  unfold V.val
  go_enter Try.func43, Try.ntmps43
  go_wp2_with fail
  have I0 := hidden (blk_alloc (blk_alloc (blk_new w (.cells #[.int .i64 ok, .int .i64 on, .string ot] 26)) (.cells #[.int .i64 kk, .int .i64 kn, .string kt] 26)) (.cells #[.int .i64 0, .int .i64 0, .string ⟨#[]⟩] 26))
  have I1 := hidden (new3 w (.cells #[.int .i64 ok, .int .i64 on, .string ot] 26) (.cells #[.int .i64 kk, .int .i64 kn, .string kt] 26) (.cells #[.int .i64 0, .int .i64 0, .string ⟨#[]⟩] 26))
  have I2 := hidden (new3b w (.cells #[.int .i64 ok, .int .i64 on, .string ot] 26) (.cells #[.int .i64 kk, .int .i64 kn, .string kt] 26) (.cells #[.int .i64 0, .int .i64 0, .string ⟨#[]⟩] 26))
  refine (CO.out _ (by repeat (first | exact Keeps.refl _ _ | refine Keeps.alloc ?_ _))).mono ?_
  rintro e w1 ⟨rfl, hK⟩
  have HM0 := hidden (((((Keeps.refl (fun _ => False) w).alloc _).alloc _).alloc _).trans hK (fun _ _ h => h))
  have V0 := hidden (show IsVar w1 w.heap.size ⟨ok, on, ot⟩ from hK.heap I0.out (fun h => h))
  have V1 := hidden (show IsVar w1 (w.heap.size + 1) ⟨kk, kn, kt⟩ from hK.heap I1.out (fun h => h))
  have HR0 := hidden (show IsVar w1 (w.heap.size + 2) V.null from hK.heap I2.out (fun h => h))
  clear hK CO I0 I1 I2
  go_wp2_with fail
  refine (CN.out _).mono ?_
  rintro e w2 ⟨rfl, hK⟩
  have HR := hidden (show IsVar w2 (w.heap.size + 2) V.null from HR0.out.keeps hK (fun h => h))
  have HM := hidden (HM0.out.trans hK (fun _ _ h => h))
  clear hK
  obtain ⟨v0, v1, v2, v3, v4, v5⟩ := HR.out.cells
  have hvz := blk_lt HR.out
  simp only [V.null] at v0 v1 v2
  go_wp2_with fail
  obtain ⟨d0, d1, d2, _⟩ := (HR.out.set ⟨0, 0, ⟨#[]⟩⟩).cells
  simp only at d0 d1 d2
  exact bodyPost_ret (v := .tuple #[V.val ⟨0, 0, ⟨#[]⟩⟩, .int .i64 3]) (by simp [results, Try.results43, go_sem, d0, d1, d2, V.val]) rfl (hR.out _ _ ⟨rfl, HM.out.var (r := w.heap.size + 2) (fun h => by omega) _ _ _⟩)

set_option maxHeartbeats 4000000 in
theorem slot_Delete_no (h : IsHeap w F hb H s) (ok on : Int) (ot : ByteArray) (hv : (ofR H ⟨ok, on, ot⟩ 2).2 ≠ 0) (kk kn : Int) (kt : ByteArray) :
    Calls Try.prog 42 #[.pointer (some ⟨hb, 0, none⟩), V.val ⟨ok, on, ot⟩, V.val ⟨kk, kn, kt⟩] w fun e w' => e = .returned (.tuple #[V.val ⟨0, 0, ⟨#[]⟩⟩, .int .i64 30]) ∧ Keeps (fun _ => False) w w' := by
  have CN := hidden (fun (W : World) => value_Null W)
  unfold V.val at CN
  unfold V.null at CN
  have CO := hidden (fun (W : World) (hk' : Keeps (fun _ => False) w W) => heap_Of (h.calm hk') ⟨ok, on, ot⟩ 2)
  unfold V.val at CO
  have hne : ((ofR H ⟨ok, on, ot⟩ 2).2 != 0) = true := by simpa using hv
  generalize (ofR H ⟨ok, on, ot⟩ 2).1 = pa at *
  generalize (ofR H ⟨ok, on, ot⟩ 2).2 = ea at *
  clear h hv
  refine post_gen fun R hR => ?_
  unfold V.val
  go_enter Try.func42, Try.ntmps42
  go_wp2_with fail
  have I0 := hidden (blk_alloc (blk_alloc (blk_new w (.cells #[.int .i64 ok, .int .i64 on, .string ot] 26)) (.cells #[.int .i64 kk, .int .i64 kn, .string kt] 26)) (.cells #[.int .i64 0, .int .i64 0, .string ⟨#[]⟩] 26))
  have I1 := hidden (new3 w (.cells #[.int .i64 ok, .int .i64 on, .string ot] 26) (.cells #[.int .i64 kk, .int .i64 kn, .string kt] 26) (.cells #[.int .i64 0, .int .i64 0, .string ⟨#[]⟩] 26))
  have I2 := hidden (new3b w (.cells #[.int .i64 ok, .int .i64 on, .string ot] 26) (.cells #[.int .i64 kk, .int .i64 kn, .string kt] 26) (.cells #[.int .i64 0, .int .i64 0, .string ⟨#[]⟩] 26))
  refine (CO.out _ (by repeat (first | exact Keeps.refl _ _ | refine Keeps.alloc ?_ _))).mono ?_
  rintro e w1 ⟨rfl, hK⟩
  have HM0 := hidden (((((Keeps.refl (fun _ => False) w).alloc _).alloc _).alloc _).trans hK (fun _ _ h => h))
  have V0 := hidden (show IsVar w1 w.heap.size ⟨ok, on, ot⟩ from hK.heap I0.out (fun h => h))
  have V1 := hidden (show IsVar w1 (w.heap.size + 1) ⟨kk, kn, kt⟩ from hK.heap I1.out (fun h => h))
  have HR0 := hidden (show IsVar w1 (w.heap.size + 2) V.null from hK.heap I2.out (fun h => h))
  clear hK CO I0 I1 I2
  go_wp2_with fail
  refine (CN.out _).mono ?_
  rintro e w2 ⟨rfl, hK⟩
  have HR := hidden (show IsVar w2 (w.heap.size + 2) V.null from HR0.out.keeps hK (fun h => h))
  have HM := hidden (HM0.out.trans hK (fun _ _ h => h))
  clear hK
  obtain ⟨v0, v1, v2, v3, v4, v5⟩ := HR.out.cells
  have hvz := blk_lt HR.out
  simp only [V.null] at v0 v1 v2
  go_wp2_with fail
  obtain ⟨d0, d1, d2, _⟩ := (HR.out.set ⟨0, 0, ⟨#[]⟩⟩).cells
  simp only at d0 d1 d2
  exact bodyPost_ret (v := .tuple #[V.val ⟨0, 0, ⟨#[]⟩⟩, .int .i64 30]) (by simp [results, Try.results42, go_sem, d0, d1, d2, V.val]) rfl (hR.out _ _ ⟨rfl, HM.out.var (r := w.heap.size + 2) (fun h => by omega) _ _ _⟩)

set_option maxHeartbeats 4000000 in
theorem slot_Get_array_key (h : IsHeap w F hb H s) (hi : H[i]? = some (some (p, c))) (hk : c.kind = 1) (kk kn : Int) (kt : ByteArray) (hkk : kk ≠ 2) :
    Calls Try.prog 43 #[.pointer (some ⟨hb, 0, none⟩), V.val ⟨4, i, ⟨#[]⟩⟩, V.val ⟨kk, kn, kt⟩] w fun e w' => e = .returned (.tuple #[V.val ⟨0, 0, ⟨#[]⟩⟩, .int .i64 3]) ∧ Keeps (fun _ => False) w w' := by
  have CN := hidden (fun (W : World) => value_Null W)
  unfold V.val at CN
  unfold V.null at CN
  have CO := hidden (fun (W : World) (hk' : Keeps (fun _ => False) w W) => heap_Of_ok (h.calm hk') hi 0 ⟨#[]⟩ (.inl rfl))
  unfold V.val at CO
  have HP := hidden (fun (W : World) (hk' : Keeps (fun _ => False) w W) => show W.cell? ⟨p, 0, none⟩ = some (.int .i64 1) ∧ p < W.heap.size from (by
    obtain ⟨A, cap, lp, tp, An, cn, hblk, -⟩ := held_cell (h.calm hk') hi
    rw [hk] at hblk; exact ⟨blk_cell hblk 0, blk_lt hblk⟩))
  clear h hi hk
  refine post_gen fun R hR => ?_
  unfold V.val
  go_enter Try.func43, Try.ntmps43
  go_wp2_with fail
  have I0 := hidden (blk_alloc (blk_alloc (blk_new w (.cells #[.int .i64 4, .int .i64 i, .string ⟨#[]⟩] 26)) (.cells #[.int .i64 kk, .int .i64 kn, .string kt] 26)) (.cells #[.int .i64 0, .int .i64 0, .string ⟨#[]⟩] 26))
  have I1 := hidden (new3 w (.cells #[.int .i64 4, .int .i64 i, .string ⟨#[]⟩] 26) (.cells #[.int .i64 kk, .int .i64 kn, .string kt] 26) (.cells #[.int .i64 0, .int .i64 0, .string ⟨#[]⟩] 26))
  have I2 := hidden (new3b w (.cells #[.int .i64 4, .int .i64 i, .string ⟨#[]⟩] 26) (.cells #[.int .i64 kk, .int .i64 kn, .string kt] 26) (.cells #[.int .i64 0, .int .i64 0, .string ⟨#[]⟩] 26))
  refine (CO.out _ (by repeat (first | exact Keeps.refl _ _ | refine Keeps.alloc ?_ _))).mono ?_
  rintro e w1 ⟨rfl, hK⟩
  have HM0 := hidden (((((Keeps.refl (fun _ => False) w).alloc _).alloc _).alloc _).trans hK (fun _ _ h => h))
  have V0 := hidden (show IsVar w1 w.heap.size ⟨4, i, ⟨#[]⟩⟩ from hK.heap I0.out (fun h => h))
  have V1 := hidden (show IsVar w1 (w.heap.size + 1) ⟨kk, kn, kt⟩ from hK.heap I1.out (fun h => h))
  have HR0 := hidden (show IsVar w1 (w.heap.size + 2) V.null from hK.heap I2.out (fun h => h))
  clear hK CO I0 I1 I2
  obtain ⟨z0, hpz⟩ := HP.out _ HM0.out
  obtain ⟨b0, b1, b2, -⟩ := V1.out.cells
  have hbz := blk_lt V1.out
  simp only at b0 b1 b2
  go_wp2_with fail
  refine (CN.out _).mono ?_
  rintro e w2 ⟨rfl, hK⟩
  have HR := hidden (show IsVar w2 (w.heap.size + 2) V.null from HR0.out.keeps hK (fun h => h))
  have HM := hidden (HM0.out.trans hK (fun _ _ h => h))
  clear hK
  obtain ⟨v0, v1, v2, v3, v4, v5⟩ := HR.out.cells
  have hvz := blk_lt HR.out
  simp only [V.null] at v0 v1 v2
  go_wp2_with fail
  obtain ⟨d0, d1, d2, _⟩ := (HR.out.set ⟨0, 0, ⟨#[]⟩⟩).cells
  simp only at d0 d1 d2
  exact bodyPost_ret (v := .tuple #[V.val ⟨0, 0, ⟨#[]⟩⟩, .int .i64 3]) (by simp [results, Try.results43, go_sem, d0, d1, d2, V.val]) rfl (hR.out _ _ ⟨rfl, HM.out.var (r := w.heap.size + 2) (fun h => by omega) _ _ _⟩)

def listR (xs : List V) (n : Int) : V × Int := if n < 0 then (V.null, 1) else match xs[n.toNat]? with | none => (V.null, 1) | some x => (x, 0)
theorem list_GetR (w : World) (F : Nat → Prop) (b : Nat) (xs : List V) (n : Int) (h : IsList w F b xs) :
    Calls Try.prog 69 #[.pointer (some ⟨b, 0, none⟩), .int .i64 n] w fun e w' => e = .returned (.tuple #[(listR xs n).1.val, .int .i64 (listR xs n).2]) ∧ Keeps (fun _ => False) w w' := by
  unfold listR
  by_cases h0 : n < 0
  · rw [if_pos h0]; exact list_Get_none w F b xs n h (.inl h0)
  · rw [if_neg h0]
    obtain ⟨i, rfl⟩ : ∃ i : Nat, n = i := ⟨n.toNat, by omega⟩
    rw [Int.toNat_natCast]
    cases hx : xs[i]? with
    | none => exact list_Get_none w F b xs i h (.inr (by have := List.getElem?_eq_none_iff.1 hx; omega))
    | some x => exact list_Get_some w F b xs i x h hx
def instR (L Lc : List Ent) (key : V) : V × Int := if (getR L key).2 = 0 then getR L key else getR Lc key

set_option maxHeartbeats 4000000 in
theorem slot_Get_array (h : IsHeap w F hb H s) (hi : H[i]? = some (some (p, c))) (hk : c.kind = 1) {lb : Nat} {xs : List V} (hc : c.list = some (lb, xs)) (kn : Int) (kt : ByteArray) :
    Calls Try.prog 43 #[.pointer (some ⟨hb, 0, none⟩), V.val ⟨4, i, ⟨#[]⟩⟩, V.val ⟨2, kn, kt⟩] w fun e w' => e = .returned (.tuple #[(listR xs kn).1.val, .int .i64 (listR xs kn).2]) ∧ Keeps (fun _ => False) w w' := by
  have CO := hidden (fun (W : World) (hk' : Keeps (fun _ => False) w W) => heap_Of_ok (h.calm hk') hi 0 ⟨#[]⟩ (.inl rfl))
  unfold V.val at CO
  have HP := hidden (fun (W : World) (hk' : Keeps (fun _ => False) w W) => show W.cell? ⟨p, 0, none⟩ = some (.int .i64 1) ∧ p < W.heap.size from (by
    obtain ⟨A, cap, lp, tp, An, cn, hblk, -⟩ := held_cell (h.calm hk') hi
    rw [hk] at hblk; exact ⟨blk_cell hblk 0, blk_lt hblk⟩))
  have HC := hidden (fun (W : World) (hk' : Keeps (fun _ => False) w W) => show W.cell? ⟨p, 2, none⟩ = some (.pointer (some ⟨lb, 0, none⟩)) ∧ p < W.heap.size ∧ Calls Try.prog 69 #[.pointer (some ⟨lb, 0, none⟩), .int .i64 kn] W fun e w' => e = .returned (.tuple #[(listR xs kn).1.val, .int .i64 (listR xs kn).2]) ∧ Keeps (fun _ => False) W w' from by
    obtain ⟨Fl, h1, h2, h3, -⟩ := held_list (h.calm hk') hi hc
    exact ⟨h1, h2, list_GetR W Fl lb xs kn h3⟩)
  clear h hi hk hc
  generalize listR xs kn = gg at *
  obtain ⟨⟨gk, gn, gt⟩, ge⟩ := gg
  simp only at HC
  unfold V.val at HC
  refine post_gen fun R hR => ?_
  unfold V.val
  go_enter Try.func43, Try.ntmps43
  go_wp2_with fail
  have I0 := hidden (blk_alloc (blk_alloc (blk_new w (.cells #[.int .i64 4, .int .i64 i, .string ⟨#[]⟩] 26)) (.cells #[.int .i64 2, .int .i64 kn, .string kt] 26)) (.cells #[.int .i64 0, .int .i64 0, .string ⟨#[]⟩] 26))
  have I1 := hidden (new3 w (.cells #[.int .i64 4, .int .i64 i, .string ⟨#[]⟩] 26) (.cells #[.int .i64 2, .int .i64 kn, .string kt] 26) (.cells #[.int .i64 0, .int .i64 0, .string ⟨#[]⟩] 26))
  have I2 := hidden (new3b w (.cells #[.int .i64 4, .int .i64 i, .string ⟨#[]⟩] 26) (.cells #[.int .i64 2, .int .i64 kn, .string kt] 26) (.cells #[.int .i64 0, .int .i64 0, .string ⟨#[]⟩] 26))
  refine (CO.out _ (by repeat (first | exact Keeps.refl _ _ | refine Keeps.alloc ?_ _))).mono ?_
  rintro e w1 ⟨rfl, hK⟩
  have HM0 := hidden (((((Keeps.refl (fun _ => False) w).alloc _).alloc _).alloc _).trans hK (fun _ _ h => h))
  have V0 := hidden (show IsVar w1 w.heap.size ⟨4, i, ⟨#[]⟩⟩ from hK.heap I0.out (fun h => h))
  have V1 := hidden (show IsVar w1 (w.heap.size + 1) ⟨2, kn, kt⟩ from hK.heap I1.out (fun h => h))
  have HR0 := hidden (show IsVar w1 (w.heap.size + 2) V.null from hK.heap I2.out (fun h => h))
  clear hK CO I0 I1 I2
  obtain ⟨z0, hpz⟩ := HP.out _ HM0.out
  obtain ⟨b0, b1, b2, -⟩ := V1.out.cells
  have hbz := blk_lt V1.out
  simp only at b0 b1 b2
  go_wp2_with fail
  have SK := hidden (fun (W : World) (hk' : Keeps (fun _ => False) w1 W) => show W.cell? ⟨p, 2, none⟩ = some (.pointer (some ⟨lb, 0, none⟩)) ∧ W.cell? ⟨w.heap.size + 1, 0, none⟩ = some (.int .i64 2) ∧ W.cell? ⟨w.heap.size + 1, 1, none⟩ = some (.int .i64 kn) ∧ W.cell? ⟨w.heap.size + 1, 2, none⟩ = some (.string kt) from (have b := (V1.out.keeps hk' (fun h => h)).cells; have g := HC.out W (HM0.out.trans hk' (fun _ _ h => h)); by simp only at b; exact ⟨g.1, b.1, b.2.1, b.2.2.1⟩))
  have CC := hidden (fun (W : World) (hk' : Keeps (fun _ => False) w1 W) => (HC.out W (HM0.out.trans hk' (fun _ _ h => h))).2.2)
  have hpr : p ≠ w.heap.size + 2 := by have := (HC.out w (Keeps.refl _ _)).2.1; omega
  clear b0 b1 b2 hbz
  refine wp_region_noPanic ?_
  refine wp_region_held_drew (S := (fun W => W.cell? ⟨p, 2, none⟩ = some (.pointer (some ⟨lb, 0, none⟩)) ∧ W.cell? ⟨w.heap.size + 1, 0, none⟩ = some (.int .i64 2) ∧ W.cell? ⟨w.heap.size + 1, 1, none⟩ = some (.int .i64 kn) ∧ W.cell? ⟨w.heap.size + 1, 2, none⟩ = some (.string kt))) (by kernel_rfl) ?_ (fun hHeld => ?_)
  · ((try dsimp only); (first | exact SP.out _ _ _ | ((refine SK.out _ ?_); (repeat with_reducible (first | exact Keeps.refl _ _ | exact K2.out | refine Keeps.drewN ?_ _ | refine Keeps.drew ?_)); done)))
  refine wpAnyH_take (i := 0) (oi := ⟨_, _, _, _, _, _⟩) (v := ?_) rfl (by kernel_rfl) (by kernel_rfl) (by kernel_rfl) (fun _ _ _ h => h) (Or.inl ⟨by rfl, ?_⟩) hHeld ?_
  rotate_left
  · (intro w' hSw; (try dsimp only at hSw); go_simp; (try with_reducible rfl))
  try simp only [Act.put, List.setIfInBounds_toArray, List.set_cons_zero, List.set_cons_succ]
  refine wpAnyH_take (i := 1) (oi := ⟨_, _, _, _, _, _⟩) (v := ?_) rfl (by kernel_rfl) (by kernel_rfl) (by kernel_rfl) (fun _ _ _ h => h) (Or.inl ⟨by rfl, ?_⟩) hHeld ?_
  rotate_left
  · (intro w' hSw; (try dsimp only at hSw); go_simp; (try with_reducible rfl))
  try simp only [Act.put, List.setIfInBounds_toArray, List.set_cons_zero, List.set_cons_succ]
  refine wpAnyH_take (i := 2) (oi := ⟨_, _, _, _, _, _⟩) (v := ?_) rfl (by kernel_rfl) (by kernel_rfl) (by kernel_rfl) (fun _ _ _ h => h) (Or.inl ⟨by rfl, ?_⟩) hHeld ?_
  rotate_left
  · (intro w' hSw; (try dsimp only at hSw); go_simp; (try with_reducible rfl))
  try simp only [Act.put, List.setIfInBounds_toArray, List.set_cons_zero, List.set_cons_succ]
  refine wpAnyH_take (i := 3) (oi := ⟨_, _, _, _, _, _⟩) (v := ?_) rfl (by kernel_rfl) (by kernel_rfl) (by kernel_rfl) (fun _ _ _ h => h) (Or.inl ⟨by rfl, ?_⟩) hHeld ?_
  rotate_left
  · (intro w' hSw; (try dsimp only at hSw); go_simp; (try with_reducible rfl))
  try simp only [Act.put, List.setIfInBounds_toArray, List.set_cons_zero, List.set_cons_succ]
  refine wpAnyH_take (i := 4) (oi := ⟨_, _, _, _, _, _⟩) (v := ?_) rfl (by kernel_rfl) (by kernel_rfl) (by kernel_rfl) (fun _ _ _ h => h) (Or.inl ⟨by rfl, ?_⟩) hHeld ?_
  rotate_left
  · (intro w' hSw; (try dsimp only at hSw); go_simp; (try with_reducible rfl))
  try simp only [Act.put, List.setIfInBounds_toArray, List.set_cons_zero, List.set_cons_succ]
  refine wpAnyH_take (i := 5) (oi := ⟨_, _, _, _, _, _⟩) (v := ?_) rfl (by kernel_rfl) (by kernel_rfl) (by kernel_rfl) (fun _ _ _ h => h) (Or.inl ⟨by rfl, ?_⟩) hHeld ?_
  rotate_left
  · (intro w' hSw; (try dsimp only at hSw); go_simp; (try with_reducible rfl))
  try simp only [Act.put, List.setIfInBounds_toArray, List.set_cons_zero, List.set_cons_succ]
  refine wpAnyH_ready (rs := [6]) (by kernel_rfl) (by simp) ?_
  refine AllReadyH.cons (o := ⟨_, _, _, _, _, _⟩) rfl (fun K hK => ?_) AllReadyH.nil
  go_simp
  (first | (go_at_call 69; refine (CC.out _ (by repeat with_reducible (first | exact Keeps.refl _ _ | refine Keeps.drewN ?_ _ | refine Keeps.drew ?_))).mono ?_; rintro e w2 ⟨rfl, h1⟩; have K2 := hidden (Keeps.trans (S := fun _ => False) (show Keeps (fun _ => False) w1 _ from (by repeat with_reducible (first | exact Keeps.refl _ _ | refine Keeps.drewN ?_ _ | refine Keeps.drew ?_))) h1 (fun _ _ h => h)); have HR2 := hidden (HR0.out.keeps K2.out (fun h => h)); have SP := hidden (fun (x y z : Value) => show (((w2.setCell ⟨w.heap.size + 2, 0, none⟩ x).setCell ⟨w.heap.size + 2, 1, none⟩ y).setCell ⟨w.heap.size + 2, 2, none⟩ z).cell? ⟨p, 2, none⟩ = some (.pointer (some ⟨lb, 0, none⟩)) ∧ (((w2.setCell ⟨w.heap.size + 2, 0, none⟩ x).setCell ⟨w.heap.size + 2, 1, none⟩ y).setCell ⟨w.heap.size + 2, 2, none⟩ z).cell? ⟨w.heap.size + 1, 0, none⟩ = some (.int .i64 2) ∧ (((w2.setCell ⟨w.heap.size + 2, 0, none⟩ x).setCell ⟨w.heap.size + 2, 1, none⟩ y).setCell ⟨w.heap.size + 2, 2, none⟩ z).cell? ⟨w.heap.size + 1, 1, none⟩ = some (.int .i64 kn) ∧ (((w2.setCell ⟨w.heap.size + 2, 0, none⟩ x).setCell ⟨w.heap.size + 2, 1, none⟩ y).setCell ⟨w.heap.size + 2, 2, none⟩ z).cell? ⟨w.heap.size + 1, 2, none⟩ = some (.string kt) from (have s0 := SK.out _ K2.out; have kv := (Keeps.refl (fun k => k = w.heap.size + 2) w2).var (r := w.heap.size + 2) (fun _ => rfl) x y z; ⟨kv.cell s0.1 hpr, kv.cell s0.2.1 (by simp), kv.cell s0.2.2.1 (by simp), kv.cell s0.2.2.2 (by simp)⟩)); obtain ⟨v0, v1, v2, v3, v4, v5⟩ := HR2.out.cells; have hvz := blk_lt HR2.out; simp only [V.null] at v0 v1 v2; clear h1))
  go_wp2_with fail
  refine hK.out _ _ ?_ (fun hH2 => ?_)
  · ((try dsimp only); (first | exact SP.out _ _ _ | ((refine SK.out _ ?_); (repeat with_reducible (first | exact Keeps.refl _ _ | exact K2.out | refine Keeps.drewN ?_ _ | refine Keeps.drew ?_)); done)))
  clear hK K hHeld
  have hHeld := hH2
  clear hH2
  try simp only [Act.put, List.setIfInBounds_toArray, List.set_cons_zero, List.set_cons_succ]
  refine wpAnyH_take (i := 7) (oi := ⟨_, _, _, _, _, _⟩) (v := ?_) rfl (by kernel_rfl) (by kernel_rfl) (by kernel_rfl) (fun _ _ _ h => h) (Or.inl ⟨by rfl, ?_⟩) hHeld ?_
  rotate_left
  · (intro w' hSw; (try dsimp only at hSw); go_simp; (try with_reducible rfl))
  try simp only [Act.put, List.setIfInBounds_toArray, List.set_cons_zero, List.set_cons_succ]
  refine wpAnyH_take (i := 8) (oi := ⟨_, _, _, _, _, _⟩) (v := ?_) rfl (by kernel_rfl) (by kernel_rfl) (by kernel_rfl) (fun _ _ _ h => h) (Or.inl ⟨by rfl, ?_⟩) hHeld ?_
  rotate_left
  · (intro w' hSw; (try dsimp only at hSw); go_simp; (try with_reducible rfl))
  try simp only [Act.put, List.setIfInBounds_toArray, List.set_cons_zero, List.set_cons_succ]
  refine wpAnyH_ready (rs := [9]) (by kernel_rfl) (by simp) ?_
  refine AllReadyH.cons (o := ⟨_, _, _, _, _, _⟩) rfl (fun K hK => ?_) AllReadyH.nil
  go_simp
  refine hK.out _ _ ?_ (fun hH2 => ?_)
  · ((try dsimp only); (first | exact SP.out _ _ _ | ((refine SK.out _ ?_); (repeat with_reducible (first | exact Keeps.refl _ _ | exact K2.out | refine Keeps.drewN ?_ _ | refine Keeps.drew ?_)); done)))
  clear hK K hHeld
  have hHeld := hH2
  clear hH2
  try simp only [Act.put, List.setIfInBounds_toArray, List.set_cons_zero, List.set_cons_succ]
  refine wpAnyH_take (i := 10) (oi := ⟨_, _, _, _, _, _⟩) (v := ?_) rfl (by kernel_rfl) (by kernel_rfl) (by kernel_rfl) (fun _ _ _ h => h) (Or.inl ⟨by rfl, ?_⟩) hHeld ?_
  rotate_left
  · (intro w' hSw; (try dsimp only at hSw); go_simp; (try with_reducible rfl))
  try simp only [Act.put, List.setIfInBounds_toArray, List.set_cons_zero, List.set_cons_succ]
  refine wpAnyH_done (by kernel_rfl) ?_ _
  refine NoPanic.normal ?_
  clear hHeld
  have HR := hidden (HR2.out)
  have HM := hidden (HM0.out.trans K2.out (fun _ _ h => h))
  go_wp2_with fail
  obtain ⟨d0, d1, d2, _⟩ := (HR.out.set ⟨gk, gn, gt⟩).cells
  simp only at d0 d1 d2
  exact bodyPost_ret (v := .tuple #[V.val ⟨gk, gn, gt⟩, .int .i64 ge]) (by simp [results, Try.results43, go_sem, d0, d1, d2, V.val]) rfl (hR.out _ _ ⟨rfl, HM.out.var (r := w.heap.size + 2) (fun h => by omega) _ _ _⟩)

set_option maxHeartbeats 4000000 in
theorem slot_Get_class (h : IsHeap w F hb H s) (hi : H[i]? = some (some (p, c))) (hk : c.kind = 3) {tb : Nat} {L : List Ent} {sr : Int} (hc : c.tab = some (tb, L, sr)) (hs : sr < 1073741824) (kk kn : Int) (kt : ByteArray) (hkz : kt.size ≤ 140737488351232) :
    Calls Try.prog 43 #[.pointer (some ⟨hb, 0, none⟩), V.val ⟨4, i, ⟨#[]⟩⟩, V.val ⟨kk, kn, kt⟩] w fun e w' => e = .returned (.tuple #[(getR L ⟨kk, kn, kt⟩).1.val, .int .i64 (getR L ⟨kk, kn, kt⟩).2]) ∧ Keeps (fun _ => False) w w' := by
  have CO := hidden (fun (W : World) (hk' : Keeps (fun _ => False) w W) => heap_Of_ok (h.calm hk') hi 0 ⟨#[]⟩ (.inl rfl))
  unfold V.val at CO
  have HP := hidden (fun (W : World) (hk' : Keeps (fun _ => False) w W) => show W.cell? ⟨p, 0, none⟩ = some (.int .i64 3) ∧ p < W.heap.size from (by
    obtain ⟨A, cap, lp, tp, An, cn, hblk, -⟩ := held_cell (h.calm hk') hi
    rw [hk] at hblk; exact ⟨blk_cell hblk 0, blk_lt hblk⟩))
  have HC := hidden (fun (W : World) (hk' : Keeps (fun _ => False) w W) => show W.cell? ⟨p, 3, none⟩ = some (.pointer (some ⟨tb, 0, none⟩)) ∧ p < W.heap.size ∧ Calls Try.prog 54 #[.pointer (some ⟨tb, 0, none⟩), V.val ⟨kk, kn, kt⟩] W fun e w' => e = .returned (.tuple #[(getR L ⟨kk, kn, kt⟩).1.val, .int .i64 (getR L ⟨kk, kn, kt⟩).2]) ∧ Keeps (fun _ => False) W w' from by
    obtain ⟨Ft, h1, h2, h3, h4, h5, h6, h7⟩ := held_tab2 (h.calm hk') hi hc
    exact ⟨h2, h3, t_Get h1 hs hkz⟩)
  clear h hi hk hc
  generalize getR L ⟨kk, kn, kt⟩ = gg at *
  obtain ⟨⟨gk, gn, gt⟩, ge⟩ := gg
  simp only at HC
  unfold V.val at HC
  refine post_gen fun R hR => ?_
  unfold V.val
  go_enter Try.func43, Try.ntmps43
  go_wp2_with fail
  have I0 := hidden (blk_alloc (blk_alloc (blk_new w (.cells #[.int .i64 4, .int .i64 i, .string ⟨#[]⟩] 26)) (.cells #[.int .i64 kk, .int .i64 kn, .string kt] 26)) (.cells #[.int .i64 0, .int .i64 0, .string ⟨#[]⟩] 26))
  have I1 := hidden (new3 w (.cells #[.int .i64 4, .int .i64 i, .string ⟨#[]⟩] 26) (.cells #[.int .i64 kk, .int .i64 kn, .string kt] 26) (.cells #[.int .i64 0, .int .i64 0, .string ⟨#[]⟩] 26))
  have I2 := hidden (new3b w (.cells #[.int .i64 4, .int .i64 i, .string ⟨#[]⟩] 26) (.cells #[.int .i64 kk, .int .i64 kn, .string kt] 26) (.cells #[.int .i64 0, .int .i64 0, .string ⟨#[]⟩] 26))
  refine (CO.out _ (by repeat (first | exact Keeps.refl _ _ | refine Keeps.alloc ?_ _))).mono ?_
  rintro e w1 ⟨rfl, hK⟩
  have HM0 := hidden (((((Keeps.refl (fun _ => False) w).alloc _).alloc _).alloc _).trans hK (fun _ _ h => h))
  have V0 := hidden (show IsVar w1 w.heap.size ⟨4, i, ⟨#[]⟩⟩ from hK.heap I0.out (fun h => h))
  have V1 := hidden (show IsVar w1 (w.heap.size + 1) ⟨kk, kn, kt⟩ from hK.heap I1.out (fun h => h))
  have HR0 := hidden (show IsVar w1 (w.heap.size + 2) V.null from hK.heap I2.out (fun h => h))
  clear hK CO I0 I1 I2
  obtain ⟨z0, hpz⟩ := HP.out _ HM0.out
  obtain ⟨b0, b1, b2, -⟩ := V1.out.cells
  have hbz := blk_lt V1.out
  simp only at b0 b1 b2
  go_wp2_with fail
  have SK := hidden (fun (W : World) (hk' : Keeps (fun _ => False) w1 W) => show W.cell? ⟨p, 3, none⟩ = some (.pointer (some ⟨tb, 0, none⟩)) ∧ W.cell? ⟨w.heap.size + 1, 0, none⟩ = some (.int .i64 kk) ∧ W.cell? ⟨w.heap.size + 1, 1, none⟩ = some (.int .i64 kn) ∧ W.cell? ⟨w.heap.size + 1, 2, none⟩ = some (.string kt) from (have b := (V1.out.keeps hk' (fun h => h)).cells; have g := HC.out W (HM0.out.trans hk' (fun _ _ h => h)); by simp only at b; exact ⟨g.1, b.1, b.2.1, b.2.2.1⟩))
  have CC := hidden (fun (W : World) (hk' : Keeps (fun _ => False) w1 W) => (HC.out W (HM0.out.trans hk' (fun _ _ h => h))).2.2)
  have hpr : p ≠ w.heap.size + 2 := by have := (HC.out w (Keeps.refl _ _)).2.1; omega
  clear b0 b1 b2 hbz
  refine wp_region_noPanic ?_
  refine wp_region_held_drew (S := (fun W => W.cell? ⟨p, 3, none⟩ = some (.pointer (some ⟨tb, 0, none⟩)) ∧ W.cell? ⟨w.heap.size + 1, 0, none⟩ = some (.int .i64 kk) ∧ W.cell? ⟨w.heap.size + 1, 1, none⟩ = some (.int .i64 kn) ∧ W.cell? ⟨w.heap.size + 1, 2, none⟩ = some (.string kt))) (by kernel_rfl) ?_ (fun hHeld => ?_)
  · ((try dsimp only); (first | exact SP.out _ _ _ | ((refine SK.out _ ?_); (repeat with_reducible (first | exact Keeps.refl _ _ | exact K2.out | refine Keeps.drewN ?_ _ | refine Keeps.drew ?_)); done)))
  refine wpAnyH_take (i := 0) (oi := ⟨_, _, _, _, _, _⟩) (v := ?_) rfl (by kernel_rfl) (by kernel_rfl) (by kernel_rfl) (fun _ _ _ h => h) (Or.inl ⟨by rfl, ?_⟩) hHeld ?_
  rotate_left
  · (intro w' hSw; (try dsimp only at hSw); go_simp; (try with_reducible rfl))
  try simp only [Act.put, List.setIfInBounds_toArray, List.set_cons_zero, List.set_cons_succ]
  refine wpAnyH_take (i := 1) (oi := ⟨_, _, _, _, _, _⟩) (v := ?_) rfl (by kernel_rfl) (by kernel_rfl) (by kernel_rfl) (fun _ _ _ h => h) (Or.inl ⟨by rfl, ?_⟩) hHeld ?_
  rotate_left
  · (intro w' hSw; (try dsimp only at hSw); go_simp; (try with_reducible rfl))
  try simp only [Act.put, List.setIfInBounds_toArray, List.set_cons_zero, List.set_cons_succ]
  refine wpAnyH_take (i := 2) (oi := ⟨_, _, _, _, _, _⟩) (v := ?_) rfl (by kernel_rfl) (by kernel_rfl) (by kernel_rfl) (fun _ _ _ h => h) (Or.inl ⟨by rfl, ?_⟩) hHeld ?_
  rotate_left
  · (intro w' hSw; (try dsimp only at hSw); go_simp; (try with_reducible rfl))
  try simp only [Act.put, List.setIfInBounds_toArray, List.set_cons_zero, List.set_cons_succ]
  refine wpAnyH_take (i := 3) (oi := ⟨_, _, _, _, _, _⟩) (v := ?_) rfl (by kernel_rfl) (by kernel_rfl) (by kernel_rfl) (fun _ _ _ h => h) (Or.inl ⟨by rfl, ?_⟩) hHeld ?_
  rotate_left
  · (intro w' hSw; (try dsimp only at hSw); go_simp; (try with_reducible rfl))
  try simp only [Act.put, List.setIfInBounds_toArray, List.set_cons_zero, List.set_cons_succ]
  refine wpAnyH_take (i := 4) (oi := ⟨_, _, _, _, _, _⟩) (v := ?_) rfl (by kernel_rfl) (by kernel_rfl) (by kernel_rfl) (fun _ _ _ h => h) (Or.inl ⟨by rfl, ?_⟩) hHeld ?_
  rotate_left
  · (intro w' hSw; (try dsimp only at hSw); go_simp; (try with_reducible rfl))
  try simp only [Act.put, List.setIfInBounds_toArray, List.set_cons_zero, List.set_cons_succ]
  refine wpAnyH_ready (rs := [5]) (by kernel_rfl) (by simp) ?_
  refine AllReadyH.cons (o := ⟨_, _, _, _, _, _⟩) rfl (fun K hK => ?_) AllReadyH.nil
  go_simp
  (first | (go_at_call 54; refine (CC.out _ (by repeat with_reducible (first | exact Keeps.refl _ _ | refine Keeps.drewN ?_ _ | refine Keeps.drew ?_))).mono ?_; rintro e w2 ⟨rfl, h1⟩; have K2 := hidden (Keeps.trans (S := fun _ => False) (show Keeps (fun _ => False) w1 _ from (by repeat with_reducible (first | exact Keeps.refl _ _ | refine Keeps.drewN ?_ _ | refine Keeps.drew ?_))) h1 (fun _ _ h => h)); have HR2 := hidden (HR0.out.keeps K2.out (fun h => h)); have SP := hidden (fun (x y z : Value) => show (((w2.setCell ⟨w.heap.size + 2, 0, none⟩ x).setCell ⟨w.heap.size + 2, 1, none⟩ y).setCell ⟨w.heap.size + 2, 2, none⟩ z).cell? ⟨p, 3, none⟩ = some (.pointer (some ⟨tb, 0, none⟩)) ∧ (((w2.setCell ⟨w.heap.size + 2, 0, none⟩ x).setCell ⟨w.heap.size + 2, 1, none⟩ y).setCell ⟨w.heap.size + 2, 2, none⟩ z).cell? ⟨w.heap.size + 1, 0, none⟩ = some (.int .i64 kk) ∧ (((w2.setCell ⟨w.heap.size + 2, 0, none⟩ x).setCell ⟨w.heap.size + 2, 1, none⟩ y).setCell ⟨w.heap.size + 2, 2, none⟩ z).cell? ⟨w.heap.size + 1, 1, none⟩ = some (.int .i64 kn) ∧ (((w2.setCell ⟨w.heap.size + 2, 0, none⟩ x).setCell ⟨w.heap.size + 2, 1, none⟩ y).setCell ⟨w.heap.size + 2, 2, none⟩ z).cell? ⟨w.heap.size + 1, 2, none⟩ = some (.string kt) from (have s0 := SK.out _ K2.out; have kv := (Keeps.refl (fun k => k = w.heap.size + 2) w2).var (r := w.heap.size + 2) (fun _ => rfl) x y z; ⟨kv.cell s0.1 hpr, kv.cell s0.2.1 (by simp), kv.cell s0.2.2.1 (by simp), kv.cell s0.2.2.2 (by simp)⟩)); obtain ⟨v0, v1, v2, v3, v4, v5⟩ := HR2.out.cells; have hvz := blk_lt HR2.out; simp only [V.null] at v0 v1 v2; clear h1))
  go_wp2_with fail
  refine hK.out _ _ ?_ (fun hH2 => ?_)
  · ((try dsimp only); (first | exact SP.out _ _ _ | ((refine SK.out _ ?_); (repeat with_reducible (first | exact Keeps.refl _ _ | exact K2.out | refine Keeps.drewN ?_ _ | refine Keeps.drew ?_)); done)))
  clear hK K hHeld
  have hHeld := hH2
  clear hH2
  try simp only [Act.put, List.setIfInBounds_toArray, List.set_cons_zero, List.set_cons_succ]
  refine wpAnyH_take (i := 6) (oi := ⟨_, _, _, _, _, _⟩) (v := ?_) rfl (by kernel_rfl) (by kernel_rfl) (by kernel_rfl) (fun _ _ _ h => h) (Or.inl ⟨by rfl, ?_⟩) hHeld ?_
  rotate_left
  · (intro w' hSw; (try dsimp only at hSw); go_simp; (try with_reducible rfl))
  try simp only [Act.put, List.setIfInBounds_toArray, List.set_cons_zero, List.set_cons_succ]
  refine wpAnyH_take (i := 7) (oi := ⟨_, _, _, _, _, _⟩) (v := ?_) rfl (by kernel_rfl) (by kernel_rfl) (by kernel_rfl) (fun _ _ _ h => h) (Or.inl ⟨by rfl, ?_⟩) hHeld ?_
  rotate_left
  · (intro w' hSw; (try dsimp only at hSw); go_simp; (try with_reducible rfl))
  try simp only [Act.put, List.setIfInBounds_toArray, List.set_cons_zero, List.set_cons_succ]
  refine wpAnyH_ready (rs := [8]) (by kernel_rfl) (by simp) ?_
  refine AllReadyH.cons (o := ⟨_, _, _, _, _, _⟩) rfl (fun K hK => ?_) AllReadyH.nil
  go_simp
  refine hK.out _ _ ?_ (fun hH2 => ?_)
  · ((try dsimp only); (first | exact SP.out _ _ _ | ((refine SK.out _ ?_); (repeat with_reducible (first | exact Keeps.refl _ _ | exact K2.out | refine Keeps.drewN ?_ _ | refine Keeps.drew ?_)); done)))
  clear hK K hHeld
  have hHeld := hH2
  clear hH2
  try simp only [Act.put, List.setIfInBounds_toArray, List.set_cons_zero, List.set_cons_succ]
  refine wpAnyH_take (i := 9) (oi := ⟨_, _, _, _, _, _⟩) (v := ?_) rfl (by kernel_rfl) (by kernel_rfl) (by kernel_rfl) (fun _ _ _ h => h) (Or.inl ⟨by rfl, ?_⟩) hHeld ?_
  rotate_left
  · (intro w' hSw; (try dsimp only at hSw); go_simp; (try with_reducible rfl))
  try simp only [Act.put, List.setIfInBounds_toArray, List.set_cons_zero, List.set_cons_succ]
  refine wpAnyH_done (by kernel_rfl) ?_ _
  refine NoPanic.normal ?_
  clear hHeld
  have HR := hidden (HR2.out)
  have HM := hidden (HM0.out.trans K2.out (fun _ _ h => h))
  go_wp2_with fail
  obtain ⟨d0, d1, d2, _⟩ := (HR.out.set ⟨gk, gn, gt⟩).cells
  simp only at d0 d1 d2
  exact bodyPost_ret (v := .tuple #[V.val ⟨gk, gn, gt⟩, .int .i64 ge]) (by simp [results, Try.results43, go_sem, d0, d1, d2, V.val]) rfl (hR.out _ _ ⟨rfl, HM.out.var (r := w.heap.size + 2) (fun h => by omega) _ _ _⟩)

set_option maxHeartbeats 4000000 in
theorem slot_Delete_none (h : IsHeap w F hb H s) (hi : H[i]? = some (some (p, c))) (hk : c.kind = 2) {tb : Nat} {L : List Ent} {sr : Int} (hc : c.tab = some (tb, L, sr)) (hs : sr < 1073741824) (kk kn : Int) (kt : ByteArray) (hkz : kt.size ≤ 140737488351232) (hno : ∀ x ∈ L, x.key ≠ ⟨kk, kn, kt⟩) :
    Calls Try.prog 42 #[.pointer (some ⟨hb, 0, none⟩), V.val ⟨4, i, ⟨#[]⟩⟩, V.val ⟨kk, kn, kt⟩] w fun e w' => e = .returned (.tuple #[V.val V.null, .int .i64 3]) ∧ Keeps (fun _ => False) w w' := by
  have CO := hidden (fun (W : World) (hk' : Keeps (fun _ => False) w W) => heap_Of_ok (h.calm hk') hi 2 ⟨#[]⟩ (.inr hk))
  unfold V.val at CO
  have HC := hidden (fun (W : World) (hk' : Keeps (fun _ => False) w W) => show W.cell? ⟨p, 3, none⟩ = some (.pointer (some ⟨tb, 0, none⟩)) ∧ p < W.heap.size ∧ Calls Try.prog 67 #[.pointer (some ⟨tb, 0, none⟩), V.val ⟨kk, kn, kt⟩] W fun e w' => e = .returned (.tuple #[V.val V.null, .int .i64 3]) ∧ Keeps (fun _ => False) W w' from by
    obtain ⟨Ft, h1, h2, h3, h4, h5, h6, h7⟩ := held_tab2 (h.calm hk') hi hc
    exact ⟨h2, h3, t_Delete_none h1 hs hkz hno⟩)
  unfold V.val V.null at HC
  clear h hi hk hc hno
  refine post_gen fun R hR => ?_
  unfold V.val
  go_enter Try.func42, Try.ntmps42
  go_wp2_with fail
  have I0 := hidden (blk_alloc (blk_alloc (blk_new w (.cells #[.int .i64 4, .int .i64 i, .string ⟨#[]⟩] 26)) (.cells #[.int .i64 kk, .int .i64 kn, .string kt] 26)) (.cells #[.int .i64 0, .int .i64 0, .string ⟨#[]⟩] 26))
  have I1 := hidden (new3 w (.cells #[.int .i64 4, .int .i64 i, .string ⟨#[]⟩] 26) (.cells #[.int .i64 kk, .int .i64 kn, .string kt] 26) (.cells #[.int .i64 0, .int .i64 0, .string ⟨#[]⟩] 26))
  have I2 := hidden (new3b w (.cells #[.int .i64 4, .int .i64 i, .string ⟨#[]⟩] 26) (.cells #[.int .i64 kk, .int .i64 kn, .string kt] 26) (.cells #[.int .i64 0, .int .i64 0, .string ⟨#[]⟩] 26))
  refine (CO.out _ (by repeat (first | exact Keeps.refl _ _ | refine Keeps.alloc ?_ _))).mono ?_
  rintro e w1 ⟨rfl, hK⟩
  have HM0 := hidden (((((Keeps.refl (fun _ => False) w).alloc _).alloc _).alloc _).trans hK (fun _ _ h => h))
  have V0 := hidden (show IsVar w1 w.heap.size ⟨4, i, ⟨#[]⟩⟩ from hK.heap I0.out (fun h => h))
  have V1 := hidden (show IsVar w1 (w.heap.size + 1) ⟨kk, kn, kt⟩ from hK.heap I1.out (fun h => h))
  have HR0 := hidden (show IsVar w1 (w.heap.size + 2) V.null from hK.heap I2.out (fun h => h))
  clear hK CO I0 I1 I2
  obtain ⟨b0, b1, b2, -⟩ := V1.out.cells
  have hbz := blk_lt V1.out
  simp only at b0 b1 b2
  go_wp2_with fail
  have SK := hidden (fun (W : World) (hk' : Keeps (fun _ => False) w1 W) => show W.cell? ⟨p, 3, none⟩ = some (.pointer (some ⟨tb, 0, none⟩)) ∧ W.cell? ⟨w.heap.size + 1, 0, none⟩ = some (.int .i64 kk) ∧ W.cell? ⟨w.heap.size + 1, 1, none⟩ = some (.int .i64 kn) ∧ W.cell? ⟨w.heap.size + 1, 2, none⟩ = some (.string kt) from (have b := (V1.out.keeps hk' (fun h => h)).cells; have g := HC.out W (HM0.out.trans hk' (fun _ _ h => h)); by simp only at b; exact ⟨g.1, b.1, b.2.1, b.2.2.1⟩))
  have CC := hidden (fun (W : World) (hk' : Keeps (fun _ => False) w1 W) => (HC.out W (HM0.out.trans hk' (fun _ _ h => h))).2.2)
  have hpr : p ≠ w.heap.size + 2 := by have := (HC.out w (Keeps.refl _ _)).2.1; omega
  clear b0 b1 b2 hbz
  refine wp_region_noPanic ?_
  refine wp_region_held_drew (S := (fun W => W.cell? ⟨p, 3, none⟩ = some (.pointer (some ⟨tb, 0, none⟩)) ∧ W.cell? ⟨w.heap.size + 1, 0, none⟩ = some (.int .i64 kk) ∧ W.cell? ⟨w.heap.size + 1, 1, none⟩ = some (.int .i64 kn) ∧ W.cell? ⟨w.heap.size + 1, 2, none⟩ = some (.string kt))) (by kernel_rfl) ?_ (fun hHeld => ?_)
  · ((try dsimp only); (first | exact SP.out _ _ _ | ((refine SK.out _ ?_); (repeat with_reducible (first | exact Keeps.refl _ _ | exact K2.out | refine Keeps.drewN ?_ _ | refine Keeps.drew ?_)); done)))
  refine wpAnyH_take (i := 0) (oi := ⟨_, _, _, _, _, _⟩) (v := ?_) rfl (by kernel_rfl) (by kernel_rfl) (by kernel_rfl) (fun _ _ _ h => h) (Or.inl ⟨by rfl, ?_⟩) hHeld ?_
  rotate_left
  · (intro w' hSw; (try dsimp only at hSw); go_simp; (try with_reducible rfl))
  try simp only [Act.put, List.setIfInBounds_toArray, List.set_cons_zero, List.set_cons_succ]
  refine wpAnyH_take (i := 1) (oi := ⟨_, _, _, _, _, _⟩) (v := ?_) rfl (by kernel_rfl) (by kernel_rfl) (by kernel_rfl) (fun _ _ _ h => h) (Or.inl ⟨by rfl, ?_⟩) hHeld ?_
  rotate_left
  · (intro w' hSw; (try dsimp only at hSw); go_simp; (try with_reducible rfl))
  try simp only [Act.put, List.setIfInBounds_toArray, List.set_cons_zero, List.set_cons_succ]
  refine wpAnyH_take (i := 2) (oi := ⟨_, _, _, _, _, _⟩) (v := ?_) rfl (by kernel_rfl) (by kernel_rfl) (by kernel_rfl) (fun _ _ _ h => h) (Or.inl ⟨by rfl, ?_⟩) hHeld ?_
  rotate_left
  · (intro w' hSw; (try dsimp only at hSw); go_simp; (try with_reducible rfl))
  try simp only [Act.put, List.setIfInBounds_toArray, List.set_cons_zero, List.set_cons_succ]
  refine wpAnyH_take (i := 3) (oi := ⟨_, _, _, _, _, _⟩) (v := ?_) rfl (by kernel_rfl) (by kernel_rfl) (by kernel_rfl) (fun _ _ _ h => h) (Or.inl ⟨by rfl, ?_⟩) hHeld ?_
  rotate_left
  · (intro w' hSw; (try dsimp only at hSw); go_simp; (try with_reducible rfl))
  try simp only [Act.put, List.setIfInBounds_toArray, List.set_cons_zero, List.set_cons_succ]
  refine wpAnyH_take (i := 4) (oi := ⟨_, _, _, _, _, _⟩) (v := ?_) rfl (by kernel_rfl) (by kernel_rfl) (by kernel_rfl) (fun _ _ _ h => h) (Or.inl ⟨by rfl, ?_⟩) hHeld ?_
  rotate_left
  · (intro w' hSw; (try dsimp only at hSw); go_simp; (try with_reducible rfl))
  try simp only [Act.put, List.setIfInBounds_toArray, List.set_cons_zero, List.set_cons_succ]
  refine wpAnyH_ready (rs := [5]) (by kernel_rfl) (by simp) ?_
  refine AllReadyH.cons (o := ⟨_, _, _, _, _, _⟩) rfl (fun K hK => ?_) AllReadyH.nil
  go_simp
  (first | (go_at_call 67; refine (CC.out _ (by repeat with_reducible (first | exact Keeps.refl _ _ | refine Keeps.drewN ?_ _ | refine Keeps.drew ?_))).mono ?_; rintro e w2 ⟨rfl, h1⟩; have K2 := hidden (Keeps.trans (S := fun _ => False) (show Keeps (fun _ => False) w1 _ from (by repeat with_reducible (first | exact Keeps.refl _ _ | refine Keeps.drewN ?_ _ | refine Keeps.drew ?_))) h1 (fun _ _ h => h)); have HR2 := hidden (HR0.out.keeps K2.out (fun h => h)); have SP := hidden (fun (x y z : Value) => show (((w2.setCell ⟨w.heap.size + 2, 0, none⟩ x).setCell ⟨w.heap.size + 2, 1, none⟩ y).setCell ⟨w.heap.size + 2, 2, none⟩ z).cell? ⟨p, 3, none⟩ = some (.pointer (some ⟨tb, 0, none⟩)) ∧ (((w2.setCell ⟨w.heap.size + 2, 0, none⟩ x).setCell ⟨w.heap.size + 2, 1, none⟩ y).setCell ⟨w.heap.size + 2, 2, none⟩ z).cell? ⟨w.heap.size + 1, 0, none⟩ = some (.int .i64 kk) ∧ (((w2.setCell ⟨w.heap.size + 2, 0, none⟩ x).setCell ⟨w.heap.size + 2, 1, none⟩ y).setCell ⟨w.heap.size + 2, 2, none⟩ z).cell? ⟨w.heap.size + 1, 1, none⟩ = some (.int .i64 kn) ∧ (((w2.setCell ⟨w.heap.size + 2, 0, none⟩ x).setCell ⟨w.heap.size + 2, 1, none⟩ y).setCell ⟨w.heap.size + 2, 2, none⟩ z).cell? ⟨w.heap.size + 1, 2, none⟩ = some (.string kt) from (have s0 := SK.out _ K2.out; have kv := (Keeps.refl (fun k => k = w.heap.size + 2) w2).var (r := w.heap.size + 2) (fun _ => rfl) x y z; ⟨kv.cell s0.1 hpr, kv.cell s0.2.1 (by simp), kv.cell s0.2.2.1 (by simp), kv.cell s0.2.2.2 (by simp)⟩)); obtain ⟨v0, v1, v2, v3, v4, v5⟩ := HR2.out.cells; have hvz := blk_lt HR2.out; simp only [V.null] at v0 v1 v2; clear h1))
  go_wp2_with fail
  refine hK.out _ _ ?_ (fun hH2 => ?_)
  · ((try dsimp only); (first | exact SP.out _ _ _ | ((refine SK.out _ ?_); (repeat with_reducible (first | exact Keeps.refl _ _ | exact K2.out | refine Keeps.drewN ?_ _ | refine Keeps.drew ?_)); done)))
  clear hK K hHeld
  have hHeld := hH2
  clear hH2
  try simp only [Act.put, List.setIfInBounds_toArray, List.set_cons_zero, List.set_cons_succ]
  refine wpAnyH_take (i := 6) (oi := ⟨_, _, _, _, _, _⟩) (v := ?_) rfl (by kernel_rfl) (by kernel_rfl) (by kernel_rfl) (fun _ _ _ h => h) (Or.inl ⟨by rfl, ?_⟩) hHeld ?_
  rotate_left
  · (intro w' hSw; (try dsimp only at hSw); go_simp; (try with_reducible rfl))
  try simp only [Act.put, List.setIfInBounds_toArray, List.set_cons_zero, List.set_cons_succ]
  refine wpAnyH_take (i := 7) (oi := ⟨_, _, _, _, _, _⟩) (v := ?_) rfl (by kernel_rfl) (by kernel_rfl) (by kernel_rfl) (fun _ _ _ h => h) (Or.inl ⟨by rfl, ?_⟩) hHeld ?_
  rotate_left
  · (intro w' hSw; (try dsimp only at hSw); go_simp; (try with_reducible rfl))
  try simp only [Act.put, List.setIfInBounds_toArray, List.set_cons_zero, List.set_cons_succ]
  refine wpAnyH_ready (rs := [8]) (by kernel_rfl) (by simp) ?_
  refine AllReadyH.cons (o := ⟨_, _, _, _, _, _⟩) rfl (fun K hK => ?_) AllReadyH.nil
  go_simp
  refine hK.out _ _ ?_ (fun hH2 => ?_)
  · ((try dsimp only); (first | exact SP.out _ _ _ | ((refine SK.out _ ?_); (repeat with_reducible (first | exact Keeps.refl _ _ | exact K2.out | refine Keeps.drewN ?_ _ | refine Keeps.drew ?_)); done)))
  clear hK K hHeld
  have hHeld := hH2
  clear hH2
  try simp only [Act.put, List.setIfInBounds_toArray, List.set_cons_zero, List.set_cons_succ]
  refine wpAnyH_take (i := 9) (oi := ⟨_, _, _, _, _, _⟩) (v := ?_) rfl (by kernel_rfl) (by kernel_rfl) (by kernel_rfl) (fun _ _ _ h => h) (Or.inl ⟨by rfl, ?_⟩) hHeld ?_
  rotate_left
  · (intro w' hSw; (try dsimp only at hSw); go_simp; (try with_reducible rfl))
  try simp only [Act.put, List.setIfInBounds_toArray, List.set_cons_zero, List.set_cons_succ]
  refine wpAnyH_done (by kernel_rfl) ?_ _
  refine NoPanic.normal ?_
  clear hHeld
  have HR := hidden (HR2.out)
  have HM := hidden (HM0.out.trans K2.out (fun _ _ h => h))
  go_wp2_with fail
  obtain ⟨d0, d1, d2, _⟩ := (HR.out.set ⟨0, 0, ⟨#[]⟩⟩).cells
  simp only at d0 d1 d2
  exact bodyPost_ret (v := .tuple #[V.val ⟨0, 0, ⟨#[]⟩⟩, .int .i64 3]) (by simp [results, Try.results42, go_sem, d0, d1, d2, V.val]) rfl (hR.out _ _ ⟨rfl, HM.out.var (r := w.heap.size + 2) (fun h => by omega) _ _ _⟩)

theorem getR_cases2 (L : List Ent) (key : V) : getR L key = (V.null, 3) ∨ ∃ x, getR L key = (x, 0) := by
  rcases getR_cases L key with ⟨-, e⟩ | ⟨x, -, -, e⟩
  · exact .inl e
  · exact .inr ⟨_, e⟩

set_option maxHeartbeats 4000000 in
theorem slot_Get_inst (h : IsHeap w F hb H s) (hi : H[i]? = some (some (p, c))) (hk : c.kind = 4) {tb : Nat} {L : List Ent} {sr : Int} (hc : c.tab = some (tb, L, sr)) (hs : sr < 1073741824) {j q : Nat} {cd : Cl} {bs : List V} (hv : c.vals = ⟨4, (j : Nat), ⟨#[]⟩⟩ :: bs) (hj : H[j]? = some (some (q, cd))) (hkj : cd.kind = 3) {tc : Nat} {Lc : List Ent} {sc : Int} (hcd : cd.tab = some (tc, Lc, sc)) (hsc : sc < 1073741824) (kk kn : Int) (kt : ByteArray) (hkz : kt.size ≤ 140737488351232) :
    Calls Try.prog 43 #[.pointer (some ⟨hb, 0, none⟩), V.val ⟨4, i, ⟨#[]⟩⟩, V.val ⟨kk, kn, kt⟩] w fun e w' => e = .returned (.tuple #[(instR L Lc ⟨kk, kn, kt⟩).1.val, .int .i64 (instR L Lc ⟨kk, kn, kt⟩).2]) ∧ Keeps (fun _ => False) w w' := by
  have CO := hidden (fun (W : World) (hk' : Keeps (fun _ => False) w W) => heap_Of_ok (h.calm hk') hi 0 ⟨#[]⟩ (.inl rfl))
  unfold V.val at CO
  have HP := hidden (fun (W : World) (hk' : Keeps (fun _ => False) w W) => show W.cell? ⟨p, 0, none⟩ = some (.int .i64 4) ∧ p < W.heap.size from (by
    obtain ⟨A, cap, lp, tp, An, cn, hblk, -⟩ := held_cell (h.calm hk') hi
    rw [hk] at hblk; exact ⟨blk_cell hblk 0, blk_lt hblk⟩))
  have HC := hidden (fun (W : World) (hk' : Keeps (fun _ => False) w W) => show W.cell? ⟨p, 3, none⟩ = some (.pointer (some ⟨tb, 0, none⟩)) ∧ p < W.heap.size ∧ Calls Try.prog 54 #[.pointer (some ⟨tb, 0, none⟩), V.val ⟨kk, kn, kt⟩] W fun e w' => e = .returned (.tuple #[(getR L ⟨kk, kn, kt⟩).1.val, .int .i64 (getR L ⟨kk, kn, kt⟩).2]) ∧ Keeps (fun _ => False) W w' from by
    obtain ⟨Ft, h1, h2, h3, h4, h5, h6, h7⟩ := held_tab2 (h.calm hk') hi hc
    exact ⟨h2, h3, t_Get h1 hs hkz⟩)
  have CF := hidden (fun (W : World) (hk' : Keeps (fun _ => False) w W) => lay_Find (h.calm hk') hj hkj hcd hsc ⟨#[]⟩ ⟨kk, kn, kt⟩ hkz)
  obtain ⟨g, o, cap, hpw, hgw, y1, q0, q1, q2⟩ := held_val0 h hi hv
  have HL := hidden (fun (W : World) (hk' : Keeps (fun _ => False) w W) => show W.cell? ⟨p, 1, none⟩ = some (.slice (some ⟨g, o, none⟩) (bs.length + 1) cap) ∧ W.cell? ⟨g, o, none⟩ = some (.int .i64 4) ∧ W.cell? ⟨g, o + 1, none⟩ = some (.int .i64 j) ∧ W.cell? ⟨g, o + 2, none⟩ = some (.string ⟨#[]⟩) from ⟨hk'.cell y1 (fun h => h), hk'.cell q0 (fun h => h), hk'.cell q1 (fun h => h), hk'.cell q2 (fun h => h)⟩)
  have HGC := hidden (getR_cases2 L ⟨kk, kn, kt⟩)
  unfold instR
  clear h hi hk hc hv hj hkj hcd y1 q0 q1 q2
  generalize getR L ⟨kk, kn, kt⟩ = gg at *
  obtain ⟨⟨gk, gn, gt⟩, ge⟩ := gg
  generalize getR Lc ⟨kk, kn, kt⟩ = ff at *
  obtain ⟨⟨fk, fn, ft⟩, fe⟩ := ff
  simp only at HC CF
  unfold V.val at HC CF
  refine post_gen fun R hR => ?_
  unfold V.val
  go_enter Try.func43, Try.ntmps43
  go_wp2_with fail
  have I0 := hidden (blk_alloc (blk_alloc (blk_new w (.cells #[.int .i64 4, .int .i64 i, .string ⟨#[]⟩] 26)) (.cells #[.int .i64 kk, .int .i64 kn, .string kt] 26)) (.cells #[.int .i64 0, .int .i64 0, .string ⟨#[]⟩] 26))
  have I1 := hidden (new3 w (.cells #[.int .i64 4, .int .i64 i, .string ⟨#[]⟩] 26) (.cells #[.int .i64 kk, .int .i64 kn, .string kt] 26) (.cells #[.int .i64 0, .int .i64 0, .string ⟨#[]⟩] 26))
  have I2 := hidden (new3b w (.cells #[.int .i64 4, .int .i64 i, .string ⟨#[]⟩] 26) (.cells #[.int .i64 kk, .int .i64 kn, .string kt] 26) (.cells #[.int .i64 0, .int .i64 0, .string ⟨#[]⟩] 26))
  refine (CO.out _ (by repeat (first | exact Keeps.refl _ _ | refine Keeps.alloc ?_ _))).mono ?_
  rintro e w1 ⟨rfl, hK⟩
  have HM0 := hidden (((((Keeps.refl (fun _ => False) w).alloc _).alloc _).alloc _).trans hK (fun _ _ h => h))
  have V0 := hidden (show IsVar w1 w.heap.size ⟨4, i, ⟨#[]⟩⟩ from hK.heap I0.out (fun h => h))
  have V1 := hidden (show IsVar w1 (w.heap.size + 1) ⟨kk, kn, kt⟩ from hK.heap I1.out (fun h => h))
  have HR0 := hidden (show IsVar w1 (w.heap.size + 2) V.null from hK.heap I2.out (fun h => h))
  clear hK CO I0 I1 I2
  obtain ⟨z0, hpz⟩ := HP.out _ HM0.out
  obtain ⟨b0, b1, b2, -⟩ := V1.out.cells
  have hbz := blk_lt V1.out
  simp only at b0 b1 b2
  go_wp2_with fail
  have SK := hidden (fun (W : World) (hk' : Keeps (fun _ => False) w1 W) => show W.cell? ⟨p, 3, none⟩ = some (.pointer (some ⟨tb, 0, none⟩)) ∧ W.cell? ⟨w.heap.size + 1, 0, none⟩ = some (.int .i64 kk) ∧ W.cell? ⟨w.heap.size + 1, 1, none⟩ = some (.int .i64 kn) ∧ W.cell? ⟨w.heap.size + 1, 2, none⟩ = some (.string kt) from (have b := (V1.out.keeps hk' (fun h => h)).cells; have g := HC.out W (HM0.out.trans hk' (fun _ _ h => h)); by simp only at b; exact ⟨g.1, b.1, b.2.1, b.2.2.1⟩))
  have CC := hidden (fun (W : World) (hk' : Keeps (fun _ => False) w1 W) => (HC.out W (HM0.out.trans hk' (fun _ _ h => h))).2.2)
  clear b0 b1 b2 hbz
  go_cut [10, 11] from 73 to 81 (fun u e wx => ∃ vx : Nat, u = .pointer (some ⟨vx, 0, none⟩) ∧ e = .int .i64 ge ∧ IsVar wx vx ⟨gk, gn, gt⟩ ∧ Keeps (fun _ => False) w1 wx)
  case first =>
    go_region_held3 (fun W => W.cell? ⟨p, 3, none⟩ = some (.pointer (some ⟨tb, 0, none⟩)) ∧ W.cell? ⟨w.heap.size + 1, 0, none⟩ = some (.int .i64 kk) ∧ W.cell? ⟨w.heap.size + 1, 1, none⟩ = some (.int .i64 kn) ∧ W.cell? ⟨w.heap.size + 1, 2, none⟩ = some (.string kt)) (((refine SK.out _ ?_); (repeat (first | exact Keeps.refl _ _ | exact K14.out | refine Keeps.alloc ?_ _ | refine Keeps.drewN ?_ _ | refine Keeps.drew ?_ | exact K14.out.var (r := w1.heap.size) (fun h => absurd h (Nat.lt_irrefl _)) _ _ _)))) (first | (go_at_call 54; refine (CC.out _ (by repeat (first | exact Keeps.refl _ _ | refine Keeps.alloc ?_ _ | refine Keeps.drewN ?_ _ | refine Keeps.drew ?_))).mono ?_; rintro e w14 ⟨rfl, h1⟩; have K14 := hidden (Keeps.trans (S := fun _ => False) (show Keeps (fun _ => False) w1 _ from (by repeat (first | exact Keeps.refl _ _ | refine Keeps.alloc ?_ _ | refine Keeps.drewN ?_ _ | refine Keeps.drew ?_))) h1 (fun _ _ h => h)); (try have X14 := hidden (show IsVar w14 w1.heap.size V.null from h1.heap (blk_new w1 _) (fun h => h))); (try (obtain ⟨v0, v1, v2, v3, v4, v5⟩ := X14.out.cells; have hvz := blk_lt X14.out; simp only [V.null] at v0 v1 v2)); clear h1))
    all_goals
      go_wp2_with fail
      go_meet
      first
        | exact ⟨_, rfl, rfl, X14.out.set ⟨gk, gn, gt⟩, K14.out.var (r := w1.heap.size) (fun h => absurd h (Nat.lt_irrefl _)) _ _ _⟩
        | exact ⟨_, rfl, rfl, IsVar.new w14 ⟨gk, gn, gt⟩, K14.out.alloc _⟩
  case rest =>
  obtain ⟨vx, rfl, rfl, hX, hK⟩ := hcut
  have VX := hidden hX
  have HMc := hidden (HM0.out.trans hK (fun _ _ h => h))
  have HRc := hidden (HR0.out.keeps hK (fun h => h))
  have HKc := hidden (V1.out.keeps hK (fun h => h))
  clear hX hK SK CC HC
  rcases HGC.out with e0 | ⟨x, e0⟩
  · simp only [V.null, Prod.mk.injEq, V.mk.injEq] at e0
    obtain ⟨⟨rfl, rfl, rfl⟩, rfl⟩ := e0
    clear HGC VX
    rw [if_neg (by decide)] at hR
    simp only at hR
    go_wp2_with fail
    have SK := hidden (fun (W : World) (hk' : Keeps (fun _ => False) wc W) => show (W.cell? ⟨p, 1, none⟩ = some (.slice (some ⟨g, o, none⟩) (bs.length + 1) cap) ∧ W.cell? ⟨g, o, none⟩ = some (.int .i64 4) ∧ W.cell? ⟨g, o + 1, none⟩ = some (.int .i64 j) ∧ W.cell? ⟨g, o + 2, none⟩ = some (.string ⟨#[]⟩)) ∧ W.cell? ⟨w.heap.size + 1, 0, none⟩ = some (.int .i64 kk) ∧ W.cell? ⟨w.heap.size + 1, 1, none⟩ = some (.int .i64 kn) ∧ W.cell? ⟨w.heap.size + 1, 2, none⟩ = some (.string kt) from ⟨HL.out _ (HMc.out.trans hk' (fun _ _ h => h)), (have b := (HKc.out.keeps hk' (fun h => h)).cells; by simp only at b; exact ⟨b.1, b.2.1, b.2.2.1⟩)⟩)
    have CFF := hidden (fun (W : World) (hk' : Keeps (fun _ => False) wc W) => CF.out W (HMc.out.trans hk' (fun _ _ h => h)))
    have hz2 := blk_lt HRc.out
    refine wp_region_noPanic ?_
    refine wp_region_held_drew (S := (fun W => (W.cell? ⟨p, 1, none⟩ = some (.slice (some ⟨g, o, none⟩) (bs.length + 1) cap) ∧ W.cell? ⟨g, o, none⟩ = some (.int .i64 4) ∧ W.cell? ⟨g, o + 1, none⟩ = some (.int .i64 j) ∧ W.cell? ⟨g, o + 2, none⟩ = some (.string ⟨#[]⟩)) ∧ W.cell? ⟨w.heap.size + 1, 0, none⟩ = some (.int .i64 kk) ∧ W.cell? ⟨w.heap.size + 1, 1, none⟩ = some (.int .i64 kn) ∧ W.cell? ⟨w.heap.size + 1, 2, none⟩ = some (.string kt))) (by kernel_rfl) ?_ (fun hHeld => ?_)
    · ((try dsimp only); (first | exact SP.out _ _ _ | ((refine SK.out _ ?_); (repeat with_reducible (first | exact Keeps.refl _ _ | exact K2.out | refine Keeps.drewN ?_ _ | refine Keeps.drew ?_)); done)))
    refine wpAnyH_take (i := 0) (oi := ⟨_, _, _, _, _, _⟩) (v := ?_) rfl (by kernel_rfl) (by kernel_rfl) (by kernel_rfl) (fun _ _ _ h => h) (Or.inl ⟨by rfl, ?_⟩) hHeld ?_
    rotate_left
    · (intro w' hSw; (try dsimp only at hSw); go_simp; (try with_reducible rfl))
    try simp only [Act.put, List.setIfInBounds_toArray, List.set_cons_zero, List.set_cons_succ]
    refine wpAnyH_take (i := 1) (oi := ⟨_, _, _, _, _, _⟩) (v := ?_) rfl (by kernel_rfl) (by kernel_rfl) (by kernel_rfl) (fun _ _ _ h => h) (Or.inl ⟨by rfl, ?_⟩) hHeld ?_
    rotate_left
    · (intro w' hSw; (try dsimp only at hSw); go_simp; (try with_reducible rfl))
    try simp only [Act.put, List.setIfInBounds_toArray, List.set_cons_zero, List.set_cons_succ]
    refine wpAnyH_take (i := 2) (oi := ⟨_, _, _, _, _, _⟩) (v := ?_) rfl (by kernel_rfl) (by kernel_rfl) (by kernel_rfl) (fun _ _ _ h => h) (Or.inl ⟨by rfl, ?_⟩) hHeld ?_
    rotate_left
    · (intro w' hSw; (try dsimp only at hSw); go_simp; (try with_reducible rfl))
    try simp only [Act.put, List.setIfInBounds_toArray, List.set_cons_zero, List.set_cons_succ]
    refine wpAnyH_take (i := 3) (oi := ⟨_, _, _, _, _, _⟩) (v := ?_) rfl (by kernel_rfl) (by kernel_rfl) (by kernel_rfl) (fun _ _ _ h => h) (Or.inl ⟨by rfl, ?_⟩) hHeld ?_
    rotate_left
    · (intro w' hSw; (try dsimp only at hSw); go_simp; (try with_reducible rfl))
    try simp only [Act.put, List.setIfInBounds_toArray, List.set_cons_zero, List.set_cons_succ]
    refine wpAnyH_take (i := 4) (oi := ⟨_, _, _, _, _, _⟩) (v := ?_) rfl (by kernel_rfl) (by kernel_rfl) (by kernel_rfl) (fun _ _ _ h => h) (Or.inl ⟨by rfl, ?_⟩) hHeld ?_
    rotate_left
    · (intro w' hSw; (try dsimp only at hSw); go_simp; (try with_reducible rfl))
    try simp only [Act.put, List.setIfInBounds_toArray, List.set_cons_zero, List.set_cons_succ]
    refine wpAnyH_take (i := 5) (oi := ⟨_, _, _, _, _, _⟩) (v := ?_) rfl (by kernel_rfl) (by kernel_rfl) (by kernel_rfl) (fun _ _ _ h => h) (Or.inl ⟨by rfl, ?_⟩) hHeld ?_
    rotate_left
    · (intro w' hSw; (try dsimp only at hSw); go_simp; (try with_reducible rfl))
    try simp only [Act.put, List.setIfInBounds_toArray, List.set_cons_zero, List.set_cons_succ]
    refine wpAnyH_take (i := 6) (oi := ⟨_, _, _, _, _, _⟩) (v := ?_) rfl (by kernel_rfl) (by kernel_rfl) (by kernel_rfl) (fun _ _ _ h => h) (Or.inl ⟨by rfl, ?_⟩) hHeld ?_
    rotate_left
    · (intro w' hSw; (try dsimp only at hSw); go_simp; (try with_reducible rfl))
    try simp only [Act.put, List.setIfInBounds_toArray, List.set_cons_zero, List.set_cons_succ]
    refine wpAnyH_take (i := 7) (oi := ⟨_, _, _, _, _, _⟩) (v := ?_) rfl (by kernel_rfl) (by kernel_rfl) (by kernel_rfl) (fun _ _ _ h => h) (Or.inl ⟨by rfl, ?_⟩) hHeld ?_
    rotate_left
    · (intro w' hSw; (try dsimp only at hSw); go_simp; (try with_reducible rfl))
    try simp only [Act.put, List.setIfInBounds_toArray, List.set_cons_zero, List.set_cons_succ]
    refine wpAnyH_ready (rs := [8]) (by kernel_rfl) (by simp) ?_
    refine AllReadyH.cons (o := ⟨_, _, _, _, _, _⟩) rfl (fun K hK => ?_) AllReadyH.nil
    go_simp
    (first | (go_at_call 21; refine (CFF.out _ (by repeat with_reducible (first | exact Keeps.refl _ _ | refine Keeps.drewN ?_ _ | refine Keeps.drew ?_))).mono ?_; rintro e w2 ⟨rfl, h1⟩; have K2 := hidden (Keeps.trans (S := fun _ => False) (show Keeps (fun _ => False) wc _ from (by repeat with_reducible (first | exact Keeps.refl _ _ | refine Keeps.drewN ?_ _ | refine Keeps.drew ?_))) h1 (fun _ _ h => h)); have HR2 := hidden (HRc.out.keeps K2.out (fun h => h)); have SP := hidden (fun (x y z : Value) => show ((((w2.setCell ⟨w.heap.size + 2, 0, none⟩ x).setCell ⟨w.heap.size + 2, 1, none⟩ y).setCell ⟨w.heap.size + 2, 2, none⟩ z).cell? ⟨p, 1, none⟩ = some (.slice (some ⟨g, o, none⟩) (bs.length + 1) cap) ∧ (((w2.setCell ⟨w.heap.size + 2, 0, none⟩ x).setCell ⟨w.heap.size + 2, 1, none⟩ y).setCell ⟨w.heap.size + 2, 2, none⟩ z).cell? ⟨g, o, none⟩ = some (.int .i64 4) ∧ (((w2.setCell ⟨w.heap.size + 2, 0, none⟩ x).setCell ⟨w.heap.size + 2, 1, none⟩ y).setCell ⟨w.heap.size + 2, 2, none⟩ z).cell? ⟨g, o + 1, none⟩ = some (.int .i64 j) ∧ (((w2.setCell ⟨w.heap.size + 2, 0, none⟩ x).setCell ⟨w.heap.size + 2, 1, none⟩ y).setCell ⟨w.heap.size + 2, 2, none⟩ z).cell? ⟨g, o + 2, none⟩ = some (.string ⟨#[]⟩)) ∧ (((w2.setCell ⟨w.heap.size + 2, 0, none⟩ x).setCell ⟨w.heap.size + 2, 1, none⟩ y).setCell ⟨w.heap.size + 2, 2, none⟩ z).cell? ⟨w.heap.size + 1, 0, none⟩ = some (.int .i64 kk) ∧ (((w2.setCell ⟨w.heap.size + 2, 0, none⟩ x).setCell ⟨w.heap.size + 2, 1, none⟩ y).setCell ⟨w.heap.size + 2, 2, none⟩ z).cell? ⟨w.heap.size + 1, 1, none⟩ = some (.int .i64 kn) ∧ (((w2.setCell ⟨w.heap.size + 2, 0, none⟩ x).setCell ⟨w.heap.size + 2, 1, none⟩ y).setCell ⟨w.heap.size + 2, 2, none⟩ z).cell? ⟨w.heap.size + 1, 2, none⟩ = some (.string kt) from (have s0 := SK.out _ K2.out; have kv := (Keeps.refl (fun k => k = w.heap.size + 2) w2).var (r := w.heap.size + 2) (fun _ => rfl) x y z; ⟨⟨kv.cell s0.1.1 (fun e => by simp only at e; omega), kv.cell s0.1.2.1 (fun e => by simp only at e; omega), kv.cell s0.1.2.2.1 (fun e => by simp only at e; omega), kv.cell s0.1.2.2.2 (fun e => by simp only at e; omega)⟩, kv.cell s0.2.1 (by simp), kv.cell s0.2.2.1 (by simp), kv.cell s0.2.2.2 (by simp)⟩)); obtain ⟨v0, v1, v2, v3, v4, v5⟩ := HR2.out.cells; have hvz := blk_lt HR2.out; simp only [V.null] at v0 v1 v2; clear h1))
    go_wp2_with fail
    refine hK.out _ _ ?_ (fun hH2 => ?_)
    · ((try dsimp only); (first | exact SP.out _ _ _ | ((refine SK.out _ ?_); (repeat with_reducible (first | exact Keeps.refl _ _ | exact K2.out | refine Keeps.drewN ?_ _ | refine Keeps.drew ?_)); done)))
    clear hK K hHeld
    have hHeld := hH2
    clear hH2
    try simp only [Act.put, List.setIfInBounds_toArray, List.set_cons_zero, List.set_cons_succ]
    refine wpAnyH_take (i := 9) (oi := ⟨_, _, _, _, _, _⟩) (v := ?_) rfl (by kernel_rfl) (by kernel_rfl) (by kernel_rfl) (fun _ _ _ h => h) (Or.inl ⟨by rfl, ?_⟩) hHeld ?_
    rotate_left
    · (intro w' hSw; (try dsimp only at hSw); go_simp; (try with_reducible rfl))
    try simp only [Act.put, List.setIfInBounds_toArray, List.set_cons_zero, List.set_cons_succ]
    refine wpAnyH_take (i := 10) (oi := ⟨_, _, _, _, _, _⟩) (v := ?_) rfl (by kernel_rfl) (by kernel_rfl) (by kernel_rfl) (fun _ _ _ h => h) (Or.inl ⟨by rfl, ?_⟩) hHeld ?_
    rotate_left
    · (intro w' hSw; (try dsimp only at hSw); go_simp; (try with_reducible rfl))
    try simp only [Act.put, List.setIfInBounds_toArray, List.set_cons_zero, List.set_cons_succ]
    refine wpAnyH_ready (rs := [11]) (by kernel_rfl) (by simp) ?_
    refine AllReadyH.cons (o := ⟨_, _, _, _, _, _⟩) rfl (fun K hK => ?_) AllReadyH.nil
    go_simp
    refine hK.out _ _ ?_ (fun hH2 => ?_)
    · ((try dsimp only); (first | exact SP.out _ _ _ | ((refine SK.out _ ?_); (repeat with_reducible (first | exact Keeps.refl _ _ | exact K2.out | refine Keeps.drewN ?_ _ | refine Keeps.drew ?_)); done)))
    clear hK K hHeld
    have hHeld := hH2
    clear hH2
    try simp only [Act.put, List.setIfInBounds_toArray, List.set_cons_zero, List.set_cons_succ]
    refine wpAnyH_take (i := 12) (oi := ⟨_, _, _, _, _, _⟩) (v := ?_) rfl (by kernel_rfl) (by kernel_rfl) (by kernel_rfl) (fun _ _ _ h => h) (Or.inl ⟨by rfl, ?_⟩) hHeld ?_
    rotate_left
    · (intro w' hSw; (try dsimp only at hSw); go_simp; (try with_reducible rfl))
    try simp only [Act.put, List.setIfInBounds_toArray, List.set_cons_zero, List.set_cons_succ]
    refine wpAnyH_done (by kernel_rfl) ?_ _
    refine NoPanic.normal ?_
    clear hHeld
    have HR := hidden (HR2.out)
    have HM := hidden (HMc.out.trans K2.out (fun _ _ h => h))
    go_wp2_with fail
    obtain ⟨d0, d1, d2, _⟩ := (HR.out.set ⟨fk, fn, ft⟩).cells
    simp only at d0 d1 d2
    exact bodyPost_ret (v := .tuple #[V.val ⟨fk, fn, ft⟩, .int .i64 fe]) (by simp [results, Try.results43, go_sem, d0, d1, d2, V.val]) rfl (hR.out _ _ ⟨rfl, HM.out.var (r := w.heap.size + 2) (fun h => by omega) _ _ _⟩)
  · simp only [Prod.mk.injEq] at e0
    obtain ⟨-, rfl⟩ := e0
    rw [if_pos rfl] at hR
    simp only at hR
    obtain ⟨a0, a1, a2, -⟩ := VX.out.cells
    have haz := blk_lt VX.out
    obtain ⟨v0, v1, v2, v3, v4, v5⟩ := HRc.out.cells
    have hvz := blk_lt HRc.out
    simp only [V.null] at v0 v1 v2 a0 a1 a2
    have HR := hidden HRc.out
    have HM := hidden HMc.out
    go_wp2_with fail
    obtain ⟨d0, d1, d2, _⟩ := (HR.out.set ⟨gk, gn, gt⟩).cells
    simp only at d0 d1 d2
    exact bodyPost_ret (v := .tuple #[V.val ⟨gk, gn, gt⟩, .int .i64 0]) (by simp [results, Try.results43, go_sem, d0, d1, d2, V.val]) rfl (hR.out _ _ ⟨rfl, HM.out.var (r := w.heap.size + 2) (fun h => by omega) _ _ _⟩)

end
end Go.Proofs.Ytfdfjogoiagnkaa
namespace Go.Proofs.Ytfdfjogoiagnkaa
open Go.RowKit
set_option maxRecDepth 100000

section
variable {w : World} {F : Nat → Prop} {hb : Nat} {H : List (Option (Nat × Cl))} {s : HSt} {i p : Nat} {c : Cl}

theorem held_list2 (h : IsHeap w F hb H s) (hi : H[i]? = some (some (p, c))) {b : Nat} {xs : List V} (hc : c.list = some (b, xs)) :
    ∃ Fl, w.cell? ⟨p, 2, none⟩ = some (.pointer (some ⟨b, 0, none⟩)) ∧ p < w.heap.size ∧ IsList w Fl b xs ∧ (∀ k, Fl k → F k) ∧ ¬ Fl p ∧ xs.length ≤ 1048576 ∧ ∀ (w1 : World) (F' : Nat → Prop) (ys : List V), Keeps Fl w w1 → IsList w1 F' b ys → Fresh Fl F' w → ys.length ≤ 1048576 →
      ∃ F2, IsHeap w1 F2 hb (H.set i (some (p, { c with list := some (b, ys) }))) s ∧ Keeps F w w1 ∧ Fresh F F2 w := by
  obtain ⟨Fam, vc, vf, hX⟩ := h
  obtain ⟨G, vv, vn, lp, tp, hC⟩ := hX.each i p c hi
  have hl := hC.list
  rw [hc] at hl
  obtain ⟨rfl, hl⟩ := hl
  refine ⟨G 1, ?_, blk_lt hC.blk, hl, fun k hk => hX.sub _ k (hC.sub 1 k hk), hC.off 1, hC.small.list _ _ hc, fun w1 F' ys hk h1 hf hs => ?_⟩
  · have := blk_cell hC.blk 2
    simpa using this
  · obtain ⟨g1, g2, g3⟩ := hC.setList (xs := xs) hk h1 hf hs
    obtain ⟨r1, r2, r3⟩ := hX.setCell hi g2 g1 g3
    exact ⟨_, ⟨_, _, _, r1⟩, r2, r3⟩

set_option maxHeartbeats 4000000 in
theorem slot_Set_no (h : IsHeap w F hb H s) (ok on : Int) (ot : ByteArray) (hv : (ofR H ⟨ok, on, ot⟩ 0).2 ≠ 0) (kk kn : Int) (kt : ByteArray) (vk vn : Int) (vt : ByteArray) :
    Calls Try.prog 41 #[.pointer (some ⟨hb, 0, none⟩), V.val ⟨ok, on, ot⟩, V.val ⟨kk, kn, kt⟩, V.val ⟨vk, vn, vt⟩] w fun e w' => e = .returned (.int .i64 30) ∧ Keeps (fun _ => False) w w' := by
  have CO := hidden (fun (W : World) (hk' : Keeps (fun _ => False) w W) => heap_Of (h.calm hk') ⟨ok, on, ot⟩ 0)
  unfold V.val at CO
  have hne : ((ofR H ⟨ok, on, ot⟩ 0).2 != 0) = true := by simpa using hv
  generalize (ofR H ⟨ok, on, ot⟩ 0).1 = pa at *
  generalize (ofR H ⟨ok, on, ot⟩ 0).2 = ea at *
  clear h hv
  refine post_gen fun R hR => ?_
  unfold V.val
  go_enter Try.func41, Try.ntmps41
  go_wp2_with fail
  refine (CO.out _ (by repeat (first | exact Keeps.refl _ _ | refine Keeps.alloc ?_ _))).mono ?_
  rintro e w1 ⟨rfl, hK⟩
  have HM := hidden (((((Keeps.refl (fun _ => False) w).alloc _).alloc _).alloc _).trans hK (fun _ _ h => h))
  have HV1 := hidden (show IsVar w1 (w.heap.size + 1) ⟨kk, kn, kt⟩ from hK.heap (new3 w _ _ _) (fun h => h))
  have HV2 := hidden (show IsVar w1 (w.heap.size + 2) ⟨vk, vn, vt⟩ from hK.heap (new3b w _ _ _) (fun h => h))
  clear hK CO
  clear HV1 HV2
  go_wp2_with fail
  exact hR.out _ _ ⟨rfl, HM.out⟩

set_option maxHeartbeats 4000000 in
theorem slot_Set_array_key (h : IsHeap w F hb H s) (hi : H[i]? = some (some (p, c))) (hk : c.kind = 1) (kk kn : Int) (kt : ByteArray) (hkk : kk ≠ 2) (vk vn : Int) (vt : ByteArray) :
    Calls Try.prog 41 #[.pointer (some ⟨hb, 0, none⟩), V.val ⟨4, i, ⟨#[]⟩⟩, V.val ⟨kk, kn, kt⟩, V.val ⟨vk, vn, vt⟩] w fun e w' => e = .returned (.int .i64 30) ∧ Keeps (fun _ => False) w w' := by
  have CO := hidden (fun (W : World) (hk' : Keeps (fun _ => False) w W) => heap_Of_ok (h.calm hk') hi 0 ⟨#[]⟩ (.inl rfl))
  unfold V.val at CO
  have HP := hidden (fun (W : World) (hk' : Keeps (fun _ => False) w W) => show W.cell? ⟨p, 0, none⟩ = some (.int .i64 c.kind) ∧ p < W.heap.size from (by
    obtain ⟨A, cap, lp, tp, An, cn, hblk, -⟩ := held_cell (h.calm hk') hi
    exact ⟨blk_cell hblk 0, blk_lt hblk⟩))
  rw [hk] at HP
  clear h hi hk
  refine post_gen fun R hR => ?_
  unfold V.val
  go_enter Try.func41, Try.ntmps41
  go_wp2_with fail
  refine (CO.out _ (by repeat (first | exact Keeps.refl _ _ | refine Keeps.alloc ?_ _))).mono ?_
  rintro e w1 ⟨rfl, hK⟩
  have HM := hidden (((((Keeps.refl (fun _ => False) w).alloc _).alloc _).alloc _).trans hK (fun _ _ h => h))
  have HV1 := hidden (show IsVar w1 (w.heap.size + 1) ⟨kk, kn, kt⟩ from hK.heap (new3 w _ _ _) (fun h => h))
  have HV2 := hidden (show IsVar w1 (w.heap.size + 2) ⟨vk, vn, vt⟩ from hK.heap (new3b w _ _ _) (fun h => h))
  clear hK CO
  obtain ⟨z0, hpz⟩ := HP.out _ HM.out
  obtain ⟨b0, b1, b2, -⟩ := HV1.out.cells
  have hbz := blk_lt HV1.out
  simp only at b0 b1 b2
  clear HV1 HV2
  go_wp2_with fail
  exact hR.out _ _ ⟨rfl, HM.out⟩

set_option maxHeartbeats 4000000 in
theorem slot_Set_array_out (h : IsHeap w F hb H s) (hi : H[i]? = some (some (p, c))) (hk : c.kind = 1) {lb : Nat} {xs : List V} (hc : c.list = some (lb, xs)) (kn : Int) (kt : ByteArray) (hn : kn < 0 ∨ (xs.length : Int) ≤ kn) (vk vn : Int) (vt : ByteArray) :
    Calls Try.prog 41 #[.pointer (some ⟨hb, 0, none⟩), V.val ⟨4, i, ⟨#[]⟩⟩, V.val ⟨2, kn, kt⟩, V.val ⟨vk, vn, vt⟩] w fun e w' => e = .returned (.int .i64 1) ∧ Keeps (fun _ => False) w w' := by
  have CO := hidden (fun (W : World) (hk' : Keeps (fun _ => False) w W) => heap_Of_ok (h.calm hk') hi 0 ⟨#[]⟩ (.inl rfl))
  unfold V.val at CO
  have HP := hidden (fun (W : World) (hk' : Keeps (fun _ => False) w W) => show W.cell? ⟨p, 0, none⟩ = some (.int .i64 c.kind) ∧ p < W.heap.size from (by
    obtain ⟨A, cap, lp, tp, An, cn, hblk, -⟩ := held_cell (h.calm hk') hi
    exact ⟨blk_cell hblk 0, blk_lt hblk⟩))
  have CP := hidden (fun (W : World) (hk' : Keeps (fun _ => False) w W) => show W.cell? ⟨p, 2, none⟩ = some (.pointer (some ⟨lb, 0, none⟩)) ∧ Calls Try.prog 65 #[.pointer (some ⟨lb, 0, none⟩), .int .i64 kn, V.val ⟨vk, vn, vt⟩] W fun e w' => e = .returned (.int .i64 1) ∧ Keeps (fun _ => False) W w' from by
    obtain ⟨Fl, h1, h2, h3, -⟩ := held_list (h.calm hk') hi hc
    exact ⟨h1, list_Set_none W Fl lb xs kn ⟨vk, vn, vt⟩ h3 hn⟩)
  unfold V.val at CP
  rw [hk] at HP
  clear h hi hk hc hn
  refine post_gen fun R hR => ?_
  unfold V.val
  go_enter Try.func41, Try.ntmps41
  go_wp2_with fail
  refine (CO.out _ (by repeat (first | exact Keeps.refl _ _ | refine Keeps.alloc ?_ _))).mono ?_
  rintro e w1 ⟨rfl, hK⟩
  have HM := hidden (((((Keeps.refl (fun _ => False) w).alloc _).alloc _).alloc _).trans hK (fun _ _ h => h))
  have HV1 := hidden (show IsVar w1 (w.heap.size + 1) ⟨2, kn, kt⟩ from hK.heap (new3 w _ _ _) (fun h => h))
  have HV2 := hidden (show IsVar w1 (w.heap.size + 2) ⟨vk, vn, vt⟩ from hK.heap (new3b w _ _ _) (fun h => h))
  clear hK CO
  obtain ⟨z0, hpz⟩ := HP.out _ HM.out
  obtain ⟨b0, b1, b2, -⟩ := HV1.out.cells
  have hbz := blk_lt HV1.out
  simp only at b0 b1 b2
  go_wp2_with fail
  clear b0 b1 b2 hbz
  have SK := hidden (fun (W : World) (hk' : Keeps (fun _ => False) w1 W) => show W.cell? ⟨p, 2, none⟩ = some (.pointer (some ⟨lb, 0, none⟩)) ∧ W.cell? ⟨w.heap.size + 1, 0, none⟩ = some (.int .i64 2) ∧ W.cell? ⟨w.heap.size + 1, 1, none⟩ = some (.int .i64 kn) ∧ W.cell? ⟨w.heap.size + 1, 2, none⟩ = some (.string kt) ∧ W.cell? ⟨w.heap.size + 2, 0, none⟩ = some (.int .i64 vk) ∧ W.cell? ⟨w.heap.size + 2, 1, none⟩ = some (.int .i64 vn) ∧ W.cell? ⟨w.heap.size + 2, 2, none⟩ = some (.string vt) from by
    have a := (CP.out _ (HM.out.trans hk' (fun _ _ h => h))).1
    obtain ⟨b0, b1, b2, -⟩ := (HV1.out.keeps hk' (fun h => h)).cells
    obtain ⟨c0, c1, c2, -⟩ := (HV2.out.keeps hk' (fun h => h)).cells
    exact ⟨a, b0, b1, b2, c0, c1, c2⟩)
  have CPP := hidden (fun (W : World) (hk' : Keeps (fun _ => False) w1 W) => (CP.out W (HM.out.trans hk' (fun _ _ h => h))).2)
  clear CP HV1 HV2
  go_region_held3 (fun W => W.cell? ⟨p, 2, none⟩ = some (.pointer (some ⟨lb, 0, none⟩)) ∧ W.cell? ⟨w.heap.size + 1, 0, none⟩ = some (.int .i64 2) ∧ W.cell? ⟨w.heap.size + 1, 1, none⟩ = some (.int .i64 kn) ∧ W.cell? ⟨w.heap.size + 1, 2, none⟩ = some (.string kt) ∧ W.cell? ⟨w.heap.size + 2, 0, none⟩ = some (.int .i64 vk) ∧ W.cell? ⟨w.heap.size + 2, 1, none⟩ = some (.int .i64 vn) ∧ W.cell? ⟨w.heap.size + 2, 2, none⟩ = some (.string vt)) (first | exact SE.out | exact SK.out _ (Keeps.refl _ _) | exact SK.out _ ((Keeps.refl _ w1).drewN _)) (first | (go_at_call 65; refine (CPP.out _ ((Keeps.refl _ w1).drewN _)).mono ?_; rintro e w2 ⟨rfl, h1⟩; have K2 := hidden (((Keeps.refl (fun _ => False) w1).drewN _).trans h1 (fun _ _ h => h)); have SE := hidden (SK.out _ K2.out); clear h1))
  go_wp2_with fail
  exact hR.out _ _ ⟨rfl, HM.out.trans K2.out (fun _ _ h => h)⟩

set_option maxHeartbeats 4000000 in
theorem slot_Set_array_in (h : IsHeap w F hb H s) (hi : H[i]? = some (some (p, c))) (hk : c.kind = 1) {lb : Nat} {xs : List V} (hc : c.list = some (lb, xs)) (m : Nat) (kt : ByteArray) (hn : m < xs.length) (vk vn : Int) (vt : ByteArray) :
    Calls Try.prog 41 #[.pointer (some ⟨hb, 0, none⟩), V.val ⟨4, i, ⟨#[]⟩⟩, V.val ⟨2, (m : Nat), kt⟩, V.val ⟨vk, vn, vt⟩] w fun e w' => ∃ F', e = .returned (.int .i64 0) ∧ IsHeap w' F' hb (H.set i (some (p, { c with list := some (lb, xs.set m ⟨vk, vn, vt⟩) }))) s ∧ Keeps F w w' ∧ Fresh F F' w := by
  have CO := hidden (fun (W : World) (hk' : Keeps (fun _ => False) w W) => heap_Of_ok (h.calm hk') hi 0 ⟨#[]⟩ (.inl rfl))
  unfold V.val at CO
  have HP := hidden (fun (W : World) (hk' : Keeps (fun _ => False) w W) => show W.cell? ⟨p, 0, none⟩ = some (.int .i64 c.kind) ∧ p < W.heap.size from (by
    obtain ⟨A, cap, lp, tp, An, cn, hblk, -⟩ := held_cell (h.calm hk') hi
    exact ⟨blk_cell hblk 0, blk_lt hblk⟩))
  have hin := hidden h.inw
  have CP := hidden (fun (W : World) (hk' : Keeps (fun _ => False) w W) => show W.cell? ⟨p, 2, none⟩ = some (.pointer (some ⟨lb, 0, none⟩)) ∧ ∃ Ft : Nat → Prop, ¬ Ft p ∧ (∀ k, Ft k → F k) ∧ Calls Try.prog 65 #[.pointer (some ⟨lb, 0, none⟩), .int .i64 (m : Nat), V.val ⟨vk, vn, vt⟩] W fun e w' => ∃ F' : Nat → Prop, e = .returned (.int .i64 0) ∧ IsHeap w' F' hb (H.set i (some (p, { c with list := some (lb, xs.set m ⟨vk, vn, vt⟩) }))) s ∧ Keeps Ft W w' ∧ Fresh F F' W from by
    obtain ⟨Fl, h1, h2, h3, h4, h6, hl, h5⟩ := held_list2 (h.calm hk') hi hc
    refine ⟨h1, Fl, h6, h4, (list_Set_some W Fl lb xs m ⟨vk, vn, vt⟩ h3 hn).mono ?_⟩
    rintro e w' ⟨rfl, g1, g2⟩
    obtain ⟨F2, r1, r2, r3⟩ := h5 w' Fl _ g2 g1 (Fresh.refl _ _) (by rw [List.length_set]; exact hl)
    exact ⟨F2, rfl, r1, g2, r3⟩)
  unfold V.val at CP
  clear h hi
  generalize H.set i (some (p, { c with list := some (lb, xs.set m ⟨vk, vn, vt⟩) })) = H' at *
  refine post_gen fun R hR => ?_
  unfold V.val
  go_enter Try.func41, Try.ntmps41
  go_wp2_with fail
  refine (CO.out _ (by repeat (first | exact Keeps.refl _ _ | refine Keeps.alloc ?_ _))).mono ?_
  rintro e w1 ⟨rfl, hK⟩
  have HM := hidden (((((Keeps.refl (fun _ => False) w).alloc _).alloc _).alloc _).trans hK (fun _ _ h => h))
  have HV1 := hidden (show IsVar w1 (w.heap.size + 1) ⟨2, (m : Nat), kt⟩ from hK.heap (new3 w _ _ _) (fun h => h))
  have HV2 := hidden (show IsVar w1 (w.heap.size + 2) ⟨vk, vn, vt⟩ from hK.heap (new3b w _ _ _) (fun h => h))
  clear hK CO
  obtain ⟨-, Ft0, hnp, hsub, -⟩ := CP.out _ HM.out
  obtain ⟨z0, hpz⟩ := HP.out _ HM.out
  obtain ⟨b0, b1, b2, -⟩ := HV1.out.cells
  have hbz := blk_lt HV1.out
  simp only at b0 b1 b2
  rw [hk] at z0
  clear HP
  all_goals
    go_wp2_with fail
    clear b0 b1 b2 hbz
    have SK := hidden (fun (W : World) (hk' : Keeps (fun _ => False) w1 W) => show W.cell? ⟨p, 2, none⟩ = some (.pointer (some ⟨lb, 0, none⟩)) ∧ W.cell? ⟨w.heap.size + 1, 0, none⟩ = some (.int .i64 2) ∧ W.cell? ⟨w.heap.size + 1, 1, none⟩ = some (.int .i64 (m : Nat)) ∧ W.cell? ⟨w.heap.size + 1, 2, none⟩ = some (.string kt) ∧ W.cell? ⟨w.heap.size + 2, 0, none⟩ = some (.int .i64 vk) ∧ W.cell? ⟨w.heap.size + 2, 1, none⟩ = some (.int .i64 vn) ∧ W.cell? ⟨w.heap.size + 2, 2, none⟩ = some (.string vt) from by
      have a := (CP.out _ (HM.out.trans hk' (fun _ _ h => h))).1
      obtain ⟨b0, b1, b2, -⟩ := (HV1.out.keeps hk' (fun h => h)).cells
      obtain ⟨c0, c1, c2, -⟩ := (HV2.out.keeps hk' (fun h => h)).cells
      exact ⟨a, b0, b1, b2, c0, c1, c2⟩)
    have CPP := hidden (fun (W : World) (hk' : Keeps (fun _ => False) w1 W) => show Calls Try.prog 65 #[.pointer (some ⟨lb, 0, none⟩), .int .i64 (m : Nat), .agg #[.int .i64 vk, .int .i64 vn, .string vt]] W fun e w' => e = .returned (.int .i64 0) ∧ (∃ F' : Nat → Prop, IsHeap w' F' hb H' s ∧ Keeps F w w' ∧ Fresh F F' w) ∧ (W.cell? ⟨p, 2, none⟩ = some (.pointer (some ⟨lb, 0, none⟩)) → w'.cell? ⟨p, 2, none⟩ = some (.pointer (some ⟨lb, 0, none⟩))) ∧ Keeps F W w' from by
      have hkk := HM.out.trans hk' (fun _ _ h => h)
      obtain ⟨-, Fu, g3, g4, g5⟩ := CP.out _ hkk
      refine g5.mono ?_
      rintro e w' ⟨F', rfl, r1, r2, r3⟩
      exact ⟨rfl, ⟨F', r1, (hkk.mono (T := F) (fun _ _ h => h.elim)).trans r2 (fun k _ h => g4 k h), fun k h => (r3 k h).imp id (fun h => Nat.le_trans hkk.size h)⟩, fun e => r2.cell e g3, r2.mono (fun k _ h => g4 k h)⟩)
    have NB1 : ¬ F (w.heap.size + 1) := fun h => by have := hin.out _ h; omega
    have NB2 : ¬ F (w.heap.size + 2) := fun h => by have := hin.out _ h; omega
    clear CP HV1 HV2 hnp hsub
    go_region_held3 (fun W => W.cell? ⟨p, 2, none⟩ = some (.pointer (some ⟨lb, 0, none⟩)) ∧ W.cell? ⟨w.heap.size + 1, 0, none⟩ = some (.int .i64 2) ∧ W.cell? ⟨w.heap.size + 1, 1, none⟩ = some (.int .i64 (m : Nat)) ∧ W.cell? ⟨w.heap.size + 1, 2, none⟩ = some (.string kt) ∧ W.cell? ⟨w.heap.size + 2, 0, none⟩ = some (.int .i64 vk) ∧ W.cell? ⟨w.heap.size + 2, 1, none⟩ = some (.int .i64 vn) ∧ W.cell? ⟨w.heap.size + 2, 2, none⟩ = some (.string vt)) (first | exact SE.out | exact SK.out _ (Keeps.refl _ _) | exact SK.out _ ((Keeps.refl _ w1).drewN _)) (first | (go_at_call 65; refine (CPP.out _ ((Keeps.refl _ w1).drewN _)).mono ?_; rintro e w2 ⟨rfl, h1, h2, h3⟩; have G1 := hidden h1; have s0 := SK.out _ ((Keeps.refl _ w1).drewN 1); have SE := hidden (show w2.cell? ⟨p, 2, none⟩ = some (.pointer (some ⟨lb, 0, none⟩)) ∧ w2.cell? ⟨w.heap.size + 1, 0, none⟩ = some (.int .i64 2) ∧ w2.cell? ⟨w.heap.size + 1, 1, none⟩ = some (.int .i64 (m : Nat)) ∧ w2.cell? ⟨w.heap.size + 1, 2, none⟩ = some (.string kt) ∧ w2.cell? ⟨w.heap.size + 2, 0, none⟩ = some (.int .i64 vk) ∧ w2.cell? ⟨w.heap.size + 2, 1, none⟩ = some (.int .i64 vn) ∧ w2.cell? ⟨w.heap.size + 2, 2, none⟩ = some (.string vt) from ⟨h2 s0.1, h3.cell s0.2.1 NB1, h3.cell s0.2.2.1 NB1, h3.cell s0.2.2.2.1 NB1, h3.cell s0.2.2.2.2.1 NB2, h3.cell s0.2.2.2.2.2.1 NB2, h3.cell s0.2.2.2.2.2.2 NB2⟩); clear h1 h2 h3 s0))
    obtain ⟨F', r1, r2, r3⟩ := G1.out
    clear SE SK CPP
    go_wp2_with fail
    exact hR.out _ _ ⟨F', rfl, r1, r2, r3⟩

set_option maxHeartbeats 4000000 in
theorem slot_Set_tab (h : IsHeap w F hb H s) (hi : H[i]? = some (some (p, c))) (hk : c.kind = 2 ∨ c.kind = 3 ∨ c.kind = 4) {tb : Nat} {L : List Ent} {sr : Int} (hc : c.tab = some (tb, L, sr)) (hs : sr < 1073740000) (kk kn : Int) (kt : ByteArray) (hkz : kt.size ≤ 140737488351232) (vk vn : Int) (vt : ByteArray) :
    Calls Try.prog 41 #[.pointer (some ⟨hb, 0, none⟩), V.val ⟨4, i, ⟨#[]⟩⟩, V.val ⟨kk, kn, kt⟩, V.val ⟨vk, vn, vt⟩] w fun e w' => ∃ F', e = .returned (.int .i64 (getR L ⟨kk, kn, kt⟩).2) ∧ IsHeap w' F' hb (tabH H i p c tb (putL L ⟨kk, kn, kt⟩ ⟨vk, vn, vt⟩, sr)) s ∧ Keeps F w w' ∧ Fresh F F' w := by
  have CO := hidden (fun (W : World) (hk' : Keeps (fun _ => False) w W) => heap_Of_ok (h.calm hk') hi 0 ⟨#[]⟩ (.inl rfl))
  unfold V.val at CO
  have HP := hidden (fun (W : World) (hk' : Keeps (fun _ => False) w W) => show W.cell? ⟨p, 0, none⟩ = some (.int .i64 c.kind) ∧ p < W.heap.size from (by
    obtain ⟨A, cap, lp, tp, An, cn, hblk, -⟩ := held_cell (h.calm hk') hi
    exact ⟨blk_cell hblk 0, blk_lt hblk⟩))
  have hin := hidden h.inw
  have CP := hidden (fun (W : World) (hk' : Keeps (fun _ => False) w W) => show W.cell? ⟨p, 3, none⟩ = some (.pointer (some ⟨tb, 0, none⟩)) ∧ ∃ Ft : Nat → Prop, ¬ Ft p ∧ (∀ k, Ft k → F k) ∧ Calls Try.prog 66 #[.pointer (some ⟨tb, 0, none⟩), V.val ⟨kk, kn, kt⟩, V.val ⟨vk, vn, vt⟩] W fun e w' => ∃ F' : Nat → Prop, e = .returned (.int .i64 (getR L ⟨kk, kn, kt⟩).2) ∧ IsHeap w' F' hb (tabH H i p c tb (putL L ⟨kk, kn, kt⟩ ⟨vk, vn, vt⟩, sr)) s ∧ Keeps Ft W w' ∧ Fresh F F' W from by
    obtain ⟨Ft, h1, h2, h3, h4, h5, h6, h7⟩ := held_tab2 (h.calm hk') hi hc
    refine ⟨h2, Ft, h4, h6, (t_Set h1 (by omega) ⟨vk, vn, vt⟩ hkz).mono ?_⟩
    rintro e w' ⟨rfl, g1, g2⟩
    obtain ⟨F2, r1, r2, r3⟩ := h7 w' Ft _ _ g2 g1 (Fresh.refl _ _) (by omega)
    exact ⟨F2, rfl, r1, g2, r3⟩)
  unfold V.val at CP
  clear h hi
  generalize tabH H i p c tb (putL L ⟨kk, kn, kt⟩ ⟨vk, vn, vt⟩, sr) = H' at *
  refine post_gen fun R hR => ?_
  unfold V.val
  go_enter Try.func41, Try.ntmps41
  go_wp2_with fail
  refine (CO.out _ (by repeat (first | exact Keeps.refl _ _ | refine Keeps.alloc ?_ _))).mono ?_
  rintro e w1 ⟨rfl, hK⟩
  have HM := hidden (((((Keeps.refl (fun _ => False) w).alloc _).alloc _).alloc _).trans hK (fun _ _ h => h))
  have HV1 := hidden (show IsVar w1 (w.heap.size + 1) ⟨kk, kn, kt⟩ from hK.heap (new3 w _ _ _) (fun h => h))
  have HV2 := hidden (show IsVar w1 (w.heap.size + 2) ⟨vk, vn, vt⟩ from hK.heap (new3b w _ _ _) (fun h => h))
  clear hK CO
  obtain ⟨-, Ft0, hnp, hsub, -⟩ := CP.out _ HM.out
  obtain ⟨z0, hpz⟩ := HP.out _ HM.out
  obtain ⟨b0, b1, b2, -⟩ := HV1.out.cells
  have hbz := blk_lt HV1.out
  simp only at b0 b1 b2
  generalize (getR L ⟨kk, kn, kt⟩).2 = ge at *
  generalize c.kind = kd at *
  clear HP
  rcases hk with rfl | rfl | rfl
  all_goals
    go_wp2_with fail
    clear b0 b1 b2 hbz
    have SK := hidden (fun (W : World) (hk' : Keeps (fun _ => False) w1 W) => show W.cell? ⟨p, 3, none⟩ = some (.pointer (some ⟨tb, 0, none⟩)) ∧ W.cell? ⟨w.heap.size + 1, 0, none⟩ = some (.int .i64 kk) ∧ W.cell? ⟨w.heap.size + 1, 1, none⟩ = some (.int .i64 kn) ∧ W.cell? ⟨w.heap.size + 1, 2, none⟩ = some (.string kt) ∧ W.cell? ⟨w.heap.size + 2, 0, none⟩ = some (.int .i64 vk) ∧ W.cell? ⟨w.heap.size + 2, 1, none⟩ = some (.int .i64 vn) ∧ W.cell? ⟨w.heap.size + 2, 2, none⟩ = some (.string vt) from by
      have a := (CP.out _ (HM.out.trans hk' (fun _ _ h => h))).1
      obtain ⟨b0, b1, b2, -⟩ := (HV1.out.keeps hk' (fun h => h)).cells
      obtain ⟨c0, c1, c2, -⟩ := (HV2.out.keeps hk' (fun h => h)).cells
      exact ⟨a, b0, b1, b2, c0, c1, c2⟩)
    have CPP := hidden (fun (W : World) (hk' : Keeps (fun _ => False) w1 W) => show Calls Try.prog 66 #[.pointer (some ⟨tb, 0, none⟩), .agg #[.int .i64 kk, .int .i64 kn, .string kt], .agg #[.int .i64 vk, .int .i64 vn, .string vt]] W fun e w' => e = .returned (.int .i64 ge) ∧ (∃ F' : Nat → Prop, IsHeap w' F' hb H' s ∧ Keeps F w w' ∧ Fresh F F' w) ∧ (W.cell? ⟨p, 3, none⟩ = some (.pointer (some ⟨tb, 0, none⟩)) → w'.cell? ⟨p, 3, none⟩ = some (.pointer (some ⟨tb, 0, none⟩))) ∧ Keeps F W w' from by
      have hkk := HM.out.trans hk' (fun _ _ h => h)
      obtain ⟨-, Fu, g3, g4, g5⟩ := CP.out _ hkk
      refine g5.mono ?_
      rintro e w' ⟨F', rfl, r1, r2, r3⟩
      exact ⟨rfl, ⟨F', r1, (hkk.mono (T := F) (fun _ _ h => h.elim)).trans r2 (fun k _ h => g4 k h), fun k h => (r3 k h).imp id (fun h => Nat.le_trans hkk.size h)⟩, fun e => r2.cell e g3, r2.mono (fun k _ h => g4 k h)⟩)
    have NB1 : ¬ F (w.heap.size + 1) := fun h => by have := hin.out _ h; omega
    have NB2 : ¬ F (w.heap.size + 2) := fun h => by have := hin.out _ h; omega
    clear CP HV1 HV2 hnp hsub
    go_region_held3 (fun W => W.cell? ⟨p, 3, none⟩ = some (.pointer (some ⟨tb, 0, none⟩)) ∧ W.cell? ⟨w.heap.size + 1, 0, none⟩ = some (.int .i64 kk) ∧ W.cell? ⟨w.heap.size + 1, 1, none⟩ = some (.int .i64 kn) ∧ W.cell? ⟨w.heap.size + 1, 2, none⟩ = some (.string kt) ∧ W.cell? ⟨w.heap.size + 2, 0, none⟩ = some (.int .i64 vk) ∧ W.cell? ⟨w.heap.size + 2, 1, none⟩ = some (.int .i64 vn) ∧ W.cell? ⟨w.heap.size + 2, 2, none⟩ = some (.string vt)) (first | exact SE.out | exact SK.out _ (Keeps.refl _ _) | exact SK.out _ ((Keeps.refl _ w1).drewN _)) (first | (go_at_call 66; refine (CPP.out _ ((Keeps.refl _ w1).drewN _)).mono ?_; rintro e w2 ⟨rfl, h1, h2, h3⟩; have G1 := hidden h1; have s0 := SK.out _ ((Keeps.refl _ w1).drewN 1); have SE := hidden (show w2.cell? ⟨p, 3, none⟩ = some (.pointer (some ⟨tb, 0, none⟩)) ∧ w2.cell? ⟨w.heap.size + 1, 0, none⟩ = some (.int .i64 kk) ∧ w2.cell? ⟨w.heap.size + 1, 1, none⟩ = some (.int .i64 kn) ∧ w2.cell? ⟨w.heap.size + 1, 2, none⟩ = some (.string kt) ∧ w2.cell? ⟨w.heap.size + 2, 0, none⟩ = some (.int .i64 vk) ∧ w2.cell? ⟨w.heap.size + 2, 1, none⟩ = some (.int .i64 vn) ∧ w2.cell? ⟨w.heap.size + 2, 2, none⟩ = some (.string vt) from ⟨h2 s0.1, h3.cell s0.2.1 NB1, h3.cell s0.2.2.1 NB1, h3.cell s0.2.2.2.1 NB1, h3.cell s0.2.2.2.2.1 NB2, h3.cell s0.2.2.2.2.2.1 NB2, h3.cell s0.2.2.2.2.2.2 NB2⟩); clear h1 h2 h3 s0))
    obtain ⟨F', r1, r2, r3⟩ := G1.out
    clear SE SK CPP
    go_wp2_with fail
    exact hR.out _ _ ⟨F', rfl, r1, r2, r3⟩

theorem slot_Has (v key : V) (x : V) (ge : Int) (hC : ∀ W, Keeps (fun _ => False) w W → Calls Try.prog 43 #[.pointer (some ⟨hb, 0, none⟩), v.val, key.val] W fun e w' => e = .returned (.tuple #[x.val, .int .i64 ge]) ∧ Keeps (fun _ => False) W w') :
    Calls Try.prog 44 #[.pointer (some ⟨hb, 0, none⟩), v.val, key.val] w fun e w' => e = .returned (.bool (decide (ge = 0))) ∧ Keeps (fun _ => False) w w' := by
  have CG := hidden hC
  clear hC
  obtain ⟨vk, vn, vt⟩ := v
  obtain ⟨kk, kn, kt⟩ := key
  obtain ⟨xk, xn, xt⟩ := x
  unfold V.val at CG ⊢
  refine post_gen fun R hR => ?_
  go_enter Try.func44, Try.ntmps44
  go_wp2_with fail
  refine (CG.out _ (by repeat with_reducible (first | exact Keeps.refl _ _ | refine Keeps.alloc ?_ _))).mono ?_
  rintro e w1 ⟨rfl, hK⟩
  have HM := hidden ((((Keeps.refl (fun _ => False) w).alloc _).alloc _).trans hK (fun _ _ h => h))
  clear hK CG
  go_wp2_with fail
  exact hR.out _ _ ⟨show Ending.returned (.bool _) = .returned (.bool _) from ret_bool (by first | rfl | simp), HM.out.alloc _⟩

end
end Go.Proofs.Ytfdfjogoiagnkaa
namespace Go.Proofs.Ytfdfjogoiagnkaa
open Go.RowKit

theorem value_Same (a b : V) (w : World) : Calls Try.prog 60 #[a.val, b.val] w fun e w' => e = .returned (.bool (decide (a = b))) ∧ Keeps (fun _ => False) w w' := by
  obtain ⟨k, n, t⟩ := a
  obtain ⟨k2, n2, t2⟩ := b
  unfold V.val
  refine post_gen fun R hR => ?_
  go_enter Try.func60, Try.ntmps60
  go_wp2
  all_goals
    refine hR.out _ _ ⟨show Ending.returned (.bool _) = .returned (.bool _) from ret_bool ?_, ((Keeps.refl _ _).alloc _).alloc _⟩
    clear hR
    rw [Bool.eq_iff_iff]
    simp_all [toList_inj]
end Go.Proofs.Ytfdfjogoiagnkaa
namespace Go.Proofs.Ytfdfjogoiagnkaa
open Go.RowKit
set_option maxRecDepth 100000

inductive DCh (H : Hp) : V → List V → Prop where
  | nil {v : V} (h : v.k = 0) : DCh H v []
  | cons {i p : Nat} {c : Cl} {b : V} {bs l : List V} (hi : H[i]? = some (some (p, c))) (hk : c.kind = 2) (hv : c.vals = b :: bs) (ht : DCh H b l) : DCh H (rV (i : Nat)) (rV (i : Nat) :: l)
section
variable {w : World} {F : Nat → Prop} {hb : Nat} {H : List (Option (Nat × Cl))} {s : HSt} {i p : Nat} {c : Cl}
set_option maxHeartbeats 8000000 in
theorem slot_SetDelegate_ok (h : IsHeap w F hb H s) (hi : H[i]? = some (some (p, c))) (hk : c.kind = 2) {b : V} {bs : List V} (hv : c.vals = b :: bs) {dt : V} {l : List V} (hch : DCh H dt l) (hl : l.length < 63) (hm : ¬ rV (i : Nat) ∈ l) :
    Calls Try.prog 37 #[.pointer (some ⟨hb, 0, none⟩), V.val ⟨4, i, ⟨#[]⟩⟩, dt.val] w fun e w' => ∃ F', e = .returned (.int .i64 0) ∧ IsHeap w' F' hb (H.set i (some (p, { c with vals := dt :: bs }))) s ∧ Keeps F w w' ∧ Fresh F F' w := by
  have HH := hidden h
  have HI := hidden hi
  have CO := hidden (fun (W : World) (hk' : Keeps (fun _ => False) w W) => heap_Of_ok (h.calm hk') hi 2 ⟨#[]⟩ (.inr hk))
  have CD := hidden (fun (W : World) (hk' : Keeps (fun _ => False) w W) (i p : Nat) (c : Cl) (b : V) (bs : List V) (hi : H[i]? = some (some (p, c))) (hk : c.kind = 2) (hv : c.vals = b :: bs) => slot_Delegate_ok (h.calm hk') hi hk hv ⟨#[]⟩)
  have CT := hidden (fun (W : World) (hk' : Keeps (fun _ => False) w W) => heap_Of (h.calm hk') dt 2)
  have CS := hidden (fun (W : World) (a b : V) => value_Same a b W)
  unfold V.val at CO CD CS CT
  have HVV := hidden hv
  have HCH := hidden hch
  have HTO := hidden (show dt.k = 0 ∨ (dt.k = 4 ∧ (ofR H dt 2).2 = 0) from by
    cases hch with
    | nil h0 => exact .inl h0
    | cons hi2 hk2 _ _ => exact .inr ⟨rfl, by rw [show rV _ = (⟨4, _, ⟨#[]⟩⟩ : V) from rfl, ofR_ok hi2 ⟨#[]⟩ (.inr hk2)]⟩)
  have hnm := hidden hm
  clear hm
  clear h hi hk hv hch
  generalize (ofR H dt 2).1 = opa at *
  generalize (ofR H dt 2).2 = oea at *
  obtain ⟨tk, tn, tt⟩ := dt
  simp only at CT HTO
  refine post_gen fun R hR => ?_
  unfold V.val
  go_enter Try.func37, Try.ntmps37
  go_wp2_with fail
  refine (CO.out _ (by repeat (first | exact Keeps.refl _ _ | refine Keeps.alloc ?_ _))).mono ?_
  rintro e w1 ⟨rfl, hK⟩
  have HM1 := hidden ((((Keeps.refl (fun _ => False) w).alloc _).alloc _).trans hK (fun _ _ h => h))
  have HT1 := hidden (show IsVar w1 (w.heap.size + 1) ⟨tk, tn, tt⟩ from hK.heap (new2t w _ _) (fun h => h))
  have HI1 := hidden (show IsVar w1 w.heap.size ⟨4, i, ⟨#[]⟩⟩ from hK.heap (blk_alloc (blk_new w _) _) (fun h => h))
  clear hK CO
  obtain ⟨e0, e1, e2, -⟩ := HT1.out.cells
  have hez := blk_lt HT1.out
  simp only at e0 e1 e2
  rcases HTO.out with h0 | ⟨h0, rfl⟩
  ·
    have hz0 : (tk != 0) = false := by rw [h0]; rfl
    clear h0
    have HK := HM1
    have HTO1 := HT1
    clear HTO CT
    obtain ⟨Fv, A9, cap, lp9, tp9, An9, cn9, hblk, hFp, hnp, hsub, hrow, -, hput⟩ := held_vals (HH.out.calm HK.out) HI.out
    have hlenv : c.vals.length = bs.length + 1 := by rw [HVV.out]; rfl
    obtain ⟨g, rfl, hFg, hgz, -, -, -, hf0, hf1, hf2⟩ := hrow.open3 (i := 0) (by rw [hlenv]; omega)
    obtain ⟨g0, g1, g2⟩ := (show w1.cell? ⟨g, 0 * 3, none⟩ = some (.int .i64 b.k) ∧ w1.cell? ⟨g, 0 * 3 + 1, none⟩ = some (.int .i64 b.n) ∧ w1.cell? ⟨g, 0 * 3 + 2, none⟩ = some (.string b.t) from (by
      obtain ⟨g', e', -, -, q0, q1, q2, -⟩ := hrow.open3 (i := 0) (by rw [hlenv]; omega)
      simp only [Option.some.injEq, Addr.mk.injEq, and_true] at e'
      subst e'
      have hb0 : c.vals[0]'(by rw [hlenv]; omega) = b := by simp [HVV.out]
      rw [hb0] at q0 q1 q2
      exact ⟨q0, q1, q2⟩))
    rw [Nat.zero_mul] at hf0 hf1 hf2 g0 g1 g2
    rw [hlenv] at hblk
    have hgp : g ≠ p := fun e => hnp (e ▸ hFg)
    have hpg : p ≠ g := fun e => hgp e.symm
    have hgw : g < w.heap.size := HH.out.inw g (hsub g hFg)
    have hg1 : g ≠ w.heap.size + 1 := by omega
    have PUT := hidden (fun (W2 : World) (hk2 : Keeps (fun _ => False) w1 W2) => (by
      have hr2 := (hrow.keeps hk2 (Apart.no _)).put3 (i := 0) (by rw [hlenv]; omega) (⟨tk, tn, tt⟩ : V)
      have hK2 : Keeps Fv w1 (put3 W2 g 0 ⟨tk, tn, tt⟩) := (hk2.mono (T := Fv) (fun _ _ h => h.elim)).trans ((SameBut.refl g W2).put3 0 ⟨tk, tn, tt⟩).keeps (fun k _ e => by rw [e]; exact hFg)
      obtain ⟨F2, r1, r2, r3⟩ := hput _ (c.vals.set 0 ⟨tk, tn, tt⟩) hK2 (by simp) hr2
      rw [show c.vals.set 0 ⟨tk, tn, tt⟩ = (⟨tk, tn, tt⟩ : V) :: bs by rw [HVV.out]; rfl] at r1
      exact (⟨F2, r1, (HK.out.mono (T := F) (fun _ _ h => h.elim)).trans r2 (fun _ _ h => h), fun k h => (r3 k h).imp id (fun h => Nat.le_trans HK.out.size h)⟩ : ∃ F2, IsHeap (put3 W2 g 0 ⟨tk, tn, tt⟩) F2 hb (H.set i (some (p, { c with vals := (⟨tk, tn, tt⟩ : V) :: bs }))) s ∧ Keeps F w (put3 W2 g 0 ⟨tk, tn, tt⟩) ∧ Fresh F F2 w)))
    have SK := hidden (fun (W : World) (hk' : Keeps (fun _ => False) w1 W) => show W.cell? ⟨p, 1, none⟩ = some (.slice (some ⟨g, 0, none⟩) (bs.length + 1) cap) ∧ W.cell? ⟨w.heap.size + 1, 0, none⟩ = some (.int .i64 tk) ∧ W.cell? ⟨w.heap.size + 1, 1, none⟩ = some (.int .i64 tn) ∧ W.cell? ⟨w.heap.size + 1, 2, none⟩ = some (.string tt) from (have b := (HTO1.out.keeps hk' (fun h => h)).cells; ⟨hk'.cell (blk_cell hblk 1) (fun h => h), b.1, b.2.1, b.2.2.1⟩))
    clear hblk hrow hput hFp hnp hsub
    go_wp2_with fail
    go_region_held3 (fun W => W.cell? ⟨p, 1, none⟩ = some (.slice (some ⟨g, 0, none⟩) (bs.length + 1) cap) ∧ W.cell? ⟨w.heap.size + 1, 0, none⟩ = some (.int .i64 tk) ∧ W.cell? ⟨w.heap.size + 1, 1, none⟩ = some (.int .i64 tn) ∧ W.cell? ⟨w.heap.size + 1, 2, none⟩ = some (.string tt)) (first | ((refine SK.out _ ?_); (repeat (first | exact Keeps.refl _ _ | refine Keeps.drewN ?_ _ | refine Keeps.drew ?_)); done) | exact (have s := SK.out _ ((Keeps.refl _ w1).drewN 1); have kv := (Keeps.refl (fun k => k = g) (w1.drewN 1)).var (r := g) (fun _ => rfl) (.int .i64 tk) (.int .i64 tn) (.string tt); ⟨kv.cell s.1 hpg, kv.cell s.2.1 (fun e => hg1 e.symm), kv.cell s.2.2.1 (fun e => hg1 e.symm), kv.cell s.2.2.2 (fun e => hg1 e.symm)⟩)) (fail)
    obtain ⟨F2, r1, r2, r3⟩ := PUT.out (w1.drewN 1) ((Keeps.refl _ w1).drewN 1)
    go_wp2_with fail
    exact hR.out _ _ ⟨F2, rfl, r1, r2, r3⟩
  ·
    have hz0 : (tk != 0) = true := by rw [h0]; rfl
    clear h0
    clear HTO
    go_wp2_with fail
    refine (CT.out _ HM1.out).mono ?_
    rintro e w2 ⟨rfl, hK⟩
    have HM2 := hidden (HM1.out.trans hK (fun _ _ h => h))
    have HT2 := hidden (HT1.out.keeps hK (fun h => h))
    have HI2 := hidden (HI1.out.keeps hK (fun h => h))
    clear hK HM1 HT1 HI1 e0 e1 e2 hez CT
    obtain ⟨e0, e1, e2, -⟩ := HT2.out.cells
    have hez := blk_lt HT2.out
    simp only at e0 e1 e2
    go_wp2_with fail
    clear e0 e1 e2 hez
    go_loopw [11, 12] (fun n u wr => ∃ (k vb : Nat) (x : V) (l' : List V), k + l'.length = l.length ∧ n = .int .i64 (k + 1) ∧ u = .pointer (some ⟨vb, 0, none⟩) ∧ IsVar wr vb x ∧ DCh H x l' ∧ (rV (i : Nat) ∈ l ↔ rV (i : Nat) ∈ l') ∧ Keeps (fun _ => False) w wr ∧ IsVar wr w.heap.size ⟨4, i, ⟨#[]⟩⟩ ∧ IsVar wr (w.heap.size + 1) ⟨tk, tn, tt⟩) (fun n _ _ => l.length + 1 - (intOf n).toNat)
    case atStart => exact ⟨0, w2.heap.size, ⟨tk, tn, tt⟩, l, by simp, rfl, rfl, IsVar.new w2 ⟨tk, tn, tt⟩, HCH.out, Iff.rfl, HM2.out.alloc _, blk_alloc HI2.out _, blk_alloc HT2.out _⟩
    case round =>
      obtain ⟨k, vb, x, l', hkl, rfl, rfl, hX, hch, hmem, hK, hI, hTo⟩ := hrel
      have HX := hidden hX
      have HMEM := hidden hmem
      have HK := hidden hK
      have HII := hidden hI
      have HTO1 := hidden hTo
      clear hX hmem hK hI hTo HM2 HI2 HT2
      obtain ⟨a0, a1, a2, -⟩ := HX.out.cells
      have haz := blk_lt HX.out
      cases hch with
      | nil h0 =>
        rw [h0] at a0
        clear h0
        clear a1 a2 HMEM HX
        obtain ⟨Fv, A9, cap, lp9, tp9, An9, cn9, hblk, hFp, hnp, hsub, hrow, -, hput⟩ := held_vals (HH.out.calm HK.out) HI.out
        have hlenv : c.vals.length = bs.length + 1 := by rw [HVV.out]; rfl
        obtain ⟨g, rfl, hFg, hgz, -, -, -, hf0, hf1, hf2⟩ := hrow.open3 (i := 0) (by rw [hlenv]; omega)
        obtain ⟨g0, g1, g2⟩ := (show wr.cell? ⟨g, 0 * 3, none⟩ = some (.int .i64 b.k) ∧ wr.cell? ⟨g, 0 * 3 + 1, none⟩ = some (.int .i64 b.n) ∧ wr.cell? ⟨g, 0 * 3 + 2, none⟩ = some (.string b.t) from (by
          obtain ⟨g', e', -, -, q0, q1, q2, -⟩ := hrow.open3 (i := 0) (by rw [hlenv]; omega)
          simp only [Option.some.injEq, Addr.mk.injEq, and_true] at e'
          subst e'
          have hb0 : c.vals[0]'(by rw [hlenv]; omega) = b := by simp [HVV.out]
          rw [hb0] at q0 q1 q2
          exact ⟨q0, q1, q2⟩))
        rw [Nat.zero_mul] at hf0 hf1 hf2 g0 g1 g2
        rw [hlenv] at hblk
        have hgp : g ≠ p := fun e => hnp (e ▸ hFg)
        have hpg : p ≠ g := fun e => hgp e.symm
        have hgw : g < w.heap.size := HH.out.inw g (hsub g hFg)
        have hg1 : g ≠ w.heap.size + 1 := by omega
        have PUT := hidden (fun (W2 : World) (hk2 : Keeps (fun _ => False) wr W2) => (by
          have hr2 := (hrow.keeps hk2 (Apart.no _)).put3 (i := 0) (by rw [hlenv]; omega) (⟨tk, tn, tt⟩ : V)
          have hK2 : Keeps Fv wr (put3 W2 g 0 ⟨tk, tn, tt⟩) := (hk2.mono (T := Fv) (fun _ _ h => h.elim)).trans ((SameBut.refl g W2).put3 0 ⟨tk, tn, tt⟩).keeps (fun k _ e => by rw [e]; exact hFg)
          obtain ⟨F2, r1, r2, r3⟩ := hput _ (c.vals.set 0 ⟨tk, tn, tt⟩) hK2 (by simp) hr2
          rw [show c.vals.set 0 ⟨tk, tn, tt⟩ = (⟨tk, tn, tt⟩ : V) :: bs by rw [HVV.out]; rfl] at r1
          exact (⟨F2, r1, (HK.out.mono (T := F) (fun _ _ h => h.elim)).trans r2 (fun _ _ h => h), fun k h => (r3 k h).imp id (fun h => Nat.le_trans HK.out.size h)⟩ : ∃ F2, IsHeap (put3 W2 g 0 ⟨tk, tn, tt⟩) F2 hb (H.set i (some (p, { c with vals := (⟨tk, tn, tt⟩ : V) :: bs }))) s ∧ Keeps F w (put3 W2 g 0 ⟨tk, tn, tt⟩) ∧ Fresh F F2 w)))
        have SK := hidden (fun (W : World) (hk' : Keeps (fun _ => False) wr W) => show W.cell? ⟨p, 1, none⟩ = some (.slice (some ⟨g, 0, none⟩) (bs.length + 1) cap) ∧ W.cell? ⟨w.heap.size + 1, 0, none⟩ = some (.int .i64 tk) ∧ W.cell? ⟨w.heap.size + 1, 1, none⟩ = some (.int .i64 tn) ∧ W.cell? ⟨w.heap.size + 1, 2, none⟩ = some (.string tt) from (have b := (HTO1.out.keeps hk' (fun h => h)).cells; ⟨hk'.cell (blk_cell hblk 1) (fun h => h), b.1, b.2.1, b.2.2.1⟩))
        clear hblk hrow hput hFp hnp hsub
        go_wp2_with fail
        go_region_held3 (fun W => W.cell? ⟨p, 1, none⟩ = some (.slice (some ⟨g, 0, none⟩) (bs.length + 1) cap) ∧ W.cell? ⟨w.heap.size + 1, 0, none⟩ = some (.int .i64 tk) ∧ W.cell? ⟨w.heap.size + 1, 1, none⟩ = some (.int .i64 tn) ∧ W.cell? ⟨w.heap.size + 1, 2, none⟩ = some (.string tt)) (first | ((refine SK.out _ ?_); (repeat (first | exact Keeps.refl _ _ | refine Keeps.drewN ?_ _ | refine Keeps.drew ?_)); done) | exact (have s := SK.out _ ((Keeps.refl _ wr).drewN 1); have kv := (Keeps.refl (fun k => k = g) (wr.drewN 1)).var (r := g) (fun _ => rfl) (.int .i64 tk) (.int .i64 tn) (.string tt); ⟨kv.cell s.1 hpg, kv.cell s.2.1 (fun e => hg1 e.symm), kv.cell s.2.2.1 (fun e => hg1 e.symm), kv.cell s.2.2.2 (fun e => hg1 e.symm)⟩)) (fail)
        obtain ⟨F2, r1, r2, r3⟩ := PUT.out (wr.drewN 1) ((Keeps.refl _ wr).drewN 1)
        go_wp2_with fail
        exact hR.out _ _ ⟨F2, rfl, r1, r2, r3⟩
      | @cons i2 p2 c2 b2 bs2 l2 hi2 hk2 hv2 ht2 =>
        have C2 := hidden (fun (W : World) (hk' : Keeps (fun _ => False) w W) => CD.out W hk' i2 p2 c2 b2 bs2 hi2 hk2 hv2)
        have HT := hidden ht2
        clear hi2 hk2 hv2 ht2
        simp only [rV] at a0 a1 a2
        obtain ⟨ck, cn, ct⟩ := b2
        simp only at C2
        have hkl2 : k + 1 + l2.length = l.length := by rw [← hkl, List.length_cons]; omega
        have HKL := hidden hkl2
        have hkb : k < 62 := by omega
        have hkb2 : k < l.length := by omega
        clear hkl hkl2
        obtain ⟨c0, c1, c3, -⟩ := HII.out.cells
        have hcz := blk_lt HII.out
        simp only at c0 c1 c3
        have he : ¬ (⟨4, (i2 : Nat), ⟨#[]⟩⟩ : V) = ⟨4, (i : Nat), ⟨#[]⟩⟩ := fun e => hnm.out (HMEM.out.2 (List.mem_cons.2 (.inl e.symm)))
        have hS := hidden (fun (W : World) => CS.out W ⟨4, i2, ⟨#[]⟩⟩ ⟨4, i, ⟨#[]⟩⟩)
        rw [decide_eq_false he] at hS
        have HMEM2 := hidden (show rV (i : Nat) ∈ l ↔ rV (i : Nat) ∈ l2 from HMEM.out.trans ⟨fun h => (List.mem_cons.1 h).elim (fun e => absurd e.symm he) id, fun h => List.mem_cons.2 (.inr h)⟩)
        clear he HMEM
        go_wp2_with fail
        refine (hS.out _).mono ?_
        rintro e w4 ⟨rfl, hK⟩
        have HM4 := hidden (HK.out.trans hK (fun _ _ h => h))
        have HI4 := hidden (HII.out.keeps hK (fun h => h))
        have HT4 := hidden (HTO1.out.keeps hK (fun h => h))
        have HX4 := hidden (HX.out.keeps hK (fun h => h))
        clear hK HK HII HTO1 HX a0 a1 a2 haz c0 c1 c3 hcz
        obtain ⟨a0, a1, a2, -⟩ := HX4.out.cells
        have haz := blk_lt HX4.out
        simp only [rV] at a0 a1 a2
        go_wp2_with fail
        refine (C2.out _ (HM4.out.alloc _)).mono ?_
        rintro e w5 ⟨rfl, hK⟩
        have HV5 := hidden (show IsVar w5 w4.heap.size ⟨4, i2, ⟨#[]⟩⟩ from hK.heap (blk_new w4 _) (fun h => h))
        have HM5 := hidden ((HM4.out.alloc _).trans hK (fun _ _ h => h))
        have HI5 := hidden (HI4.out.keeps (((Keeps.refl (fun _ => False) w4).alloc _).trans hK (fun _ _ h => h)) (fun h => h))
        have HT5 := hidden (HT4.out.keeps (((Keeps.refl (fun _ => False) w4).alloc _).trans hK (fun _ _ h => h)) (fun h => h))
        have hz4 := hidden HM4.out.size
        have hz4b := hidden (blk_lt HI4.out)
        have hz4c := hidden (blk_lt HT4.out)
        clear hK HM4 HI4 HT4 HX4 a0 a1 a2 haz
        obtain ⟨v0, v1, v2, v3, v4, v5⟩ := HV5.out.cells
        have hvz := blk_lt HV5.out
        simp only at v0 v1 v2
        go_wp2_with fail
        go_roundw
        case rel => exact ⟨k + 1, w4.heap.size, ⟨ck, cn, ct⟩, l2, HKL.out, by go_num, rfl, HV5.out.set ⟨ck, cn, ct⟩, HT.out, HMEM2.out, HM5.out.var (r := w4.heap.size) (fun h => by have := hz4.out; omega) _ _ _, HI5.out.keeps ((Keeps.refl (fun k => k = w4.heap.size) w5).var (r := w4.heap.size) (fun _ => rfl) _ _ _) (fun h => by have := hz4b.out; omega), HT5.out.keeps ((Keeps.refl (fun k => k = w4.heap.size) w5).var (r := w4.heap.size) (fun _ => rfl) _ _ _) (fun h => by have := hz4c.out; omega)⟩
        case measure => simp [intOf]; omega
set_option maxHeartbeats 8000000 in
theorem slot_SetDelegate_twice (h : IsHeap w F hb H s) (hi : H[i]? = some (some (p, c))) (hk : c.kind = 2) {b : V} {bs : List V} (hv : c.vals = b :: bs) {dt : V} {l : List V} (hch : DCh H dt l) (hl : l.length < 63) (hm : rV (i : Nat) ∈ l) :
    Calls Try.prog 37 #[.pointer (some ⟨hb, 0, none⟩), V.val ⟨4, i, ⟨#[]⟩⟩, dt.val] w fun e w' => e = .returned (.int .i64 4) ∧ Keeps (fun _ => False) w w' := by
  have HH := hidden h
  have HI := hidden hi
  have CO := hidden (fun (W : World) (hk' : Keeps (fun _ => False) w W) => heap_Of_ok (h.calm hk') hi 2 ⟨#[]⟩ (.inr hk))
  have CD := hidden (fun (W : World) (hk' : Keeps (fun _ => False) w W) (i p : Nat) (c : Cl) (b : V) (bs : List V) (hi : H[i]? = some (some (p, c))) (hk : c.kind = 2) (hv : c.vals = b :: bs) => slot_Delegate_ok (h.calm hk') hi hk hv ⟨#[]⟩)
  have CT := hidden (fun (W : World) (hk' : Keeps (fun _ => False) w W) => heap_Of (h.calm hk') dt 2)
  have CS := hidden (fun (W : World) (a b : V) => value_Same a b W)
  unfold V.val at CO CD CS CT
  have HVV := hidden hv
  have HCH := hidden hch
  have HTO := hidden (show dt.k = 0 ∨ (dt.k = 4 ∧ (ofR H dt 2).2 = 0) from by
    cases hch with
    | nil h0 => exact .inl h0
    | cons hi2 hk2 _ _ => exact .inr ⟨rfl, by rw [show rV _ = (⟨4, _, ⟨#[]⟩⟩ : V) from rfl, ofR_ok hi2 ⟨#[]⟩ (.inr hk2)]⟩)
  have hnm := hidden hm
  clear hm
  clear h hi hk hv hch
  generalize (ofR H dt 2).1 = opa at *
  generalize (ofR H dt 2).2 = oea at *
  obtain ⟨tk, tn, tt⟩ := dt
  simp only at CT HTO
  refine post_gen fun R hR => ?_
  unfold V.val
  go_enter Try.func37, Try.ntmps37
  go_wp2_with fail
  refine (CO.out _ (by repeat (first | exact Keeps.refl _ _ | refine Keeps.alloc ?_ _))).mono ?_
  rintro e w1 ⟨rfl, hK⟩
  have HM1 := hidden ((((Keeps.refl (fun _ => False) w).alloc _).alloc _).trans hK (fun _ _ h => h))
  have HT1 := hidden (show IsVar w1 (w.heap.size + 1) ⟨tk, tn, tt⟩ from hK.heap (new2t w _ _) (fun h => h))
  have HI1 := hidden (show IsVar w1 w.heap.size ⟨4, i, ⟨#[]⟩⟩ from hK.heap (blk_alloc (blk_new w _) _) (fun h => h))
  clear hK CO
  obtain ⟨e0, e1, e2, -⟩ := HT1.out.cells
  have hez := blk_lt HT1.out
  simp only at e0 e1 e2
  rcases HTO.out with h0 | ⟨h0, rfl⟩
  ·
    have hz0 : (tk != 0) = false := by rw [h0]; rfl
    clear h0
    exfalso
    have h0 := HCH.out
    generalize hx : (⟨tk, tn, tt⟩ : V) = x at h0
    cases h0 with
    | nil _ => exact absurd hnm.out (by simp)
    | cons hi2 hk2 hv2 ht2 =>
      have h4 := congrArg V.k hx
      simp only [rV] at h4
      rw [h4] at hz0
      cases hz0
  ·
    have hz0 : (tk != 0) = true := by rw [h0]; rfl
    clear h0
    clear HTO
    go_wp2_with fail
    refine (CT.out _ HM1.out).mono ?_
    rintro e w2 ⟨rfl, hK⟩
    have HM2 := hidden (HM1.out.trans hK (fun _ _ h => h))
    have HT2 := hidden (HT1.out.keeps hK (fun h => h))
    have HI2 := hidden (HI1.out.keeps hK (fun h => h))
    clear hK HM1 HT1 HI1 e0 e1 e2 hez CT
    obtain ⟨e0, e1, e2, -⟩ := HT2.out.cells
    have hez := blk_lt HT2.out
    simp only at e0 e1 e2
    go_wp2_with fail
    clear e0 e1 e2 hez
    go_loopw [11, 12] (fun n u wr => ∃ (k vb : Nat) (x : V) (l' : List V), k + l'.length = l.length ∧ n = .int .i64 (k + 1) ∧ u = .pointer (some ⟨vb, 0, none⟩) ∧ IsVar wr vb x ∧ DCh H x l' ∧ (rV (i : Nat) ∈ l ↔ rV (i : Nat) ∈ l') ∧ Keeps (fun _ => False) w wr ∧ IsVar wr w.heap.size ⟨4, i, ⟨#[]⟩⟩ ∧ IsVar wr (w.heap.size + 1) ⟨tk, tn, tt⟩) (fun n _ _ => l.length + 1 - (intOf n).toNat)
    case atStart => exact ⟨0, w2.heap.size, ⟨tk, tn, tt⟩, l, by simp, rfl, rfl, IsVar.new w2 ⟨tk, tn, tt⟩, HCH.out, Iff.rfl, HM2.out.alloc _, blk_alloc HI2.out _, blk_alloc HT2.out _⟩
    case round =>
      obtain ⟨k, vb, x, l', hkl, rfl, rfl, hX, hch, hmem, hK, hI, hTo⟩ := hrel
      have HX := hidden hX
      have HMEM := hidden hmem
      have HK := hidden hK
      have HII := hidden hI
      have HTO1 := hidden hTo
      clear hX hmem hK hI hTo HM2 HI2 HT2
      obtain ⟨a0, a1, a2, -⟩ := HX.out.cells
      have haz := blk_lt HX.out
      cases hch with
      | nil h0 =>
        rw [h0] at a0
        clear h0
        exact absurd (HMEM.out.1 hnm.out) (by simp)
      | @cons i2 p2 c2 b2 bs2 l2 hi2 hk2 hv2 ht2 =>
        have C2 := hidden (fun (W : World) (hk' : Keeps (fun _ => False) w W) => CD.out W hk' i2 p2 c2 b2 bs2 hi2 hk2 hv2)
        have HT := hidden ht2
        clear hi2 hk2 hv2 ht2
        simp only [rV] at a0 a1 a2
        obtain ⟨ck, cn, ct⟩ := b2
        simp only at C2
        have hkl2 : k + 1 + l2.length = l.length := by rw [← hkl, List.length_cons]; omega
        have HKL := hidden hkl2
        have hkb : k < 62 := by omega
        have hkb2 : k < l.length := by omega
        clear hkl hkl2
        obtain ⟨c0, c1, c3, -⟩ := HII.out.cells
        have hcz := blk_lt HII.out
        simp only at c0 c1 c3
        by_cases he : (⟨4, (i2 : Nat), ⟨#[]⟩⟩ : V) = ⟨4, (i : Nat), ⟨#[]⟩⟩
        · have hS := hidden (fun (W : World) => CS.out W ⟨4, i2, ⟨#[]⟩⟩ ⟨4, i, ⟨#[]⟩⟩)
          rw [decide_eq_true he] at hS
          clear he
          go_wp2_with fail
          refine (hS.out _).mono ?_
          rintro e w4 ⟨rfl, hK⟩
          have HM4 := hidden (HK.out.trans hK (fun _ _ h => h))
          clear hK
          go_wp2_with fail
          exact hR.out _ _ ⟨rfl, HM4.out⟩
        ·
          have hS := hidden (fun (W : World) => CS.out W ⟨4, i2, ⟨#[]⟩⟩ ⟨4, i, ⟨#[]⟩⟩)
          rw [decide_eq_false he] at hS
          have HMEM2 := hidden (show rV (i : Nat) ∈ l ↔ rV (i : Nat) ∈ l2 from HMEM.out.trans ⟨fun h => (List.mem_cons.1 h).elim (fun e => absurd e.symm he) id, fun h => List.mem_cons.2 (.inr h)⟩)
          clear he HMEM
          go_wp2_with fail
          refine (hS.out _).mono ?_
          rintro e w4 ⟨rfl, hK⟩
          have HM4 := hidden (HK.out.trans hK (fun _ _ h => h))
          have HI4 := hidden (HII.out.keeps hK (fun h => h))
          have HT4 := hidden (HTO1.out.keeps hK (fun h => h))
          have HX4 := hidden (HX.out.keeps hK (fun h => h))
          clear hK HK HII HTO1 HX a0 a1 a2 haz c0 c1 c3 hcz
          obtain ⟨a0, a1, a2, -⟩ := HX4.out.cells
          have haz := blk_lt HX4.out
          simp only [rV] at a0 a1 a2
          go_wp2_with fail
          refine (C2.out _ (HM4.out.alloc _)).mono ?_
          rintro e w5 ⟨rfl, hK⟩
          have HV5 := hidden (show IsVar w5 w4.heap.size ⟨4, i2, ⟨#[]⟩⟩ from hK.heap (blk_new w4 _) (fun h => h))
          have HM5 := hidden ((HM4.out.alloc _).trans hK (fun _ _ h => h))
          have HI5 := hidden (HI4.out.keeps (((Keeps.refl (fun _ => False) w4).alloc _).trans hK (fun _ _ h => h)) (fun h => h))
          have HT5 := hidden (HT4.out.keeps (((Keeps.refl (fun _ => False) w4).alloc _).trans hK (fun _ _ h => h)) (fun h => h))
          have hz4 := hidden HM4.out.size
          have hz4b := hidden (blk_lt HI4.out)
          have hz4c := hidden (blk_lt HT4.out)
          clear hK HM4 HI4 HT4 HX4 a0 a1 a2 haz
          obtain ⟨v0, v1, v2, v3, v4, v5⟩ := HV5.out.cells
          have hvz := blk_lt HV5.out
          simp only at v0 v1 v2
          go_wp2_with fail
          go_roundw
          case rel => exact ⟨k + 1, w4.heap.size, ⟨ck, cn, ct⟩, l2, HKL.out, by go_num, rfl, HV5.out.set ⟨ck, cn, ct⟩, HT.out, HMEM2.out, HM5.out.var (r := w4.heap.size) (fun h => by have := hz4.out; omega) _ _ _, HI5.out.keeps ((Keeps.refl (fun k => k = w4.heap.size) w5).var (r := w4.heap.size) (fun _ => rfl) _ _ _) (fun h => by have := hz4b.out; omega), HT5.out.keeps ((Keeps.refl (fun k => k = w4.heap.size) w5).var (r := w4.heap.size) (fun _ => rfl) _ _ _) (fun h => by have := hz4c.out; omega)⟩
          case measure => simp [intOf]; omega
end
end Go.Proofs.Ytfdfjogoiagnkaa
namespace Go.Proofs.Ytfdfjogoiagnkaa
open Go.RowKit
set_option maxRecDepth 100000

def wn (v : V) : Int := if v.k = 2 then v.n else 0
theorem IsVar.far3 {w : World} {r s : Nat} {v : V} (h : IsVar w r v) (hn : r ≠ s) (x y z : Value) : IsVar (((w.setCell ⟨s, 0, none⟩ x).setCell ⟨s, 1, none⟩ y).setCell ⟨s, 2, none⟩ z) r v := h.keeps ((Keeps.refl (fun k => k = s) w).var (r := s) (fun _ => rfl) x y z) hn
theorem five (w : World) (a b : V) : ∃ w0, w0 = ((((w.alloc (.cells #[.int .i64 a.k, .int .i64 a.n, .string a.t] 26)).alloc (.cells #[.int .i64 b.k, .int .i64 b.n, .string b.t] 26)).alloc (.cells #[.int .i64 0, .int .i64 0, .string ⟨#[]⟩] 26)).alloc (.cells #[.int .i64 0, .int .i64 0, .string ⟨#[]⟩] 26)).alloc (.cells #[.int .i64 0, .int .i64 0, .string ⟨#[]⟩] 26) ∧
    IsVar w0 w.heap.size a ∧ IsVar w0 (w.heap.size + 1) b ∧ IsVar w0 (w.heap.size + 2) V.null ∧ IsVar w0 (w.heap.size + 3) V.null ∧ IsVar w0 (w.heap.size + 4) V.null ∧ Keeps (fun _ => False) w w0 ∧ w0.heap.size = w.heap.size + 5 := by
  have nw : ∀ (W : World) (n : Nat) (v : V), W.heap.size = n → IsVar (W.alloc (.cells #[.int .i64 v.k, .int .i64 v.n, .string v.t] 26)) n v := fun W n v h => h ▸ IsVar.new W v
  have al : ∀ {W : World} {r : Nat} {v : V} (o : Obj), IsVar W r v → IsVar (W.alloc o) r v := fun o h => blk_alloc h o
  refine ⟨_, rfl, ?_, ?_, ?_, ?_, ?_, ?_, by simp⟩
  · exact al _ (al _ (al _ (al _ (nw _ _ a rfl))))
  · exact al _ (al _ (al _ (nw _ _ b (by simp))))
  · exact al _ (al _ (nw _ _ V.null (by simp)))
  · exact al _ (nw _ _ V.null (by simp))
  · exact nw _ _ V.null (by simp)
  · repeat (first | exact Keeps.refl _ _ | refine Keeps.alloc ?_ _)
end Go.Proofs.Ytfdfjogoiagnkaa
namespace Go.Proofs.Ytfdfjogoiagnkaa
open Go.RowKit
set_option maxRecDepth 100000

section
variable {w : World} {F : Nat → Prop} {hb : Nat} {H : List (Option (Nat × Cl))} {s : HSt} {i p : Nat} {c : Cl}
set_option maxHeartbeats 8000000 in
theorem slot_Next_table (h : IsHeap w F hb H s) (hi : H[i]? = some (some (p, c))) (hk : c.kind = 2) {tb : Nat} {L : List Ent} {sr : Int} (hc : c.tab = some (tb, L, sr)) (hs : sr < 1073741824) (wk wm : Int) (wt : ByteArray) (x : Ent) (gk gn : Int) (gt : ByteArray) (yk yn : Int) (yt : ByteArray) (hxk : x.key = ⟨gk, gn, gt⟩) (hxv : x.val = ⟨yk, yn, yt⟩) (hn : nextT L (wn ⟨wk, wm, wt⟩) = some x) :
    Calls Try.prog 48 #[.pointer (some ⟨hb, 0, none⟩), V.val ⟨4, i, ⟨#[]⟩⟩, V.val ⟨wk, wm, wt⟩] w fun e w' => e = .returned (.tuple #[V.val ⟨2, x.ser, ⟨#[]⟩⟩, V.val ⟨gk, gn, gt⟩, V.val ⟨yk, yn, yt⟩, .bool true, .int .i64 0]) ∧ Keeps (fun _ => False) w w' := by
  have CN := hidden (fun (W : World) => value_Null W)
  have CI := hidden (fun (W : World) (n : Int) => value_Int n W)
  unfold V.val at CN CI
  unfold V.null at CN
  have CO := hidden (fun (W : World) (hk' : Keeps (fun _ => False) w W) => heap_Of_ok (h.calm hk') hi 0 ⟨#[]⟩ (.inl rfl))
  unfold V.val at CO
  have HP := hidden (fun (W : World) (hk' : Keeps (fun _ => False) w W) => show W.cell? ⟨p, 0, none⟩ = some (.int .i64 c.kind) ∧ p < W.heap.size from (by
    obtain ⟨A, cap, lp, tp, An, cn, hblk, -⟩ := held_cell (h.calm hk') hi
    exact ⟨blk_cell hblk 0, blk_lt hblk⟩))
  have CL := hidden (fun (W : World) (hk' : Keeps (fun _ => False) w W) => show W.cell? ⟨p, 3, none⟩ = some (.pointer (some ⟨tb, 0, none⟩)) ∧ Calls Try.prog 55 #[.pointer (some ⟨tb, 0, none⟩), .int .i64 (wn ⟨wk, wm, wt⟩)] W fun e w' => e = .returned (nextAns L (wn ⟨wk, wm, wt⟩)) ∧ Keeps (fun _ => False) W w' from by
    obtain ⟨Ft, h1, h2, h3, h4, h5, h6, h7⟩ := held_tab2 (h.calm hk') hi hc
    exact ⟨h2, t_Next h1 hs _⟩)
  rw [hk] at HP
  unfold nextAns at CL
  rw [hn] at CL
  dsimp only at CL
  rw [hxk, hxv] at CL
  generalize x.ser = xs at *
  unfold V.val at CL
  clear h hi hk hc hn hxk hxv
  obtain ⟨w0, hw0, h0, h1, h2, h3, h4, hK0, hs0⟩ := five w ⟨4, i, ⟨#[]⟩⟩ ⟨wk, wm, wt⟩
  have VO := hidden h0
  have VW := hidden h1
  have R1 := hidden h2
  have R2 := hidden h3
  have R3 := hidden h4
  have K0 := hidden hK0
  have S0 := hidden hs0
  have W0 := hidden hw0
  clear h0 h1 h2 h3 h4 hK0 hs0 hw0
  refine post_gen fun R hR => ?_
  unfold V.val
  go_enter Try.func48, Try.ntmps48
  go_upto_if 23 with fail
  go_cut [11] from 21 to 25 (fun nn wx => nn = .int .i64 (wn ⟨wk, wm, wt⟩) ∧ wx = w0)
  case first =>
    by_cases hwk : wk = 2
    · subst hwk
      go_wp2_with fail
      all_goals
        go_meet
        exact ⟨rfl, W0.out.symm⟩
    · go_wp2_with fail
      all_goals
        go_meet
        exact ⟨by unfold wn; rw [if_neg hwk], W0.out.symm⟩
  case rest =>
  obtain ⟨rfl, rfl⟩ := hcut
  generalize wn ⟨wk, wm, wt⟩ = nn at *
  clear W0 VW
  go_wp2_with fail
  refine (CN.out _).mono ?_
  rintro e w1 ⟨rfl, hK⟩
  have VN := hidden (IsVar.new w1 V.null)
  have k2 := hK.alloc (.cells #[.int .i64 0, .int .i64 0, .string ⟨#[]⟩] 26)
  have K2 := hidden (K0.out.trans k2 (fun _ _ h => h))
  have VO2 := hidden (VO.out.keeps k2 (fun h => h))
  have R12 := hidden (R1.out.keeps k2 (fun h => h))
  have R22 := hidden (R2.out.keeps k2 (fun h => h))
  have R32 := hidden (R3.out.keeps k2 (fun h => h))
  have HVN := hidden (show w.heap.size + 5 ≤ w1.heap.size from by rw [← S0.out]; exact hK.size)
  obtain ⟨o0, o1, o2, -⟩ := (VO.out.keeps hK (fun h => h)).cells
  have hoz := blk_lt (VO.out.keeps hK (fun h => h))
  simp only at o0 o1 o2
  clear hK k2 VO R1 R2 R3 K0 S0
  simp only [V.null] at VN
  go_wp2_with fail
  clear o0 o1 o2 hoz
  generalize w1.heap.size = vn at *
  generalize hw2 : w1.alloc (.cells #[.int .i64 0, .int .i64 0, .string ⟨#[]⟩] 26) = w2 at *
  clear hw2
  obtain ⟨o0, o1, o2, -⟩ := VO2.out.cells
  have hoz := blk_lt VO2.out
  simp only at o0 o1 o2
  refine (CO.out _ K2.out).mono ?_
  rintro e w3 ⟨rfl, hK⟩
  have K3 := hidden (K2.out.trans hK (fun _ _ h => h))
  have R13 := hidden (R12.out.keeps hK (fun h => h))
  have R23 := hidden (R22.out.keeps hK (fun h => h))
  have R33 := hidden (R32.out.keeps hK (fun h => h))
  have VN3 := hidden (show IsVar w3 vn V.null from VN.out.keeps hK (fun h => h))
  clear hK CO o0 o1 o2 hoz VO2 K2 R12 R22 R32 VN
  obtain ⟨z0, hpz⟩ := HP.out _ K3.out
  obtain ⟨z2, hCL⟩ := CL.out _ K3.out
  have CLL := hidden hCL
  clear hCL CL
  go_wp2_with fail
  refine CLL.out.mono ?_
  rintro e w4 ⟨rfl, hK⟩
  have VX := hidden (show IsVar ((w4.alloc (.cells #[.int .i64 gk, .int .i64 gn, .string gt] 26)).alloc (.cells #[.int .i64 yk, .int .i64 yn, .string yt] 26)) w4.heap.size ⟨gk, gn, gt⟩ from blk_alloc (IsVar.new w4 ⟨gk, gn, gt⟩) _)
  have VY := hidden (var2 w4 (.cells #[.int .i64 gk, .int .i64 gn, .string gt] 26) ⟨yk, yn, yt⟩)
  have k4 := (hK.alloc (.cells #[.int .i64 gk, .int .i64 gn, .string gt] 26)).alloc (.cells #[.int .i64 yk, .int .i64 yn, .string yt] 26)
  have K5 := hidden (K3.out.trans k4 (fun _ _ h => h))
  have R15 := hidden (R13.out.keeps k4 (fun h => h))
  have R25 := hidden (R23.out.keeps k4 (fun h => h))
  have R35 := hidden (R33.out.keeps k4 (fun h => h))
  have VN5 := hidden (show IsVar _ vn V.null from VN3.out.keeps k4 (fun h => h))
  have HVX := hidden (show w.heap.size + 5 ≤ w4.heap.size from by have := blk_lt VN3.out; have := hK.size; have := HVN.out; omega)
  clear hK k4 CLL z0 hpz z2 HP K3 R13 R23 R33 VN3
  simp only at VY
  go_wp2_with fail
  generalize w4.heap.size = vx at *
  generalize hw5 : (w4.alloc (.cells #[.int .i64 gk, .int .i64 gn, .string gt] 26)).alloc (.cells #[.int .i64 yk, .int .i64 yn, .string yt] 26) = w5 at *
  clear hw5
  have SK := hidden (fun (W : World) (hk : Keeps (fun k => w.heap.size + 2 ≤ k ∧ k ≤ w.heap.size + 4) w5 W) => show (W.cell? ⟨vx, 0, none⟩ = some (.int .i64 gk) ∧ W.cell? ⟨vx, 1, none⟩ = some (.int .i64 gn) ∧ W.cell? ⟨vx, 2, none⟩ = some (.string gt) ∧ W.cell? ⟨vx + 1, 0, none⟩ = some (.int .i64 yk) ∧ W.cell? ⟨vx + 1, 1, none⟩ = some (.int .i64 yn) ∧ W.cell? ⟨vx + 1, 2, none⟩ = some (.string yt)) from (have b := (VX.out.keeps hk (fun h => by have := HVX.out; omega)).cells; have d := (VY.out.keeps hk (fun h => by have := HVX.out; omega)).cells; ⟨b.1, b.2.1, b.2.2.1, d.1, d.2.1, d.2.2.1⟩))
  clear VX VY
  refine wp_region_noPanic ?_
  refine wp_region_held_drew (S := (fun W => W.cell? ⟨vx, 0, none⟩ = some (.int .i64 gk) ∧ W.cell? ⟨vx, 1, none⟩ = some (.int .i64 gn) ∧ W.cell? ⟨vx, 2, none⟩ = some (.string gt) ∧ W.cell? ⟨vx + 1, 0, none⟩ = some (.int .i64 yk) ∧ W.cell? ⟨vx + 1, 1, none⟩ = some (.int .i64 yn) ∧ W.cell? ⟨vx + 1, 2, none⟩ = some (.string yt))) (by kernel_rfl) ?_ (fun hHeld => ?_)
  · ((try dsimp only); ((refine SK.out _ ?_); (repeat with_reducible (first | exact Keeps.refl _ _ | exact (K6.out.mono (fun _ _ h => h.elim)) | refine Keeps.drewN ?_ _ | refine Keeps.drew ?_ | refine Keeps.var ?_ (fun _ => ⟨by omega, by omega⟩) _ _ _))))
  refine wpAnyH_take (i := 0) (oi := ⟨_, _, _, _, _, _⟩) (v := ?_) rfl (by kernel_rfl) (by kernel_rfl) (by kernel_rfl) (fun _ _ _ h => h) (Or.inl ⟨by rfl, ?_⟩) hHeld ?_
  rotate_left
  · (intro w' hSw; (try dsimp only at hSw); go_simp; (try with_reducible rfl))
  try simp only [Act.put, List.setIfInBounds_toArray, List.set_cons_zero, List.set_cons_succ]
  refine wpAnyH_take (i := 2) (oi := ⟨_, _, _, _, _, _⟩) (v := ?_) rfl (by kernel_rfl) (by kernel_rfl) (by kernel_rfl) (fun _ _ _ h => h) (Or.inl ⟨by rfl, ?_⟩) hHeld ?_
  rotate_left
  · (intro w' hSw; (try dsimp only at hSw); go_simp; (try with_reducible rfl))
  try simp only [Act.put, List.setIfInBounds_toArray, List.set_cons_zero, List.set_cons_succ]
  refine wpAnyH_take (i := 3) (oi := ⟨_, _, _, _, _, _⟩) (v := ?_) rfl (by kernel_rfl) (by kernel_rfl) (by kernel_rfl) (fun _ _ _ h => h) (Or.inl ⟨by rfl, ?_⟩) hHeld ?_
  rotate_left
  · (intro w' hSw; (try dsimp only at hSw); go_simp; (try with_reducible rfl))
  try simp only [Act.put, List.setIfInBounds_toArray, List.set_cons_zero, List.set_cons_succ]
  refine wpAnyH_ready (rs := [1]) (by kernel_rfl) (by simp) ?_
  refine AllReadyH.cons (o := ⟨_, _, _, _, _, _⟩) rfl (fun K hK => ?_) AllReadyH.nil
  go_simp
  (first | (go_at_call 17; refine (CI.out _ _).mono ?_; rintro e w6 ⟨rfl, h1⟩; have K6 := hidden (Keeps.trans (S := fun _ => False) (show Keeps (fun _ => False) w5 _ from (by repeat with_reducible (first | exact Keeps.refl _ _ | refine Keeps.drewN ?_ _ | refine Keeps.drew ?_))) h1 (fun _ _ h => h)); have R1c := hidden (R15.out.keeps K6.out (fun h => h)); have R2c := hidden (R25.out.keeps K6.out (fun h => h)); have R3c := hidden (R35.out.keeps K6.out (fun h => h)); have A1 := hidden (R1c.out); have A2 := hidden (R2c.out); have A3 := hidden (R3c.out); obtain ⟨v0, v1, v2, v3, v4, v5⟩ := A1.out.cells; obtain ⟨u0, u1, u2, u3, u4, u5⟩ := A2.out.cells; obtain ⟨x0, x1, x2, x3, x4, x5⟩ := A3.out.cells; have hvz := blk_lt A1.out; have huz := blk_lt A2.out; have hxz := blk_lt A3.out; simp only [V.null] at v0 v1 v2 u0 u1 u2 x0 x1 x2; clear h1))
  go_wp2_with fail
  refine hK.out _ _ ?_ (fun hH2 => ?_)
  · ((try dsimp only); ((refine SK.out _ ?_); (repeat with_reducible (first | exact Keeps.refl _ _ | exact (K6.out.mono (fun _ _ h => h.elim)) | refine Keeps.drewN ?_ _ | refine Keeps.drew ?_ | refine Keeps.var ?_ (fun _ => ⟨by omega, by omega⟩) _ _ _))))
  clear hK K hHeld
  have hHeld := hH2
  clear hH2
  try simp only [Act.put, List.setIfInBounds_toArray, List.set_cons_zero, List.set_cons_succ]
  refine wpAnyH_ready (rs := [4]) (by kernel_rfl) (by simp) ?_
  refine AllReadyH.cons (o := ⟨_, _, _, _, _, _⟩) rfl (fun K hK => ?_) AllReadyH.nil
  go_simp
  refine hK.out _ _ ?_ (fun hH2 => ?_)
  · ((try dsimp only); ((refine SK.out _ ?_); (repeat with_reducible (first | exact Keeps.refl _ _ | exact (K6.out.mono (fun _ _ h => h.elim)) | refine Keeps.drewN ?_ _ | refine Keeps.drew ?_ | refine Keeps.var ?_ (fun _ => ⟨by omega, by omega⟩) _ _ _))))
  clear hK K hHeld
  have hHeld := hH2
  clear hH2
  try simp only [Act.put, List.setIfInBounds_toArray, List.set_cons_zero, List.set_cons_succ]
  refine wpAnyH_ready (rs := [5]) (by kernel_rfl) (by simp) ?_
  refine AllReadyH.cons (o := ⟨_, _, _, _, _, _⟩) rfl (fun K hK => ?_) AllReadyH.nil
  go_simp
  refine hK.out _ _ ?_ (fun hH2 => ?_)
  · ((try dsimp only); ((refine SK.out _ ?_); (repeat with_reducible (first | exact Keeps.refl _ _ | exact (K6.out.mono (fun _ _ h => h.elim)) | refine Keeps.drewN ?_ _ | refine Keeps.drew ?_ | refine Keeps.var ?_ (fun _ => ⟨by omega, by omega⟩) _ _ _))))
  clear hK K hHeld
  have hHeld := hH2
  clear hH2
  try simp only [Act.put, List.setIfInBounds_toArray, List.set_cons_zero, List.set_cons_succ]
  refine wpAnyH_ready (rs := [6]) (by kernel_rfl) (by simp) ?_
  refine AllReadyH.cons (o := ⟨_, _, _, _, _, _⟩) rfl (fun K hK => ?_) AllReadyH.nil
  go_simp
  refine hK.out _ _ ?_ (fun hH2 => ?_)
  · ((try dsimp only); ((refine SK.out _ ?_); (repeat with_reducible (first | exact Keeps.refl _ _ | exact (K6.out.mono (fun _ _ h => h.elim)) | refine Keeps.drewN ?_ _ | refine Keeps.drew ?_ | refine Keeps.var ?_ (fun _ => ⟨by omega, by omega⟩) _ _ _))))
  clear hK K hHeld
  have hHeld := hH2
  clear hH2
  try simp only [Act.put, List.setIfInBounds_toArray, List.set_cons_zero, List.set_cons_succ]
  refine wpAnyH_take (i := 7) (oi := ⟨_, _, _, _, _, _⟩) (v := ?_) rfl (by kernel_rfl) (by kernel_rfl) (by kernel_rfl) (fun _ _ _ h => h) (Or.inl ⟨by rfl, ?_⟩) hHeld ?_
  rotate_left
  · (intro w' hSw; (try dsimp only at hSw); go_simp; (try with_reducible rfl))
  try simp only [Act.put, List.setIfInBounds_toArray, List.set_cons_zero, List.set_cons_succ]
  refine wpAnyH_take (i := 8) (oi := ⟨_, _, _, _, _, _⟩) (v := ?_) rfl (by kernel_rfl) (by kernel_rfl) (by kernel_rfl) (fun _ _ _ h => h) (Or.inl ⟨by rfl, ?_⟩) hHeld ?_
  rotate_left
  · (intro w' hSw; (try dsimp only at hSw); go_simp; (try with_reducible rfl))
  try simp only [Act.put, List.setIfInBounds_toArray, List.set_cons_zero, List.set_cons_succ]
  refine wpAnyH_done (by kernel_rfl) ?_ _
  refine NoPanic.normal ?_
  clear hHeld
  go_wp2_with fail
  obtain ⟨d0, d1, d2, -⟩ := (((A1.out.set ⟨2, xs, ⟨#[]⟩⟩).far3 (s := w.heap.size + 3) (by omega) (.int .i64 gk) (.int .i64 gn) (.string gt)).far3 (s := w.heap.size + 4) (by omega) (.int .i64 yk) (.int .i64 yn) (.string yt)).cells
  obtain ⟨d3, d4, d5, -⟩ := (((A2.out.far3 (s := w.heap.size + 2) (by omega) (.int .i64 2) (.int .i64 xs) (.string ⟨#[]⟩)).set ⟨gk, gn, gt⟩).far3 (s := w.heap.size + 4) (by omega) (.int .i64 yk) (.int .i64 yn) (.string yt)).cells
  obtain ⟨d6, d7, d8, -⟩ := (((A3.out.far3 (s := w.heap.size + 2) (by omega) (.int .i64 2) (.int .i64 xs) (.string ⟨#[]⟩)).far3 (s := w.heap.size + 3) (by omega) (.int .i64 gk) (.int .i64 gn) (.string gt)).set ⟨yk, yn, yt⟩).cells
  simp only at d0 d1 d2 d3 d4 d5 d6 d7 d8
  exact bodyPost_ret (v := .tuple #[V.val ⟨2, xs, ⟨#[]⟩⟩, V.val ⟨gk, gn, gt⟩, V.val ⟨yk, yn, yt⟩, .bool true, .int .i64 0]) (by simp [results, Try.results48, go_sem, Nat.add_assoc, d0, d1, d2, d3, d4, d5, d6, d7, d8, V.val]) rfl (hR.out _ _ ⟨rfl, (((K5.out.trans K6.out (fun _ _ h => h)).var (r := w.heap.size + 2) (fun h => absurd h (by omega)) _ _ _).var (r := w.heap.size + 3) (fun h => absurd h (by omega)) _ _ _).var (r := w.heap.size + 4) (fun h => absurd h (by omega)) _ _ _⟩)

end
end Go.Proofs.Ytfdfjogoiagnkaa
namespace Go.Proofs.Ytfdfjogoiagnkaa
open Go.RowKit
set_option maxRecDepth 100000

theorem heap_NewTable_nil (w : World) (F : Nat → Prop) (hb : Nat) (H : List (Option (Nat × Cl))) (s : HSt) (h : IsHeap w F hb H s) (ho : HOk H s) (hf : s.live < s.limit) :
    Calls Try.prog 36 #[.pointer (some ⟨hb, 0, none⟩), .pointer none] w fun e w' => ∃ i p tb F' H' s', e = .returned (.tuple #[V.val ⟨4, (i : Nat), ⟨#[]⟩⟩, .int .i64 0]) ∧ Made w w' F (fun _ => False) hb H s (tableCl tb [] 0) i p F' H' s' := by
  have HVL := hidden (fun (W : World) (a : Addr) (tb : Nat) (Ft : Nat → Prop) (hK : Keeps (fun _ => False) w W) (hl : Vals W (some a) [V.null]) (ht : IsT W Ft tb [] 0) (hap : Apart F Ft) => heap_value_ok W F hb H s (tableCl tb [] 0) (some a) none none (some ⟨tb, 0, none⟩) 1 0 (fun _ => False) Ft (h.calm hK) ho
    ⟨hl, fun e => (Option.some_ne_none _ e).elim, fun i x h => by simp [tableCl] at h, fun _ => rfl, rfl, ⟨rfl, ht⟩, Apart.no _, hap, (fun _ h => h.elim), fun _ h => h.elim, ht.inw, ⟨by simp [tableCl], by simp [tableCl], fun b' ys e => by simp [tableCl] at e, fun b' L s e => by simp [tableCl] at e; obtain ⟨-, -, rfl⟩ := e; decide⟩⟩ (by simp [tableCl]) hf)
  have HNL := hidden (fun (W : World) => value_Null W)
  have hin := hidden (h.inw)
  clear h ho hf
  unfold V.val at HVL HNL
  unfold V.null at HNL
  refine post_gen fun R hR => ?_
  go_enter Try.func36, Try.ntmps36
  go_wp2_with fail
  refine (t_New _).mono ?_
  rintro e w1 ⟨tb, Ft, rfl, hT, hK, hF⟩
  have hKw := hidden (((Keeps.refl (fun _ => False) w).alloc _).trans hK (fun _ _ h => h))
  have HV := hidden (show IsVar w1 w.heap.size V.null from hK.heap (IsVar.new w V.null) (fun h => h))
  have HT := hidden hT
  have HFT := hidden (show ∀ k, Ft k → w.heap.size + 1 ≤ k from fun k h => (hF k h).elim (fun h => h.elim) (fun h => by simp at h; omega))
  have HAP := hidden (show Apart F Ft from fun k h1 h2 => by have := hin.out k h1; have := HFT.out k h2; omega)
  clear hT hK hF
  go_wp2_with fail
  refine (HNL.out _).mono ?_
  rintro e w3 ⟨rfl, hK⟩
  have HV3 := hidden (HV.out.keeps hK (fun h => h))
  have HK3 := hidden (hKw.out.trans hK (fun _ _ h => h))
  have HT3 := hidden (HT.out.none hK)
  clear hK HNL HV HT hKw
  go_wp2_with fail
  refine (HVL.out _ ⟨w3.heap.size, 0, none⟩ tb Ft (HK3.out.alloc _) (Vals.lit _ [V.null] _ rfl) (HT3.out.none ((Keeps.refl _ w3).alloc _)) HAP.out).mono ?_
  rintro e w2 ⟨i, p, F', H', s', rfl, hM⟩
  have HV2 := hidden (show IsVar w2 w.heap.size V.null from hM.keeps.heap (blk_alloc HV3.out _) (fun h => by have := hin.out _ h; omega))
  have hnf := hidden (hM.off (r := w.heap.size) (fun h => by have := hin.out _ h; omega) (fun h => h.elim id (fun h => by have := HFT.out _ h; omega)) (by have := blk_lt HV3.out; simp; omega))
  have HM2 := hidden (hM.ahead (w0 := w) (F1 := fun _ => False) (HK3.out.alloc _) (fun k h => .inr (h.elim (fun h => h.elim) (fun h => by have := HFT.out k h; omega))))
  clear hM HVL
  obtain ⟨v0, v1, v2, v3, v4, v5⟩ := HV2.out.cells
  have hvz := blk_lt HV2.out
  simp only [V.null] at v0 v1 v2
  go_wp2_with fail
  obtain ⟨d0, d1, d2, _⟩ := (HV2.out.set ⟨4, i, ⟨#[]⟩⟩).cells
  simp only at d0 d1 d2
  exact bodyPost_ret (v := .tuple #[V.val ⟨4, i, ⟨#[]⟩⟩, .int .i64 0]) (by simp [results, Try.results36, go_sem, d0, d1, d2, V.val]) rfl (hR.out _ _ ⟨i, p, tb, F', H', s', rfl, HM2.out.behind ((Keeps.refl (fun k => k = w.heap.size) w2).var (r := w.heap.size) (fun _ => rfl) _ _ _) (fun k h => by rw [h]; exact ⟨hnf.out, by omega⟩)⟩)
end Go.Proofs.Ytfdfjogoiagnkaa
namespace Go.Proofs.Ytfdfjogoiagnkaa
open Go.RowKit
set_option maxRecDepth 100000

theorem set_old {H : Hp} {i j : Nat} {x : Option (Nat × Cl)} {y : Nat × Cl} (hj : H[j]? = some (some y)) (hne : j ≠ i) : (H.set i x)[j]? = some (some y) := by rw [List.getElem?_set_ne (Ne.symm hne)]; exact hj
theorem set_self {H : Hp} {i : Nat} {x : Nat × Cl} {y : Option (Nat × Cl)} (hj : H[i]? = some y) : (H.set i (some x))[i]? = some (some x) := List.getElem?_set_self (List.getElem?_eq_some_iff.1 hj).1
theorem Hd.turn2 {w wr wj : World} {hb : Nat} {F F' : Nat → Prop} {H : Hp} {s : HSt} {i p : Nat} {c : Cl} {x : Nat × Cl} (h : Hd w hb F H s wr) (hi : H[i]? = some (some (p, c))) (hh : IsHeap wj F' hb (H.set i (some x)) s) (hk : Keeps F wr wj) (hf : Fresh F F' wr) : Hd w hb F' (H.set i (some x)) s wj :=
  ⟨hh, h.ok.turn hi _, fun k hk' => (hf k hk').elim (h.hF k) (fun h1 => Nat.le_trans h.K.size h1), h.K.trans hk (fun k _ h1 => h.hF k h1)⟩
theorem Hd.beyond {w wr wj : World} {hb : Nat} {F : Nat → Prop} {H : Hp} {s : HSt} (h : Hd w hb F H s wr) (hk : Keeps (fun k => wr.heap.size ≤ k) wr wj) : Hd w hb F H s wj :=
  h.other hk (fun k h1 h2 => by have := h.heap.inw k h1; omega) (fun k h1 => Nat.le_trans h.K.size h1)
theorem Vr.beyond {F : Nat → Prop} {w w1 : World} {v : Nat} {x : V} (h : Vr F w v x) (hk : Keeps (fun k => w.heap.size ≤ k) w w1) : Vr F w1 v x := ⟨h.var.keeps hk (fun h1 => Nat.lt_irrefl _ (Nat.lt_of_lt_of_le (blk_lt h.var) h1)), h.off⟩
theorem IsVar.al {w : World} {r : Nat} {v : V} (h : IsVar w r v) (o : Obj) : IsVar (w.alloc o) r v := blk_alloc h o
theorem IsVar.far {w : World} {r s : Nat} {v : V} (h : IsVar w r v) (hn : r ≠ s) (x y z : Value) : IsVar (((w.setCell ⟨s, 0, none⟩ x).setCell ⟨s, 1, none⟩ y).setCell ⟨s, 2, none⟩ z) r v := h.keeps ((Keeps.refl (fun k => k = s) w).var (r := s) (fun _ => rfl) x y z) hn
theorem newvar_at {r : Nat} (w : World) (v : V) (h : w.heap.size = r) : IsVar (w.alloc (.cells #[.int .i64 v.k, .int .i64 v.n, .string v.t] 26)) r v := h ▸ IsVar.new w v
theorem merge1 {M : Prop} (PP : Nat → World → Prop) (main : (∀ a w, PP a w) → M) (tail : ∀ a w, PP a w) : M := main tail
end Go.Proofs.Ytfdfjogoiagnkaa
namespace Go.Proofs.Ytfdfjogoiagnkaa
open Go.RowKit
set_option maxRecDepth 100000

section
variable {w : World} {F : Nat → Prop} {hb : Nat} {H : List (Option (Nat × Cl))} {s : HSt} {i p : Nat} {c : Cl}
theorem slot_Get_tableR (h : IsHeap w F hb H s) {ls : List (List Ent)} (hi : H[i]? = some (some (p, c))) (hk : c.kind = 2) (hd : Dels H (rV (i : Nat)) ls) (hl : ls.length ≤ 1048576) (key : V) (hkz : key.t.size ≤ 140737488351232) {x : V} {e0 : Int} (hR : tabR ls key = (x, e0)) :
    Calls Try.prog 43 #[.pointer (some ⟨hb, 0, none⟩), V.val ⟨4, i, ⟨#[]⟩⟩, key.val] w fun e w' => e = .returned (.tuple #[x.val, .int .i64 e0]) ∧ Keeps (fun _ => False) w w' := by
  have h1 := slot_Get_table h hi hk hd hl key hkz
  rw [hR] at h1
  exact h1
theorem slot_Set_tabR (h : IsHeap w F hb H s) (hi : H[i]? = some (some (p, c))) (hk : c.kind = 2 ∨ c.kind = 3 ∨ c.kind = 4) {tb : Nat} {L : List Ent} {sr : Int} (hc : c.tab = some (tb, L, sr)) (hs : sr < 1073740000) (key val : V) (hkz : key.t.size ≤ 140737488351232) {e0 : Int} (hR : (getR L key).2 = e0) :
    Calls Try.prog 41 #[.pointer (some ⟨hb, 0, none⟩), V.val ⟨4, i, ⟨#[]⟩⟩, key.val, val.val] w fun e w' => ∃ F', e = .returned (.int .i64 e0) ∧ IsHeap w' F' hb (tabH H i p c tb (putL L key val, sr)) s ∧ Keeps F w w' ∧ Fresh F F' w := by
  obtain ⟨kk, kn, kt⟩ := key
  obtain ⟨vk, vn, vt⟩ := val
  have h1 := slot_Set_tab h hi hk hc hs kk kn kt hkz vk vn vt
  rw [hR] at h1
  exact h1
end
end Go.Proofs.Ytfdfjogoiagnkaa
namespace Go.Proofs.Ytfdfjogoiagnkaa
open Go.RowKit
set_option maxRecDepth 100000

structure HV (w : World) (hb : Nat) (F : Nat → Prop) (H : Hp) (s : HSt) (vs : List (Nat × V)) (wr : World) : Prop where
  hd : Hd w hb F H s wr
  vr : ∀ v ∈ vs, Vr F wr v.1 v.2
section
variable {w wr wj : World} {hb : Nat} {F F' : Nat → Prop} {H H' : Hp} {s s' : HSt} {vs : List (Nat × V)}
theorem HV.heap (h : HV w hb F H s vs wr) : IsHeap wr F hb H s := h.hd.heap
theorem HV.ok (h : HV w hb F H s vs wr) : HOk H s := h.hd.ok
theorem HV.K (h : HV w hb F H s vs wr) : Keeps (fun k => w.heap.size ≤ k) w wr := h.hd.K
theorem HV.var (h : HV w hb F H s vs wr) (j : Nat) {v : Nat × V} (hj : vs[j]? = some v) : Vr F wr v.1 v.2 := h.vr v (List.mem_of_getElem? hj)
theorem HV.calm (h : HV w hb F H s vs wr) (hk : Keeps (fun _ => False) wr wj) : HV w hb F H s vs wj := ⟨h.hd.calm hk, fun v hv => (h.vr v hv).calm hk⟩
theorem HV.made {i p : Nat} {c : Cl} (h : HV w hb F H s vs wr) (hm : Made wr wj F (fun _ => False) hb H s c i p F' H' s') : HV w hb F' H' s' vs wj := ⟨h.hd.made hm (fun _ h => h.elim), fun v hv => (h.vr v hv).step hm.keeps hm.fr⟩
theorem HV.turn {i p : Nat} {c : Cl} {x : Nat × Cl} (h : HV w hb F H s vs wr) (hi : H[i]? = some (some (p, c))) (hh : IsHeap wj F' hb (H.set i (some x)) s) (hk : Keeps F wr wj) (hf : Fresh F F' wr) : HV w hb F' (H.set i (some x)) s vs wj :=
  ⟨h.hd.turn2 hi hh hk hf, fun v hv => (h.vr v hv).step hk hf⟩
theorem HV.beyond (h : HV w hb F H s vs wr) (hk : Keeps (fun k => wr.heap.size ≤ k) wr wj) : HV w hb F H s vs wj := ⟨h.hd.beyond hk, fun v hv => (h.vr v hv).beyond hk⟩
theorem HV.add (h : HV w hb F H s vs wr) {r : Nat} {x : V} (hv : IsVar wr r x) (hr : ¬ F r) : HV w hb F H s ((r, x) :: vs) wr :=
  ⟨h.hd, fun v hv' => (List.mem_cons.1 hv').elim (fun e => e ▸ ⟨hv, hr⟩) (h.vr v)⟩
theorem HV.new (h : HV w hb F H s vs wr) {r : Nat} (hr : wr.heap.size = r) (k n : Int) (t : ByteArray) : HV w hb F H s ((r, ⟨k, n, t⟩) :: vs) (wr.alloc (.cells #[.int .i64 k, .int .i64 n, .string t] 26)) :=
  (h.calm ((Keeps.refl _ wr).alloc _)).add (newvar_at wr ⟨k, n, t⟩ hr) (fun h1 => by have := h.heap.inw _ h1; omega)
theorem HV.set (h : HV w hb F H s vs wr) {r : Nat} {x : V} (hx : Vr F wr r x) (hg : w.heap.size ≤ r) (k n : Int) (t : ByteArray) (us : List (Nat × V)) (hus : ∀ u ∈ us, u ∈ vs ∧ u.1 ≠ r) :
    HV w hb F H s ((r, ⟨k, n, t⟩) :: us) (((wr.setCell ⟨r, 0, none⟩ (.int .i64 k)).setCell ⟨r, 1, none⟩ (.int .i64 n)).setCell ⟨r, 2, none⟩ (.string t)) := by
  have kv := (Keeps.refl (fun k => k = r) wr).var (r := r) (fun _ => rfl) (.int .i64 k) (.int .i64 n) (.string t)
  refine ⟨h.hd.other kv (fun k h1 h2 => hx.off (h2 ▸ h1)) (fun k h1 => h1 ▸ hg), fun v hv => ?_⟩
  rcases List.mem_cons.1 hv with rfl | hv
  · exact ⟨hx.var.set ⟨k, n, t⟩, hx.off⟩
  · exact ⟨(h.vr v (hus v hv).1).var.keeps kv (hus v hv).2, (h.vr v (hus v hv).1).off⟩
end
structure Av (base W : World) (rs : List Nat) : Prop where
  K : Keeps (fun _ => False) base W
  vars : ∀ r ∈ rs, IsVar W r V.null ∧ base.heap.size ≤ r
  nodup : rs.Nodup
section
variable {base W W1 : World} {rs rs' : List Nat}
theorem Av.start (h : Keeps (fun _ => False) base W) : Av base W [] := ⟨h, (fun _ hr => nomatch hr), List.nodup_nil⟩
theorem Av.S (h : Av base W rs) : Keeps (fun k => base.heap.size ≤ k) base W := h.K.mono (fun _ _ h => h.elim)
theorem Av.at_ (h : Av base W rs) (j : Nat) {r : Nat} (hj : rs[j]? = some r) : IsVar W r V.null ∧ base.heap.size ≤ r := h.vars r (List.mem_of_getElem? hj)
theorem Av.ne (h : Av base W rs) (i j : Nat) {r s : Nat} (hi : rs[i]? = some r) (hj : rs[j]? = some s) (hn : i ≠ j) : r ≠ s := fun e =>
  hn ((List.getElem?_inj (List.getElem?_eq_some_iff.1 hi).1 h.nodup).1 (by rw [hi, hj, e]))
theorem Av.more (h : Av base W rs) : Av base (W.alloc (.cells #[.int .i64 0, .int .i64 0, .string ⟨#[]⟩] 26)) (W.heap.size :: rs) :=
  ⟨h.K.alloc _, fun r hr => (List.mem_cons.1 hr).elim (fun e => e ▸ ⟨IsVar.new W V.null, h.K.size⟩) (fun hr => ⟨(h.vars r hr).1.al _, (h.vars r hr).2⟩), List.nodup_cons.2 ⟨fun hm => Nat.lt_irrefl _ (blk_lt (h.vars _ hm).1), h.nodup⟩⟩
theorem Av.calm (h : Av base W rs) (hk : Keeps (fun _ => False) W W1) : Av base W1 rs := ⟨h.K.trans hk (fun _ _ h => h), fun r hr => ⟨(h.vars r hr).1.keeps hk (fun h => h), (h.vars r hr).2⟩, h.nodup⟩
theorem Av.perm (h : Av base W rs) (hp : rs.Perm rs') : Av base W rs' := ⟨h.K, fun r hr => h.vars r (hp.mem_iff.2 hr), hp.nodup_iff.1 h.nodup⟩
end
section
variable {P : Program} {ops : Array Oper} {Q : Exit → Act → World → Prop} {md : Region.Mode} {S : World → Prop}
theorem wpAnyH_tk {oi : Oper} {v : Value} {fuel : Nat} {listed : Array Bool} {a : Act} {w : World} (i : Nat) (hi : ops[i]? = some oi)
    (hc : (Region.noSelect ops && Region.free md ops listed i && (Region.ready md ops listed).contains i) = true) (hQ : ∀ c a w, Q (.panic c) (a.put oi.dst v) w → Q (.panic c) a w) (hS : S w)
    (hw : Region.wanted oi (yielded ops a.tmps) = true) (hy : ∀ w, S w → (execOp a.eval oi).run P w = .ok (.value v) w) (h : wpAnyH P md ops Q S fuel (listed.setIfInBounds i true) (a.put oi.dst v) w) : wpAnyH P md ops Q S (fuel + 1) listed a w := by
  simp only [Bool.and_eq_true] at hc
  exact wpAnyH_take hi hc.1.1 hc.1.2 hc.2 hQ (.inl ⟨hw, hy⟩) hS h
theorem pa (l : List Value) (ds : List Deferred) (n : Nat) (v : Value) : (Act.mk l.toArray ds).put (some n) v = Act.mk (l.set n v).toArray ds := by simp [Act.put]
theorem pb {α : Type} (l : List α) (n : Nat) (v : α) : l.toArray.setIfInBounds n v = (l.set n v).toArray := List.setIfInBounds_toArray ..
theorem pc {α : Type} (x y : α) (l : List α) : (x :: l).set 0 y = y :: l := rfl
end
/- Where ways meet: the rest as a box, lest its type (a whole goal) be looked into at each step. -/
structure Bx1 (PP : Nat → World → Prop) : Prop where out : ∀ a w, PP a w
structure Bx2 (PP : Nat → Nat → World → Prop) : Prop where out : ∀ a b w, PP a b w
structure Bx3 (PP : Nat → Nat → Nat → World → Prop) : Prop where out : ∀ a b c w, PP a b c w
theorem mg1 {M : Prop} (PP : Nat → World → Prop) (main : Bx1 PP → M) (tail : ∀ a w, PP a w) : M := main ⟨tail⟩
theorem mg2 {M : Prop} (PP : Nat → Nat → World → Prop) (main : Bx2 PP → M) (tail : ∀ a b w, PP a b w) : M := main ⟨tail⟩
theorem mg3 {M : Prop} (PP : Nat → Nat → Nat → World → Prop) (main : Bx3 PP → M) (tail : ∀ a b c w, PP a b c w) : M := main ⟨tail⟩
end Go.Proofs.Ytfdfjogoiagnkaa
