/- Layer 5: tables: a key comes. -/
import Derived.Test.YtmefdniocgcckaaGrpB
import Derived.Deep.CutBlock
import Derived.Deep.DeepCutAuto
import Derived.Deep.RegionHeld3
set_option linter.unusedSimpArgs false
set_option linter.unusedVariables false
namespace Go.Proofs.Ytmefdniocgcckaa
open Go.RowKit
set_option maxRecDepth 100000
set_option linter.unusedSimpArgs false

/-- What Put needs of a table, beside that it is safe. -/
structure Tb.room (t : Tb) : Prop where
  ser : 0 ≤ t.ser ∧ t.ser ≤ 1099511627776
  used : 0 ≤ t.used ∧ t.used ≤ (t.S.length : Int)
  live : 0 ≤ t.live ∧ t.live < 1048576
  many : t.E.length < 1073741824
theorem setcell_keep {W : World} {p q : Addr} {v u : Value} (h : W.cell? q = some u) (hn : p ≠ q) : (W.setCell p v).cell? q = some u := by rw [World.cell?_setCell_other (h := hn)]; exact h
theorem Keeps.undrewn {S : Nat → Prop} {w w1 : World} (h : Keeps S w.drew w1) : Keeps S w w1 := ⟨h.os, h.tape, h.output, h.size, h.block⟩
set_option maxHeartbeats 8000000 in
theorem table_Put_plain (w : World) (F : Nat → Prop) (b : Nat) (t : Tb) (key val : V) (h : IsTab w F b t) (hs : t.safe) (hk : key.t.size ≤ 140737488351232) (h0 : key.k ≠ 0) (hf : (findT t key).2 = false) (hr : t.room) (hp : 4 * (t.used + 1) ≤ 3 * (t.S.length : Int)) :
    Calls Try.prog 37 #[.pointer (some ⟨b, 0, none⟩), key.val, val.val] w fun e w' => ∃ F' : Nat → Prop, e = .returned (.int .i64 0) ∧ IsTab w' F' b (putT t key val) ∧ Keeps F w w' ∧ Fresh F F' w := by
  have c1 := hidden (fun (W : World) (hK : Keeps (fun _ => False) w W) => table_find W F b t key (h.none hK) hs hk)
  have H := hidden h
  have hi0 : (key.k == 0) = false := by rw [beq_eq_false_iff_ne]; exact h0
  have hsl : t.S.length ≤ 1073741824 := by
    rcases hs.two with h0 | ⟨m, hm, h0⟩
    · omega
    · rw [h0]; exact Nat.pow_le_pow_right (by decide) hm
  have hS0 : 0 < t.S.length := by have := hr.used; omega
  have hfi := findT_lt (t := t) (key := key) hS0
  obtain ⟨⟨hr1, hr2⟩, ⟨hu1, hu2⟩, ⟨hv1, hv2⟩, hm⟩ := hr
  have HBK := hidden (show IsVar ((w.alloc (.cells #[.int .i64 key.k, .int .i64 key.n, .string key.t] 29)).alloc (.cells #[.int .i64 val.k, .int .i64 val.n, .string val.t] 29)) w.heap.size key from blk_alloc (blk_new w _) _)
  have HBV := hidden (show IsVar ((w.alloc (.cells #[.int .i64 key.k, .int .i64 key.n, .string key.t] 29)).alloc (.cells #[.int .i64 val.k, .int .i64 val.n, .string val.t] 29)) (w.heap.size + 1) val from new2t w _ _)
  have HK0 := hidden (show Keeps (fun _ => False) w ((w.alloc (.cells #[.int .i64 key.k, .int .i64 key.n, .string key.t] 29)).alloc (.cells #[.int .i64 val.k, .int .i64 val.n, .string val.t] 29)) from ((Keeps.refl _ w).alloc _).alloc _)
  have HIN := hidden h.inw
  have HBF := hidden (show F b from by obtain ⟨_, _, h⟩ := h; exact h.here)
  obtain ⟨ve, vs, hT⟩ := h
  obtain ⟨Ae, ce, rfl⟩ := hT.ents.form
  obtain ⟨As, cs, rfl⟩ := hT.slots.form
  have hFT := hidden (show putT t key val = ⟨t.E ++ [⟨key, val, t.ser + 1, false⟩], t.S.set (findT t key).1 ((t.E.length : Int) + 1), t.live + 1, if t.S.getD (findT t key).1 0 = (0 : Int) then t.used + 1 else t.used, t.ser + 1⟩ from rfl)
  rw [hf] at c1
  generalize (findT t key).1 = fi at *
  generalize hpt : putT t key val = pt at *
  obtain ⟨E1, S1, live, used1, ser⟩ := t
  simp only at *
  have TT0 := hidden (hT.none HK0.out)
  have hd1 : IntKind.i64.wrap (used1 + 1) = used1 + 1 := by rw [IntKind.wrap_i64]; omega
  have hd2 : IntKind.i64.wrap (4 * (used1 + 1)) = 4 * (used1 + 1) := by rw [IntKind.wrap_i64]; omega
  have hd3 : IntKind.i64.wrap (3 * (S1.length : Int)) = 3 * (S1.length : Int) := by rw [IntKind.wrap_i64]; omega
  have hd4 : (live == 1048576) = false := by rw [beq_eq_false_iff_ne]; omega
  have hd5 : ¬ (3 * (S1.length : Int) < 4 * (used1 + 1)) := by omega
  clear hT hf hs hpt
  unfold V.val at *
  refine post_gen fun R hR => ?_
  go_enter Try.func37, Try.ntmps37
  go_wp2_with fail
  refine (c1.out _ HK0.out).mono ?_
  rintro e wa ⟨rfl, hK⟩
  have HKa0 := hidden (HK0.out.trans hK (fun _ _ h => h))
  have HAk := hidden (show IsVar wa w.heap.size key from hK.heap HBK.out (fun h => h))
  have HAv := hidden (show IsVar wa (w.heap.size + 1) val from hK.heap HBV.out (fun h => h))
  have TA := hidden (TT0.out.none hK)
  have cf := hidden (fun (W : World) (hk : Keeps (fun _ => False) wa W) => c1.out W (HKa0.out.trans hk (fun _ _ h => h)))
  clear hK c1 TT0 HBK HBV HK0
  have b1 := blk_cell TA.out.blk 1
  have b2 := blk_cell TA.out.blk 2
  have b3 := blk_cell TA.out.blk 3
  simp only [List.getElem?_toArray, List.getElem?_cons_zero, List.getElem?_cons_succ] at b1 b2 b3
  obtain ⟨k0, k1, k2, -⟩ := HAk.out.cells
  have hkz := blk_lt HAk.out
  go_wp2_with fail
  go_quiet (fail)
  have TA2 := hidden (TA.out.none ((Keeps.refl _ wa).drewN nq))
  have HAk2 := hidden (show IsVar (wa.drewN nq) w.heap.size key from HAk.out)
  have HAv2 := hidden (show IsVar (wa.drewN nq) (w.heap.size + 1) val from HAv.out)
  have HKa := hidden ((HKa0.out.drewN nq).mono (T := F) (fun _ _ h => h.elim))
  have cf2 := hidden (fun (W : World) (hk : Keeps (fun _ => False) (wa.drewN nq) W) => cf.out W (((Keeps.refl _ wa).drewN nq).trans hk (fun _ _ h => h)))
  clear b1 b2 b3 k0 k1 k2 hkz TA HAk HAv cf HKa0
  generalize wa.drewN nq = wa at *
  have TA := TA2
  have HAk := HAk2
  have HAv := HAv2
  have cf := cf2
  clear TA2 HAk2 HAv2 cf2
  have b1 := blk_cell TA.out.blk 1
  have b2 := blk_cell TA.out.blk 2
  have b3 := blk_cell TA.out.blk 3
  simp only [List.getElem?_toArray, List.getElem?_cons_zero, List.getElem?_cons_succ] at b1 b2 b3
  obtain ⟨k0, k1, k2, -⟩ := HAk.out.cells
  have hkz := blk_lt HAk.out
  have HO1 := hidden (show ¬ F w.heap.size ∧ ¬ F (w.heap.size + 1) from ⟨fun h => by have := HIN.out _ h; omega, fun h => by have := HIN.out _ h; omega⟩)
  have HBW := hidden (show b < w.heap.size from HIN.out b HBF.out)
  have HFR := hidden (Fresh.refl F w)
  have HFF := hidden (show ∀ i : Nat, i < w.heap.size → F i → F i from fun _ _ h => h)
  go_wp2_with fail
  refine (cf.out _ (Keeps.refl _ _)).mono ?_
  rintro e wb ⟨rfl, hK⟩
  have TB := hidden (TA.out.none hK)
  have HBk := hidden (show IsVar wb w.heap.size key from hK.heap HAk.out (fun h => h))
  have HBv := hidden (show IsVar wb (w.heap.size + 1) val from hK.heap HAv.out (fun h => h))
  have HKb := hidden (HKa.out.trans hK (fun _ _ h => h.elim))
  clear hK cf TA HAk HAv HKa
  obtain ⟨s0, hs0⟩ : ∃ s0, S1[fi]? = some s0 := ⟨_, List.getElem?_eq_getElem hfi⟩
  have HS0 := hidden (show S1.getD fi 0 = s0 by rw [List.getD_eq_getElem?_getD, hs0]; rfl)
  obtain ⟨gs, rfl, hFgs, hgs, hc, hcf⟩ := slot_cell TB.out.slots hs0
  have b1 := blk_cell TB.out.blk 1
  have b3 := blk_cell TB.out.blk 3
  have b4 := blk_cell TB.out.blk 4
  have b3f := blk_frozen TB.out.blk 3
  have b4f := blk_frozen TB.out.blk 4
  simp only [List.getElem?_toArray, List.getElem?_cons_zero, List.getElem?_cons_succ] at b1 b3 b4
  have hbw := blk_lt TB.out.blk
  have hu1 : IntKind.i64.wrap (used1 + 1) = used1 + 1 := by rw [IntKind.wrap_i64]; omega
  have hr1 : IntKind.i64.wrap (ser + 1) = ser + 1 := by rw [IntKind.wrap_i64]; omega
  have hl1 : IntKind.i64.wrap (live + 1) = live + 1 := by rw [IntKind.wrap_i64]; omega
  by_cases hs00 : s0 = 0
  · subst hs00
    go_upto_region 15 with fail
    obtain ⟨T2, k2⟩ := tab_num (t := ⟨E1, S1, live, used1, ser⟩) TB.out (i := 3) (n := used1 + 1) (t' := ⟨E1, S1, live, used1 + 1, ser⟩) rfl rfl rfl
    obtain ⟨T3, k3⟩ := tab_num (t := ⟨E1, S1, live, used1 + 1, ser⟩) T2 (i := 4) (n := ser + 1) (t' := ⟨E1, S1, live, used1 + 1, ser + 1⟩) rfl rfl rfl
    have TC := hidden T3
    have KC := hidden (k2.trans k3 (fun _ _ h => h))
    have HU := hidden (show (if S1.getD fi 0 = (0 : Int) then used1 + 1 else used1) = used1 + 1 by rw [HS0.out]; rfl)
    clear T2 T3 k2 k3 b1 b3 b4 b3f b4f hc hcf
    generalize (wb.setCell ⟨b, 3, none⟩ (.int .i64 (used1 + 1))).setCell ⟨b, 4, none⟩ (.int .i64 (ser + 1)) = wc at *
    have HCk := hidden (show IsVar wc w.heap.size key from KC.out.heap HBk.out HO1.out.1)
    have HCv := hidden (show IsVar wc (w.heap.size + 1) val from KC.out.heap HBv.out HO1.out.2)
    have HKc := hidden (HKb.out.trans KC.out (fun i hi h => HFF.out i hi h))
    clear TB HBk HBv HKb KC hu1
    have b0 := blk_cell TC.out.blk 0
    have b0f := blk_frozen TC.out.blk 0
    have b4 := blk_cell TC.out.blk 4
    simp only [List.getElem?_toArray, List.getElem?_cons_zero, List.getElem?_cons_succ] at b0 b4
    have hbc := blk_lt TC.out.blk
    obtain ⟨k0, k1, k2, -⟩ := HCk.out.cells
    obtain ⟨v0, v1, v2, -⟩ := HCv.out.cells
    have hkz := blk_lt HCk.out
    have hvz := blk_lt HCv.out
    have HNE := hidden (TC.out.ents.ne TC.out.blk (by decide))
    have HOW := hidden (fun k (e : (Value.slice Ae E1.length ce).ownBlock = some k) => TC.out.ents.2 k e)
    have hbw0 := HBW.out
    have SK := hidden (show ∀ W', Keeps (fun k => (Value.slice Ae E1.length ce).ownBlock = some k) wc W' → (W'.cell? ⟨b, 4, none⟩ = some (.int .i64 (ser + 1)) ∧ W'.cell? ⟨w.heap.size, 0, none⟩ = some (.int .i64 key.k) ∧ W'.cell? ⟨w.heap.size, 1, none⟩ = some (.int .i64 key.n) ∧ W'.cell? ⟨w.heap.size, 2, none⟩ = some (.string key.t) ∧ W'.cell? ⟨w.heap.size + 1, 0, none⟩ = some (.int .i64 val.k) ∧ W'.cell? ⟨w.heap.size + 1, 1, none⟩ = some (.int .i64 val.n) ∧ W'.cell? ⟨w.heap.size + 1, 2, none⟩ = some (.string val.t)) from fun W' hk =>
      ⟨hk.cell b4 (fun e => HNE.out b e rfl), hk.cell k0 (fun e => HO1.out.1 (HOW.out _ e)), hk.cell k1 (fun e => HO1.out.1 (HOW.out _ e)), hk.cell k2 (fun e => HO1.out.1 (HOW.out _ e)), hk.cell v0 (fun e => HO1.out.2 (HOW.out _ e)), hk.cell v1 (fun e => HO1.out.2 (HOW.out _ e)), hk.cell v2 (fun e => HO1.out.2 (HOW.out _ e))⟩)
    refine wp_region_noPanic ?_
    refine wp_region_held_drew (S := (fun w' => w'.cell? ⟨b, 4, none⟩ = some (.int .i64 (ser + 1)) ∧ w'.cell? ⟨w.heap.size, 0, none⟩ = some (.int .i64 key.k) ∧ w'.cell? ⟨w.heap.size, 1, none⟩ = some (.int .i64 key.n) ∧ w'.cell? ⟨w.heap.size, 2, none⟩ = some (.string key.t) ∧ w'.cell? ⟨w.heap.size + 1, 0, none⟩ = some (.int .i64 val.k) ∧ w'.cell? ⟨w.heap.size + 1, 1, none⟩ = some (.int .i64 val.n) ∧ w'.cell? ⟨w.heap.size + 1, 2, none⟩ = some (.string val.t))) (by kernel_rfl) ?_ (fun hHeld => ?_)
    · ((try dsimp only); (first | exact ⟨b4, k0, k1, k2, v0, v1, v2⟩ | exact SK.out _ ((Keeps.refl _ wc).drewN _) | exact SK.out _ (((Keeps.refl _ wc).drewN _).alloc _) | exact SK.out _ KX.out | exact ⟨setcell_keep (SK.out _ KX.out).1 (by simp), setcell_keep (SK.out _ KX.out).2.1 (fun e => by simp at e <;> omega), setcell_keep (SK.out _ KX.out).2.2.1 (fun e => by simp at e <;> omega), setcell_keep (SK.out _ KX.out).2.2.2.1 (fun e => by simp at e <;> omega), setcell_keep (SK.out _ KX.out).2.2.2.2.1 (fun e => by simp at e <;> omega), setcell_keep (SK.out _ KX.out).2.2.2.2.2.1 (fun e => by simp at e <;> omega), setcell_keep (SK.out _ KX.out).2.2.2.2.2.2 (fun e => by simp at e <;> omega)⟩))
    refine wpAnyH_take (i := 0) (v := ?_) rfl (by kernel_rfl) (by kernel_rfl) (by kernel_rfl) (fun _ _ _ h => h) (Or.inl ⟨by rfl, ?_⟩) hHeld ?_
    rotate_left
    · (intro w' hSw; (try dsimp only at hSw); go_simp; (try with_reducible rfl))
    try simp only [Act.put, List.setIfInBounds_toArray, List.set_cons_zero, List.set_cons_succ]
    refine wpAnyH_take (i := 1) (v := ?_) rfl (by kernel_rfl) (by kernel_rfl) (by kernel_rfl) (fun _ _ _ h => h) (Or.inl ⟨by rfl, ?_⟩) hHeld ?_
    rotate_left
    · (intro w' hSw; (try dsimp only at hSw); go_simp; (try with_reducible rfl))
    try simp only [Act.put, List.setIfInBounds_toArray, List.set_cons_zero, List.set_cons_succ]
    refine wpAnyH_take (i := 2) (v := ?_) rfl (by kernel_rfl) (by kernel_rfl) (by kernel_rfl) (fun _ _ _ h => h) (Or.inl ⟨by rfl, ?_⟩) hHeld ?_
    rotate_left
    · (intro w' hSw; (try dsimp only at hSw); go_simp; (try with_reducible rfl))
    try simp only [Act.put, List.setIfInBounds_toArray, List.set_cons_zero, List.set_cons_succ]
    refine wpAnyH_take (i := 3) (v := ?_) rfl (by kernel_rfl) (by kernel_rfl) (by kernel_rfl) (fun _ _ _ h => h) (Or.inl ⟨by rfl, ?_⟩) hHeld ?_
    rotate_left
    · (intro w' hSw; (try dsimp only at hSw); go_simp; (try with_reducible rfl))
    try simp only [Act.put, List.setIfInBounds_toArray, List.set_cons_zero, List.set_cons_succ]
    refine wpAnyH_take (i := 5) (v := ?_) rfl (by kernel_rfl) (by kernel_rfl) (by kernel_rfl) (fun _ _ _ h => h) (Or.inl ⟨by rfl, ?_⟩) hHeld ?_
    rotate_left
    · (intro w' hSw; (try dsimp only at hSw); go_simp; (try with_reducible rfl))
    try simp only [Act.put, List.setIfInBounds_toArray, List.set_cons_zero, List.set_cons_succ]
    refine wpAnyH_take (i := 6) (v := ?_) rfl (by kernel_rfl) (by kernel_rfl) (by kernel_rfl) (fun _ _ _ h => h) (Or.inl ⟨by rfl, ?_⟩) hHeld ?_
    rotate_left
    · (intro w' hSw; (try dsimp only at hSw); go_simp; (try with_reducible rfl))
    try simp only [Act.put, List.setIfInBounds_toArray, List.set_cons_zero, List.set_cons_succ]
    refine wpAnyH_take (i := 7) (v := ?_) rfl (by kernel_rfl) (by kernel_rfl) (by kernel_rfl) (fun _ _ _ h => h) (Or.inl ⟨by rfl, ?_⟩) hHeld ?_
    rotate_left
    · (intro w' hSw; (try dsimp only at hSw); go_simp; (try with_reducible rfl))
    try simp only [Act.put, List.setIfInBounds_toArray, List.set_cons_zero, List.set_cons_succ]
    refine wpAnyH_take (i := 8) (v := ?_) rfl (by kernel_rfl) (by kernel_rfl) (by kernel_rfl) (fun _ _ _ h => h) (Or.inl ⟨by rfl, ?_⟩) hHeld ?_
    rotate_left
    · (intro w' hSw; (try dsimp only at hSw); go_simp; (try with_reducible rfl))
    try simp only [Act.put, List.setIfInBounds_toArray, List.set_cons_zero, List.set_cons_succ]
    refine wpAnyH_take (i := 9) (v := ?_) rfl (by kernel_rfl) (by kernel_rfl) (by kernel_rfl) (fun _ _ _ h => h) (Or.inl ⟨by rfl, ?_⟩) hHeld ?_
    rotate_left
    · (intro w' hSw; (try dsimp only at hSw); go_simp; (try with_reducible rfl))
    try simp only [Act.put, List.setIfInBounds_toArray, List.set_cons_zero, List.set_cons_succ]
    refine wpAnyH_take (i := 10) (v := ?_) rfl (by kernel_rfl) (by kernel_rfl) (by kernel_rfl) (fun _ _ _ h => h) (Or.inl ⟨by rfl, ?_⟩) hHeld ?_
    rotate_left
    · (intro w' hSw; (try dsimp only at hSw); go_simp; (try with_reducible rfl))
    try simp only [Act.put, List.setIfInBounds_toArray, List.set_cons_zero, List.set_cons_succ]
    refine wpAnyH_take (i := 11) (v := ?_) rfl (by kernel_rfl) (by kernel_rfl) (by kernel_rfl) (fun _ _ _ h => h) (Or.inl ⟨by rfl, ?_⟩) hHeld ?_
    rotate_left
    · (intro w' hSw; (try dsimp only at hSw); go_simp; (try with_reducible rfl))
    try simp only [Act.put, List.setIfInBounds_toArray, List.set_cons_zero, List.set_cons_succ]
    refine wpAnyH_ready (rs := [4, 12]) (by kernel_rfl) (by simp) ?_
    refine (AllReadyH.cons rfl (fun K hK => ?_) (AllReadyH.cons rfl (fun K hK => ?_) AllReadyH.nil))
    go_simp
    refine hK.out _ _ ?_ (fun hH2 => ?_)
    · ((try dsimp only); (first | exact ⟨b4, k0, k1, k2, v0, v1, v2⟩ | exact SK.out _ ((Keeps.refl _ wc).drewN _) | exact SK.out _ (((Keeps.refl _ wc).drewN _).alloc _) | exact SK.out _ KX.out | exact ⟨setcell_keep (SK.out _ KX.out).1 (by simp), setcell_keep (SK.out _ KX.out).2.1 (fun e => by simp at e <;> omega), setcell_keep (SK.out _ KX.out).2.2.1 (fun e => by simp at e <;> omega), setcell_keep (SK.out _ KX.out).2.2.2.1 (fun e => by simp at e <;> omega), setcell_keep (SK.out _ KX.out).2.2.2.2.1 (fun e => by simp at e <;> omega), setcell_keep (SK.out _ KX.out).2.2.2.2.2.1 (fun e => by simp at e <;> omega), setcell_keep (SK.out _ KX.out).2.2.2.2.2.2 (fun e => by simp at e <;> omega)⟩))
    clear hK K hHeld
    have hHeld := hH2
    clear hH2
    try simp only [Act.put, List.setIfInBounds_toArray, List.set_cons_zero, List.set_cons_succ]
    refine wpAnyH_ready (rs := [12]) (by kernel_rfl) (by simp) ?_
    refine AllReadyH.cons rfl (fun K hK => ?_) AllReadyH.nil
    go_simp
    refine hK.out _ _ ?_ (fun hH2 => ?_)
    · ((try dsimp only); (first | exact ⟨b4, k0, k1, k2, v0, v1, v2⟩ | exact SK.out _ ((Keeps.refl _ wc).drewN _) | exact SK.out _ (((Keeps.refl _ wc).drewN _).alloc _) | exact SK.out _ KX.out | exact ⟨setcell_keep (SK.out _ KX.out).1 (by simp), setcell_keep (SK.out _ KX.out).2.1 (fun e => by simp at e <;> omega), setcell_keep (SK.out _ KX.out).2.2.1 (fun e => by simp at e <;> omega), setcell_keep (SK.out _ KX.out).2.2.2.1 (fun e => by simp at e <;> omega), setcell_keep (SK.out _ KX.out).2.2.2.2.1 (fun e => by simp at e <;> omega), setcell_keep (SK.out _ KX.out).2.2.2.2.2.1 (fun e => by simp at e <;> omega), setcell_keep (SK.out _ KX.out).2.2.2.2.2.2 (fun e => by simp at e <;> omega)⟩))
    clear hK K hHeld
    have hHeld := hH2
    clear hH2
    try simp only [Act.put, List.setIfInBounds_toArray, List.set_cons_zero, List.set_cons_succ]
    refine wpAnyH_ready (rs := [13]) (by kernel_rfl) (by simp) ?_
    refine AllReadyH.cons rfl (fun K hK => ?_) AllReadyH.nil
    (first | (refine app_step rfl F _ _ _ _ _ _ 8 80 rfl Try.underlying88 info_ent rfl (by decide) (.slice Ae E1.length ce) E1.length (flatE E1) rfl (TC.out.ents.alloc _).drew _ rfl 1 _ (ent_src wc ⟨key, val, ser + 1, false⟩ (by first | rfl | simp)) (by omega) (by omega) ?_; intro A6 c6 w6 hR6 hK6; have HR6 := hidden hR6; have HK6 := hidden (Keeps.undrewn hK6); have KX := hidden ((((Keeps.refl (fun k => (Value.slice Ae E1.length ce).ownBlock = some k) wc).alloc _).drew).trans hK6 (fun _ _ h => h)); have g0 := KX.out.cell b0 (fun e => HNE.out b e rfl); have g0d := KX.out.heap TC.out.blk (fun e => HNE.out b e rfl); have g0f := blk_frozen g0d 0; clear hR6 hK6))
    refine hK.out _ _ ?_ (fun hH2 => ?_)
    · ((try dsimp only); (first | exact ⟨b4, k0, k1, k2, v0, v1, v2⟩ | exact SK.out _ ((Keeps.refl _ wc).drewN _) | exact SK.out _ (((Keeps.refl _ wc).drewN _).alloc _) | exact SK.out _ KX.out | exact ⟨setcell_keep (SK.out _ KX.out).1 (by simp), setcell_keep (SK.out _ KX.out).2.1 (fun e => by simp at e <;> omega), setcell_keep (SK.out _ KX.out).2.2.1 (fun e => by simp at e <;> omega), setcell_keep (SK.out _ KX.out).2.2.2.1 (fun e => by simp at e <;> omega), setcell_keep (SK.out _ KX.out).2.2.2.2.1 (fun e => by simp at e <;> omega), setcell_keep (SK.out _ KX.out).2.2.2.2.2.1 (fun e => by simp at e <;> omega), setcell_keep (SK.out _ KX.out).2.2.2.2.2.2 (fun e => by simp at e <;> omega)⟩))
    clear hK K hHeld
    have hHeld := hH2
    clear hH2
    try simp only [Act.put, List.setIfInBounds_toArray, List.set_cons_zero, List.set_cons_succ]
    refine wpAnyH_take (i := 14) (v := ?_) rfl (by kernel_rfl) (by kernel_rfl) (by kernel_rfl) (fun _ _ _ h => h) (Or.inl ⟨by rfl, ?_⟩) hHeld ?_
    rotate_left
    · (intro w' hSw; (try dsimp only at hSw); go_simp; (try with_reducible rfl))
    try simp only [Act.put, List.setIfInBounds_toArray, List.set_cons_zero, List.set_cons_succ]
    refine wpAnyH_take (i := 15) (v := ?_) rfl (by kernel_rfl) (by kernel_rfl) (by kernel_rfl) (fun _ _ _ h => h) (Or.inl ⟨by rfl, ?_⟩) hHeld ?_
    rotate_left
    · (intro w' hSw; (try dsimp only at hSw); go_simp; (try with_reducible rfl))
    try simp only [Act.put, List.setIfInBounds_toArray, List.set_cons_zero, List.set_cons_succ]
    refine wpAnyH_ready (rs := [16]) (by kernel_rfl) (by simp) ?_
    refine AllReadyH.cons rfl (fun K hK => ?_) AllReadyH.nil
    go_simp
    refine hK.out _ _ ?_ (fun hH2 => ?_)
    · ((try dsimp only); (first | exact ⟨b4, k0, k1, k2, v0, v1, v2⟩ | exact SK.out _ ((Keeps.refl _ wc).drewN _) | exact SK.out _ (((Keeps.refl _ wc).drewN _).alloc _) | exact SK.out _ KX.out | exact ⟨setcell_keep (SK.out _ KX.out).1 (by simp), setcell_keep (SK.out _ KX.out).2.1 (fun e => by simp at e <;> omega), setcell_keep (SK.out _ KX.out).2.2.1 (fun e => by simp at e <;> omega), setcell_keep (SK.out _ KX.out).2.2.2.1 (fun e => by simp at e <;> omega), setcell_keep (SK.out _ KX.out).2.2.2.2.1 (fun e => by simp at e <;> omega), setcell_keep (SK.out _ KX.out).2.2.2.2.2.1 (fun e => by simp at e <;> omega), setcell_keep (SK.out _ KX.out).2.2.2.2.2.2 (fun e => by simp at e <;> omega)⟩))
    clear hK K hHeld
    have hHeld := hH2
    clear hH2
    try simp only [Act.put, List.setIfInBounds_toArray, List.set_cons_zero, List.set_cons_succ]
    refine wpAnyH_done (by kernel_rfl) ?_ _
    refine NoPanic.normal ?_
    rotate_left
    go_simp
    refine hK.out _ _ ?_ (fun hH2 => ?_)
    · ((try dsimp only); (first | exact ⟨b4, k0, k1, k2, v0, v1, v2⟩ | exact SK.out _ ((Keeps.refl _ wc).drewN _) | exact SK.out _ (((Keeps.refl _ wc).drewN _).alloc _) | exact SK.out _ KX.out | exact ⟨setcell_keep (SK.out _ KX.out).1 (by simp), setcell_keep (SK.out _ KX.out).2.1 (fun e => by simp at e <;> omega), setcell_keep (SK.out _ KX.out).2.2.1 (fun e => by simp at e <;> omega), setcell_keep (SK.out _ KX.out).2.2.2.1 (fun e => by simp at e <;> omega), setcell_keep (SK.out _ KX.out).2.2.2.2.1 (fun e => by simp at e <;> omega), setcell_keep (SK.out _ KX.out).2.2.2.2.2.1 (fun e => by simp at e <;> omega), setcell_keep (SK.out _ KX.out).2.2.2.2.2.2 (fun e => by simp at e <;> omega)⟩))
    clear hK K hHeld
    have hHeld := hH2
    clear hH2
    try simp only [Act.put, List.setIfInBounds_toArray, List.set_cons_zero, List.set_cons_succ]
    refine wpAnyH_ready (rs := [4]) (by kernel_rfl) (by simp) ?_
    refine AllReadyH.cons rfl (fun K hK => ?_) AllReadyH.nil
    go_simp
    refine hK.out _ _ ?_ (fun hH2 => ?_)
    · ((try dsimp only); (first | exact ⟨b4, k0, k1, k2, v0, v1, v2⟩ | exact SK.out _ ((Keeps.refl _ wc).drewN _) | exact SK.out _ (((Keeps.refl _ wc).drewN _).alloc _) | exact SK.out _ KX.out | exact ⟨setcell_keep (SK.out _ KX.out).1 (by simp), setcell_keep (SK.out _ KX.out).2.1 (fun e => by simp at e <;> omega), setcell_keep (SK.out _ KX.out).2.2.1 (fun e => by simp at e <;> omega), setcell_keep (SK.out _ KX.out).2.2.2.1 (fun e => by simp at e <;> omega), setcell_keep (SK.out _ KX.out).2.2.2.2.1 (fun e => by simp at e <;> omega), setcell_keep (SK.out _ KX.out).2.2.2.2.2.1 (fun e => by simp at e <;> omega), setcell_keep (SK.out _ KX.out).2.2.2.2.2.2 (fun e => by simp at e <;> omega)⟩))
    clear hK K hHeld
    have hHeld := hH2
    clear hH2
    try simp only [Act.put, List.setIfInBounds_toArray, List.set_cons_zero, List.set_cons_succ]
    refine wpAnyH_ready (rs := [13]) (by kernel_rfl) (by simp) ?_
    refine AllReadyH.cons rfl (fun K hK => ?_) AllReadyH.nil
    (first | (refine app_step rfl F _ _ _ _ _ _ 8 80 rfl Try.underlying88 info_ent rfl (by decide) (.slice Ae E1.length ce) E1.length (flatE E1) rfl (TC.out.ents.alloc _).drew _ rfl 1 _ (ent_src wc ⟨key, val, ser + 1, false⟩ (by first | rfl | simp)) (by omega) (by omega) ?_; intro A6 c6 w6 hR6 hK6; have HR6 := hidden hR6; have HK6 := hidden (Keeps.undrewn hK6); have KX := hidden ((((Keeps.refl (fun k => (Value.slice Ae E1.length ce).ownBlock = some k) wc).alloc _).drew).trans hK6 (fun _ _ h => h)); have g0 := KX.out.cell b0 (fun e => HNE.out b e rfl); have g0d := KX.out.heap TC.out.blk (fun e => HNE.out b e rfl); have g0f := blk_frozen g0d 0; clear hR6 hK6))
    refine hK.out _ _ ?_ (fun hH2 => ?_)
    · ((try dsimp only); (first | exact ⟨b4, k0, k1, k2, v0, v1, v2⟩ | exact SK.out _ ((Keeps.refl _ wc).drewN _) | exact SK.out _ (((Keeps.refl _ wc).drewN _).alloc _) | exact SK.out _ KX.out | exact ⟨setcell_keep (SK.out _ KX.out).1 (by simp), setcell_keep (SK.out _ KX.out).2.1 (fun e => by simp at e <;> omega), setcell_keep (SK.out _ KX.out).2.2.1 (fun e => by simp at e <;> omega), setcell_keep (SK.out _ KX.out).2.2.2.1 (fun e => by simp at e <;> omega), setcell_keep (SK.out _ KX.out).2.2.2.2.1 (fun e => by simp at e <;> omega), setcell_keep (SK.out _ KX.out).2.2.2.2.2.1 (fun e => by simp at e <;> omega), setcell_keep (SK.out _ KX.out).2.2.2.2.2.2 (fun e => by simp at e <;> omega)⟩))
    clear hK K hHeld
    have hHeld := hH2
    clear hH2
    try simp only [Act.put, List.setIfInBounds_toArray, List.set_cons_zero, List.set_cons_succ]
    refine wpAnyH_take (i := 14) (v := ?_) rfl (by kernel_rfl) (by kernel_rfl) (by kernel_rfl) (fun _ _ _ h => h) (Or.inl ⟨by rfl, ?_⟩) hHeld ?_
    rotate_left
    · (intro w' hSw; (try dsimp only at hSw); go_simp; (try with_reducible rfl))
    try simp only [Act.put, List.setIfInBounds_toArray, List.set_cons_zero, List.set_cons_succ]
    refine wpAnyH_take (i := 15) (v := ?_) rfl (by kernel_rfl) (by kernel_rfl) (by kernel_rfl) (fun _ _ _ h => h) (Or.inl ⟨by rfl, ?_⟩) hHeld ?_
    rotate_left
    · (intro w' hSw; (try dsimp only at hSw); go_simp; (try with_reducible rfl))
    try simp only [Act.put, List.setIfInBounds_toArray, List.set_cons_zero, List.set_cons_succ]
    refine wpAnyH_ready (rs := [16]) (by kernel_rfl) (by simp) ?_
    refine AllReadyH.cons rfl (fun K hK => ?_) AllReadyH.nil
    go_simp
    refine hK.out _ _ ?_ (fun hH2 => ?_)
    · ((try dsimp only); (first | exact ⟨b4, k0, k1, k2, v0, v1, v2⟩ | exact SK.out _ ((Keeps.refl _ wc).drewN _) | exact SK.out _ (((Keeps.refl _ wc).drewN _).alloc _) | exact SK.out _ KX.out | exact ⟨setcell_keep (SK.out _ KX.out).1 (by simp), setcell_keep (SK.out _ KX.out).2.1 (fun e => by simp at e <;> omega), setcell_keep (SK.out _ KX.out).2.2.1 (fun e => by simp at e <;> omega), setcell_keep (SK.out _ KX.out).2.2.2.1 (fun e => by simp at e <;> omega), setcell_keep (SK.out _ KX.out).2.2.2.2.1 (fun e => by simp at e <;> omega), setcell_keep (SK.out _ KX.out).2.2.2.2.2.1 (fun e => by simp at e <;> omega), setcell_keep (SK.out _ KX.out).2.2.2.2.2.2 (fun e => by simp at e <;> omega)⟩))
    clear hK K hHeld
    have hHeld := hH2
    clear hH2
    try simp only [Act.put, List.setIfInBounds_toArray, List.set_cons_zero, List.set_cons_succ]
    refine wpAnyH_done (by kernel_rfl) ?_ _
    refine NoPanic.normal ?_
    rotate_left
    all_goals
      obtain ⟨F2, T5, k5, f5⟩ := tab_grew (t := ⟨E1, S1, live, used1 + 1, ser + 1⟩) (e := ⟨key, val, ser + 1, false⟩) TC.out rfl HR6.out HK6.out
      have TD := hidden T5
      have HKd := hidden (HKc.out.trans k5 (fun i hi h => HFF.out i hi h))
      have HFd := hidden f5
      have hwc := HKc.out.size
      clear T5 k5 f5 HR6 HK6 KX SK g0 g0d g0f b0 b0f b4 k0 k1 k2 v0 v1 v2 hkz hvz hbc
      go_upto_region 16 with fail
      generalize w6.setCell ⟨b, 0, none⟩ (.slice A6 (E1.length + 1) c6) = wd at *
      have b0 := blk_cell TD.out.blk 0
      have b1 := blk_cell TD.out.blk 1
      have b2 := blk_cell TD.out.blk 2
      have b2f := blk_frozen TD.out.blk 2
      simp only [List.getElem?_toArray, List.getElem?_cons_zero, List.getElem?_cons_succ] at b0 b1 b2
      have hbd := blk_lt TD.out.blk
      obtain ⟨g', e', -, hgsd, hc, hcf⟩ := slot_cell TD.out.slots hs0
      simp at e'
      subst e'
      have n4 : gs ≠ b := TD.out.slots.ne TD.out.blk (by decide) gs rfl
      go_region
      go_wp2_with fail
      obtain ⟨T7, k7⟩ := tab_slot (t := ⟨E1 ++ [⟨key, val, ser + 1, false⟩], S1, live, used1 + 1, ser + 1⟩) TD.out fi ((E1.length : Int) + 1)
      obtain ⟨T8, k8⟩ := tab_num (t := ⟨E1 ++ [⟨key, val, ser + 1, false⟩], S1.set fi ((E1.length : Int) + 1), live, used1 + 1, ser + 1⟩) T7 (i := 2) (n := live + 1) (t' := ⟨E1 ++ [⟨key, val, ser + 1, false⟩], S1.set fi ((E1.length : Int) + 1), live + 1, used1 + 1, ser + 1⟩) rfl rfl rfl
      refine hR.out _ _ ⟨F2, rfl, ?_, ?_, ?_⟩
      · rw [hFT.out, HU.out]
        exact ⟨_, _, T8.none ((Keeps.refl _ _).drewN 1)⟩
      · exact (HKd.out.trans (k7.trans k8 (fun _ _ h => h)) (fun i hi h => (HFd.out i h).elim (fun h => HFF.out i hi h) (fun h => by omega))).drew
      · exact fun k hk => (HFd.out k hk).elim (fun h => HFR.out k h) (fun h => .inr (by omega))
  · go_upto_region 15 with fail
    obtain ⟨T3, k3⟩ := tab_num (t := ⟨E1, S1, live, used1, ser⟩) TB.out (i := 4) (n := ser + 1) (t' := ⟨E1, S1, live, used1, ser + 1⟩) rfl rfl rfl
    have TC := hidden T3
    have KC := hidden k3
    have HU := hidden (show (if S1.getD fi 0 = (0 : Int) then used1 + 1 else used1) = used1 by rw [HS0.out, if_neg hs00])
    clear T3 k3 b1 b3 b4 b3f b4f hc hcf
    generalize wb.setCell ⟨b, 4, none⟩ (.int .i64 (ser + 1)) = wc at *
    have HCk := hidden (show IsVar wc w.heap.size key from KC.out.heap HBk.out HO1.out.1)
    have HCv := hidden (show IsVar wc (w.heap.size + 1) val from KC.out.heap HBv.out HO1.out.2)
    have HKc := hidden (HKb.out.trans KC.out (fun i hi h => HFF.out i hi h))
    clear TB HBk HBv HKb KC hu1
    have b0 := blk_cell TC.out.blk 0
    have b0f := blk_frozen TC.out.blk 0
    have b4 := blk_cell TC.out.blk 4
    simp only [List.getElem?_toArray, List.getElem?_cons_zero, List.getElem?_cons_succ] at b0 b4
    have hbc := blk_lt TC.out.blk
    obtain ⟨k0, k1, k2, -⟩ := HCk.out.cells
    obtain ⟨v0, v1, v2, -⟩ := HCv.out.cells
    have hkz := blk_lt HCk.out
    have hvz := blk_lt HCv.out
    have HNE := hidden (TC.out.ents.ne TC.out.blk (by decide))
    have HOW := hidden (fun k (e : (Value.slice Ae E1.length ce).ownBlock = some k) => TC.out.ents.2 k e)
    have hbw0 := HBW.out
    have SK := hidden (show ∀ W', Keeps (fun k => (Value.slice Ae E1.length ce).ownBlock = some k) wc W' → (W'.cell? ⟨b, 4, none⟩ = some (.int .i64 (ser + 1)) ∧ W'.cell? ⟨w.heap.size, 0, none⟩ = some (.int .i64 key.k) ∧ W'.cell? ⟨w.heap.size, 1, none⟩ = some (.int .i64 key.n) ∧ W'.cell? ⟨w.heap.size, 2, none⟩ = some (.string key.t) ∧ W'.cell? ⟨w.heap.size + 1, 0, none⟩ = some (.int .i64 val.k) ∧ W'.cell? ⟨w.heap.size + 1, 1, none⟩ = some (.int .i64 val.n) ∧ W'.cell? ⟨w.heap.size + 1, 2, none⟩ = some (.string val.t)) from fun W' hk =>
      ⟨hk.cell b4 (fun e => HNE.out b e rfl), hk.cell k0 (fun e => HO1.out.1 (HOW.out _ e)), hk.cell k1 (fun e => HO1.out.1 (HOW.out _ e)), hk.cell k2 (fun e => HO1.out.1 (HOW.out _ e)), hk.cell v0 (fun e => HO1.out.2 (HOW.out _ e)), hk.cell v1 (fun e => HO1.out.2 (HOW.out _ e)), hk.cell v2 (fun e => HO1.out.2 (HOW.out _ e))⟩)
    refine wp_region_noPanic ?_
    refine wp_region_held_drew (S := (fun w' => w'.cell? ⟨b, 4, none⟩ = some (.int .i64 (ser + 1)) ∧ w'.cell? ⟨w.heap.size, 0, none⟩ = some (.int .i64 key.k) ∧ w'.cell? ⟨w.heap.size, 1, none⟩ = some (.int .i64 key.n) ∧ w'.cell? ⟨w.heap.size, 2, none⟩ = some (.string key.t) ∧ w'.cell? ⟨w.heap.size + 1, 0, none⟩ = some (.int .i64 val.k) ∧ w'.cell? ⟨w.heap.size + 1, 1, none⟩ = some (.int .i64 val.n) ∧ w'.cell? ⟨w.heap.size + 1, 2, none⟩ = some (.string val.t))) (by kernel_rfl) ?_ (fun hHeld => ?_)
    · ((try dsimp only); (first | exact ⟨b4, k0, k1, k2, v0, v1, v2⟩ | exact SK.out _ ((Keeps.refl _ wc).drewN _) | exact SK.out _ (((Keeps.refl _ wc).drewN _).alloc _) | exact SK.out _ KX.out | exact ⟨setcell_keep (SK.out _ KX.out).1 (by simp), setcell_keep (SK.out _ KX.out).2.1 (fun e => by simp at e <;> omega), setcell_keep (SK.out _ KX.out).2.2.1 (fun e => by simp at e <;> omega), setcell_keep (SK.out _ KX.out).2.2.2.1 (fun e => by simp at e <;> omega), setcell_keep (SK.out _ KX.out).2.2.2.2.1 (fun e => by simp at e <;> omega), setcell_keep (SK.out _ KX.out).2.2.2.2.2.1 (fun e => by simp at e <;> omega), setcell_keep (SK.out _ KX.out).2.2.2.2.2.2 (fun e => by simp at e <;> omega)⟩))
    refine wpAnyH_take (i := 0) (v := ?_) rfl (by kernel_rfl) (by kernel_rfl) (by kernel_rfl) (fun _ _ _ h => h) (Or.inl ⟨by rfl, ?_⟩) hHeld ?_
    rotate_left
    · (intro w' hSw; (try dsimp only at hSw); go_simp; (try with_reducible rfl))
    try simp only [Act.put, List.setIfInBounds_toArray, List.set_cons_zero, List.set_cons_succ]
    refine wpAnyH_take (i := 1) (v := ?_) rfl (by kernel_rfl) (by kernel_rfl) (by kernel_rfl) (fun _ _ _ h => h) (Or.inl ⟨by rfl, ?_⟩) hHeld ?_
    rotate_left
    · (intro w' hSw; (try dsimp only at hSw); go_simp; (try with_reducible rfl))
    try simp only [Act.put, List.setIfInBounds_toArray, List.set_cons_zero, List.set_cons_succ]
    refine wpAnyH_take (i := 2) (v := ?_) rfl (by kernel_rfl) (by kernel_rfl) (by kernel_rfl) (fun _ _ _ h => h) (Or.inl ⟨by rfl, ?_⟩) hHeld ?_
    rotate_left
    · (intro w' hSw; (try dsimp only at hSw); go_simp; (try with_reducible rfl))
    try simp only [Act.put, List.setIfInBounds_toArray, List.set_cons_zero, List.set_cons_succ]
    refine wpAnyH_take (i := 3) (v := ?_) rfl (by kernel_rfl) (by kernel_rfl) (by kernel_rfl) (fun _ _ _ h => h) (Or.inl ⟨by rfl, ?_⟩) hHeld ?_
    rotate_left
    · (intro w' hSw; (try dsimp only at hSw); go_simp; (try with_reducible rfl))
    try simp only [Act.put, List.setIfInBounds_toArray, List.set_cons_zero, List.set_cons_succ]
    refine wpAnyH_take (i := 5) (v := ?_) rfl (by kernel_rfl) (by kernel_rfl) (by kernel_rfl) (fun _ _ _ h => h) (Or.inl ⟨by rfl, ?_⟩) hHeld ?_
    rotate_left
    · (intro w' hSw; (try dsimp only at hSw); go_simp; (try with_reducible rfl))
    try simp only [Act.put, List.setIfInBounds_toArray, List.set_cons_zero, List.set_cons_succ]
    refine wpAnyH_take (i := 6) (v := ?_) rfl (by kernel_rfl) (by kernel_rfl) (by kernel_rfl) (fun _ _ _ h => h) (Or.inl ⟨by rfl, ?_⟩) hHeld ?_
    rotate_left
    · (intro w' hSw; (try dsimp only at hSw); go_simp; (try with_reducible rfl))
    try simp only [Act.put, List.setIfInBounds_toArray, List.set_cons_zero, List.set_cons_succ]
    refine wpAnyH_take (i := 7) (v := ?_) rfl (by kernel_rfl) (by kernel_rfl) (by kernel_rfl) (fun _ _ _ h => h) (Or.inl ⟨by rfl, ?_⟩) hHeld ?_
    rotate_left
    · (intro w' hSw; (try dsimp only at hSw); go_simp; (try with_reducible rfl))
    try simp only [Act.put, List.setIfInBounds_toArray, List.set_cons_zero, List.set_cons_succ]
    refine wpAnyH_take (i := 8) (v := ?_) rfl (by kernel_rfl) (by kernel_rfl) (by kernel_rfl) (fun _ _ _ h => h) (Or.inl ⟨by rfl, ?_⟩) hHeld ?_
    rotate_left
    · (intro w' hSw; (try dsimp only at hSw); go_simp; (try with_reducible rfl))
    try simp only [Act.put, List.setIfInBounds_toArray, List.set_cons_zero, List.set_cons_succ]
    refine wpAnyH_take (i := 9) (v := ?_) rfl (by kernel_rfl) (by kernel_rfl) (by kernel_rfl) (fun _ _ _ h => h) (Or.inl ⟨by rfl, ?_⟩) hHeld ?_
    rotate_left
    · (intro w' hSw; (try dsimp only at hSw); go_simp; (try with_reducible rfl))
    try simp only [Act.put, List.setIfInBounds_toArray, List.set_cons_zero, List.set_cons_succ]
    refine wpAnyH_take (i := 10) (v := ?_) rfl (by kernel_rfl) (by kernel_rfl) (by kernel_rfl) (fun _ _ _ h => h) (Or.inl ⟨by rfl, ?_⟩) hHeld ?_
    rotate_left
    · (intro w' hSw; (try dsimp only at hSw); go_simp; (try with_reducible rfl))
    try simp only [Act.put, List.setIfInBounds_toArray, List.set_cons_zero, List.set_cons_succ]
    refine wpAnyH_take (i := 11) (v := ?_) rfl (by kernel_rfl) (by kernel_rfl) (by kernel_rfl) (fun _ _ _ h => h) (Or.inl ⟨by rfl, ?_⟩) hHeld ?_
    rotate_left
    · (intro w' hSw; (try dsimp only at hSw); go_simp; (try with_reducible rfl))
    try simp only [Act.put, List.setIfInBounds_toArray, List.set_cons_zero, List.set_cons_succ]
    refine wpAnyH_ready (rs := [4, 12]) (by kernel_rfl) (by simp) ?_
    refine (AllReadyH.cons rfl (fun K hK => ?_) (AllReadyH.cons rfl (fun K hK => ?_) AllReadyH.nil))
    go_simp
    refine hK.out _ _ ?_ (fun hH2 => ?_)
    · ((try dsimp only); (first | exact ⟨b4, k0, k1, k2, v0, v1, v2⟩ | exact SK.out _ ((Keeps.refl _ wc).drewN _) | exact SK.out _ (((Keeps.refl _ wc).drewN _).alloc _) | exact SK.out _ KX.out | exact ⟨setcell_keep (SK.out _ KX.out).1 (by simp), setcell_keep (SK.out _ KX.out).2.1 (fun e => by simp at e <;> omega), setcell_keep (SK.out _ KX.out).2.2.1 (fun e => by simp at e <;> omega), setcell_keep (SK.out _ KX.out).2.2.2.1 (fun e => by simp at e <;> omega), setcell_keep (SK.out _ KX.out).2.2.2.2.1 (fun e => by simp at e <;> omega), setcell_keep (SK.out _ KX.out).2.2.2.2.2.1 (fun e => by simp at e <;> omega), setcell_keep (SK.out _ KX.out).2.2.2.2.2.2 (fun e => by simp at e <;> omega)⟩))
    clear hK K hHeld
    have hHeld := hH2
    clear hH2
    try simp only [Act.put, List.setIfInBounds_toArray, List.set_cons_zero, List.set_cons_succ]
    refine wpAnyH_ready (rs := [12]) (by kernel_rfl) (by simp) ?_
    refine AllReadyH.cons rfl (fun K hK => ?_) AllReadyH.nil
    go_simp
    refine hK.out _ _ ?_ (fun hH2 => ?_)
    · ((try dsimp only); (first | exact ⟨b4, k0, k1, k2, v0, v1, v2⟩ | exact SK.out _ ((Keeps.refl _ wc).drewN _) | exact SK.out _ (((Keeps.refl _ wc).drewN _).alloc _) | exact SK.out _ KX.out | exact ⟨setcell_keep (SK.out _ KX.out).1 (by simp), setcell_keep (SK.out _ KX.out).2.1 (fun e => by simp at e <;> omega), setcell_keep (SK.out _ KX.out).2.2.1 (fun e => by simp at e <;> omega), setcell_keep (SK.out _ KX.out).2.2.2.1 (fun e => by simp at e <;> omega), setcell_keep (SK.out _ KX.out).2.2.2.2.1 (fun e => by simp at e <;> omega), setcell_keep (SK.out _ KX.out).2.2.2.2.2.1 (fun e => by simp at e <;> omega), setcell_keep (SK.out _ KX.out).2.2.2.2.2.2 (fun e => by simp at e <;> omega)⟩))
    clear hK K hHeld
    have hHeld := hH2
    clear hH2
    try simp only [Act.put, List.setIfInBounds_toArray, List.set_cons_zero, List.set_cons_succ]
    refine wpAnyH_ready (rs := [13]) (by kernel_rfl) (by simp) ?_
    refine AllReadyH.cons rfl (fun K hK => ?_) AllReadyH.nil
    (first | (refine app_step rfl F _ _ _ _ _ _ 8 80 rfl Try.underlying88 info_ent rfl (by decide) (.slice Ae E1.length ce) E1.length (flatE E1) rfl (TC.out.ents.alloc _).drew _ rfl 1 _ (ent_src wc ⟨key, val, ser + 1, false⟩ (by first | rfl | simp)) (by omega) (by omega) ?_; intro A6 c6 w6 hR6 hK6; have HR6 := hidden hR6; have HK6 := hidden (Keeps.undrewn hK6); have KX := hidden ((((Keeps.refl (fun k => (Value.slice Ae E1.length ce).ownBlock = some k) wc).alloc _).drew).trans hK6 (fun _ _ h => h)); have g0 := KX.out.cell b0 (fun e => HNE.out b e rfl); have g0d := KX.out.heap TC.out.blk (fun e => HNE.out b e rfl); have g0f := blk_frozen g0d 0; clear hR6 hK6))
    refine hK.out _ _ ?_ (fun hH2 => ?_)
    · ((try dsimp only); (first | exact ⟨b4, k0, k1, k2, v0, v1, v2⟩ | exact SK.out _ ((Keeps.refl _ wc).drewN _) | exact SK.out _ (((Keeps.refl _ wc).drewN _).alloc _) | exact SK.out _ KX.out | exact ⟨setcell_keep (SK.out _ KX.out).1 (by simp), setcell_keep (SK.out _ KX.out).2.1 (fun e => by simp at e <;> omega), setcell_keep (SK.out _ KX.out).2.2.1 (fun e => by simp at e <;> omega), setcell_keep (SK.out _ KX.out).2.2.2.1 (fun e => by simp at e <;> omega), setcell_keep (SK.out _ KX.out).2.2.2.2.1 (fun e => by simp at e <;> omega), setcell_keep (SK.out _ KX.out).2.2.2.2.2.1 (fun e => by simp at e <;> omega), setcell_keep (SK.out _ KX.out).2.2.2.2.2.2 (fun e => by simp at e <;> omega)⟩))
    clear hK K hHeld
    have hHeld := hH2
    clear hH2
    try simp only [Act.put, List.setIfInBounds_toArray, List.set_cons_zero, List.set_cons_succ]
    refine wpAnyH_take (i := 14) (v := ?_) rfl (by kernel_rfl) (by kernel_rfl) (by kernel_rfl) (fun _ _ _ h => h) (Or.inl ⟨by rfl, ?_⟩) hHeld ?_
    rotate_left
    · (intro w' hSw; (try dsimp only at hSw); go_simp; (try with_reducible rfl))
    try simp only [Act.put, List.setIfInBounds_toArray, List.set_cons_zero, List.set_cons_succ]
    refine wpAnyH_take (i := 15) (v := ?_) rfl (by kernel_rfl) (by kernel_rfl) (by kernel_rfl) (fun _ _ _ h => h) (Or.inl ⟨by rfl, ?_⟩) hHeld ?_
    rotate_left
    · (intro w' hSw; (try dsimp only at hSw); go_simp; (try with_reducible rfl))
    try simp only [Act.put, List.setIfInBounds_toArray, List.set_cons_zero, List.set_cons_succ]
    refine wpAnyH_ready (rs := [16]) (by kernel_rfl) (by simp) ?_
    refine AllReadyH.cons rfl (fun K hK => ?_) AllReadyH.nil
    go_simp
    refine hK.out _ _ ?_ (fun hH2 => ?_)
    · ((try dsimp only); (first | exact ⟨b4, k0, k1, k2, v0, v1, v2⟩ | exact SK.out _ ((Keeps.refl _ wc).drewN _) | exact SK.out _ (((Keeps.refl _ wc).drewN _).alloc _) | exact SK.out _ KX.out | exact ⟨setcell_keep (SK.out _ KX.out).1 (by simp), setcell_keep (SK.out _ KX.out).2.1 (fun e => by simp at e <;> omega), setcell_keep (SK.out _ KX.out).2.2.1 (fun e => by simp at e <;> omega), setcell_keep (SK.out _ KX.out).2.2.2.1 (fun e => by simp at e <;> omega), setcell_keep (SK.out _ KX.out).2.2.2.2.1 (fun e => by simp at e <;> omega), setcell_keep (SK.out _ KX.out).2.2.2.2.2.1 (fun e => by simp at e <;> omega), setcell_keep (SK.out _ KX.out).2.2.2.2.2.2 (fun e => by simp at e <;> omega)⟩))
    clear hK K hHeld
    have hHeld := hH2
    clear hH2
    try simp only [Act.put, List.setIfInBounds_toArray, List.set_cons_zero, List.set_cons_succ]
    refine wpAnyH_done (by kernel_rfl) ?_ _
    refine NoPanic.normal ?_
    rotate_left
    go_simp
    refine hK.out _ _ ?_ (fun hH2 => ?_)
    · ((try dsimp only); (first | exact ⟨b4, k0, k1, k2, v0, v1, v2⟩ | exact SK.out _ ((Keeps.refl _ wc).drewN _) | exact SK.out _ (((Keeps.refl _ wc).drewN _).alloc _) | exact SK.out _ KX.out | exact ⟨setcell_keep (SK.out _ KX.out).1 (by simp), setcell_keep (SK.out _ KX.out).2.1 (fun e => by simp at e <;> omega), setcell_keep (SK.out _ KX.out).2.2.1 (fun e => by simp at e <;> omega), setcell_keep (SK.out _ KX.out).2.2.2.1 (fun e => by simp at e <;> omega), setcell_keep (SK.out _ KX.out).2.2.2.2.1 (fun e => by simp at e <;> omega), setcell_keep (SK.out _ KX.out).2.2.2.2.2.1 (fun e => by simp at e <;> omega), setcell_keep (SK.out _ KX.out).2.2.2.2.2.2 (fun e => by simp at e <;> omega)⟩))
    clear hK K hHeld
    have hHeld := hH2
    clear hH2
    try simp only [Act.put, List.setIfInBounds_toArray, List.set_cons_zero, List.set_cons_succ]
    refine wpAnyH_ready (rs := [4]) (by kernel_rfl) (by simp) ?_
    refine AllReadyH.cons rfl (fun K hK => ?_) AllReadyH.nil
    go_simp
    refine hK.out _ _ ?_ (fun hH2 => ?_)
    · ((try dsimp only); (first | exact ⟨b4, k0, k1, k2, v0, v1, v2⟩ | exact SK.out _ ((Keeps.refl _ wc).drewN _) | exact SK.out _ (((Keeps.refl _ wc).drewN _).alloc _) | exact SK.out _ KX.out | exact ⟨setcell_keep (SK.out _ KX.out).1 (by simp), setcell_keep (SK.out _ KX.out).2.1 (fun e => by simp at e <;> omega), setcell_keep (SK.out _ KX.out).2.2.1 (fun e => by simp at e <;> omega), setcell_keep (SK.out _ KX.out).2.2.2.1 (fun e => by simp at e <;> omega), setcell_keep (SK.out _ KX.out).2.2.2.2.1 (fun e => by simp at e <;> omega), setcell_keep (SK.out _ KX.out).2.2.2.2.2.1 (fun e => by simp at e <;> omega), setcell_keep (SK.out _ KX.out).2.2.2.2.2.2 (fun e => by simp at e <;> omega)⟩))
    clear hK K hHeld
    have hHeld := hH2
    clear hH2
    try simp only [Act.put, List.setIfInBounds_toArray, List.set_cons_zero, List.set_cons_succ]
    refine wpAnyH_ready (rs := [13]) (by kernel_rfl) (by simp) ?_
    refine AllReadyH.cons rfl (fun K hK => ?_) AllReadyH.nil
    (first | (refine app_step rfl F _ _ _ _ _ _ 8 80 rfl Try.underlying88 info_ent rfl (by decide) (.slice Ae E1.length ce) E1.length (flatE E1) rfl (TC.out.ents.alloc _).drew _ rfl 1 _ (ent_src wc ⟨key, val, ser + 1, false⟩ (by first | rfl | simp)) (by omega) (by omega) ?_; intro A6 c6 w6 hR6 hK6; have HR6 := hidden hR6; have HK6 := hidden (Keeps.undrewn hK6); have KX := hidden ((((Keeps.refl (fun k => (Value.slice Ae E1.length ce).ownBlock = some k) wc).alloc _).drew).trans hK6 (fun _ _ h => h)); have g0 := KX.out.cell b0 (fun e => HNE.out b e rfl); have g0d := KX.out.heap TC.out.blk (fun e => HNE.out b e rfl); have g0f := blk_frozen g0d 0; clear hR6 hK6))
    refine hK.out _ _ ?_ (fun hH2 => ?_)
    · ((try dsimp only); (first | exact ⟨b4, k0, k1, k2, v0, v1, v2⟩ | exact SK.out _ ((Keeps.refl _ wc).drewN _) | exact SK.out _ (((Keeps.refl _ wc).drewN _).alloc _) | exact SK.out _ KX.out | exact ⟨setcell_keep (SK.out _ KX.out).1 (by simp), setcell_keep (SK.out _ KX.out).2.1 (fun e => by simp at e <;> omega), setcell_keep (SK.out _ KX.out).2.2.1 (fun e => by simp at e <;> omega), setcell_keep (SK.out _ KX.out).2.2.2.1 (fun e => by simp at e <;> omega), setcell_keep (SK.out _ KX.out).2.2.2.2.1 (fun e => by simp at e <;> omega), setcell_keep (SK.out _ KX.out).2.2.2.2.2.1 (fun e => by simp at e <;> omega), setcell_keep (SK.out _ KX.out).2.2.2.2.2.2 (fun e => by simp at e <;> omega)⟩))
    clear hK K hHeld
    have hHeld := hH2
    clear hH2
    try simp only [Act.put, List.setIfInBounds_toArray, List.set_cons_zero, List.set_cons_succ]
    refine wpAnyH_take (i := 14) (v := ?_) rfl (by kernel_rfl) (by kernel_rfl) (by kernel_rfl) (fun _ _ _ h => h) (Or.inl ⟨by rfl, ?_⟩) hHeld ?_
    rotate_left
    · (intro w' hSw; (try dsimp only at hSw); go_simp; (try with_reducible rfl))
    try simp only [Act.put, List.setIfInBounds_toArray, List.set_cons_zero, List.set_cons_succ]
    refine wpAnyH_take (i := 15) (v := ?_) rfl (by kernel_rfl) (by kernel_rfl) (by kernel_rfl) (fun _ _ _ h => h) (Or.inl ⟨by rfl, ?_⟩) hHeld ?_
    rotate_left
    · (intro w' hSw; (try dsimp only at hSw); go_simp; (try with_reducible rfl))
    try simp only [Act.put, List.setIfInBounds_toArray, List.set_cons_zero, List.set_cons_succ]
    refine wpAnyH_ready (rs := [16]) (by kernel_rfl) (by simp) ?_
    refine AllReadyH.cons rfl (fun K hK => ?_) AllReadyH.nil
    go_simp
    refine hK.out _ _ ?_ (fun hH2 => ?_)
    · ((try dsimp only); (first | exact ⟨b4, k0, k1, k2, v0, v1, v2⟩ | exact SK.out _ ((Keeps.refl _ wc).drewN _) | exact SK.out _ (((Keeps.refl _ wc).drewN _).alloc _) | exact SK.out _ KX.out | exact ⟨setcell_keep (SK.out _ KX.out).1 (by simp), setcell_keep (SK.out _ KX.out).2.1 (fun e => by simp at e <;> omega), setcell_keep (SK.out _ KX.out).2.2.1 (fun e => by simp at e <;> omega), setcell_keep (SK.out _ KX.out).2.2.2.1 (fun e => by simp at e <;> omega), setcell_keep (SK.out _ KX.out).2.2.2.2.1 (fun e => by simp at e <;> omega), setcell_keep (SK.out _ KX.out).2.2.2.2.2.1 (fun e => by simp at e <;> omega), setcell_keep (SK.out _ KX.out).2.2.2.2.2.2 (fun e => by simp at e <;> omega)⟩))
    clear hK K hHeld
    have hHeld := hH2
    clear hH2
    try simp only [Act.put, List.setIfInBounds_toArray, List.set_cons_zero, List.set_cons_succ]
    refine wpAnyH_done (by kernel_rfl) ?_ _
    refine NoPanic.normal ?_
    rotate_left
    all_goals
      obtain ⟨F2, T5, k5, f5⟩ := tab_grew (t := ⟨E1, S1, live, used1, ser + 1⟩) (e := ⟨key, val, ser + 1, false⟩) TC.out rfl HR6.out HK6.out
      have TD := hidden T5
      have HKd := hidden (HKc.out.trans k5 (fun i hi h => HFF.out i hi h))
      have HFd := hidden f5
      have hwc := HKc.out.size
      clear T5 k5 f5 HR6 HK6 KX SK g0 g0d g0f b0 b0f b4 k0 k1 k2 v0 v1 v2 hkz hvz hbc
      go_upto_region 16 with fail
      generalize w6.setCell ⟨b, 0, none⟩ (.slice A6 (E1.length + 1) c6) = wd at *
      have b0 := blk_cell TD.out.blk 0
      have b1 := blk_cell TD.out.blk 1
      have b2 := blk_cell TD.out.blk 2
      have b2f := blk_frozen TD.out.blk 2
      simp only [List.getElem?_toArray, List.getElem?_cons_zero, List.getElem?_cons_succ] at b0 b1 b2
      have hbd := blk_lt TD.out.blk
      obtain ⟨g', e', -, hgsd, hc, hcf⟩ := slot_cell TD.out.slots hs0
      simp at e'
      subst e'
      have n4 : gs ≠ b := TD.out.slots.ne TD.out.blk (by decide) gs rfl
      go_region
      go_wp2_with fail
      obtain ⟨T7, k7⟩ := tab_slot (t := ⟨E1 ++ [⟨key, val, ser + 1, false⟩], S1, live, used1, ser + 1⟩) TD.out fi ((E1.length : Int) + 1)
      obtain ⟨T8, k8⟩ := tab_num (t := ⟨E1 ++ [⟨key, val, ser + 1, false⟩], S1.set fi ((E1.length : Int) + 1), live, used1, ser + 1⟩) T7 (i := 2) (n := live + 1) (t' := ⟨E1 ++ [⟨key, val, ser + 1, false⟩], S1.set fi ((E1.length : Int) + 1), live + 1, used1, ser + 1⟩) rfl rfl rfl
      refine hR.out _ _ ⟨F2, rfl, ?_, ?_, ?_⟩
      · rw [hFT.out, HU.out]
        exact ⟨_, _, T8.none ((Keeps.refl _ _).drewN 1)⟩
      · exact (HKd.out.trans (k7.trans k8 (fun _ _ h => h)) (fun i hi h => (HFd.out i h).elim (fun h => HFF.out i hi h) (fun h => by omega))).drew
      · exact fun k hk => (HFd.out k hk).elim (fun h => HFR.out k h) (fun h => .inr (by omega))
set_option maxHeartbeats 8000000 in
theorem table_Put_more (w : World) (F : Nat → Prop) (b : Nat) (t : Tb) (key val : V) (h : IsTab w F b t) (hs : t.safe) (hk : key.t.size ≤ 140737488351232) (h0 : key.k ≠ 0) (hf : (findT t key).2 = false) (hr : t.room) (hp : 3 * (t.S.length : Int) < 4 * (t.used + 1)) (hlv : t.live = (stay t.E).length) (hkeys : ∀ x ∈ t.E, x.key.t.size ≤ 140737488351232) (hsl : t.S.length ≤ 1073741824) :
    Calls Try.prog 37 #[.pointer (some ⟨b, 0, none⟩), key.val, val.val] w fun e w' => ∃ (F' : Nat → Prop) (m : Nat), e = .returned (.int .i64 0) ∧ 2 ≤ m ∧ m ≤ 30 ∧ 4 * ((stay t.E).length + 1) ≤ 2 * 2 ^ m ∧ IsTab w' F' b (putT ⟨stay t.E, fillT (stay t.E) (stay t.E).length (List.replicate (2 ^ m) 0), t.live, t.live, t.ser⟩ key val) ∧ Keeps F w w' ∧ Fresh F F' w := by
  have c1 := hidden (fun (W : World) (hK : Keeps (fun _ => False) w W) => table_find W F b t key (h.none hK) hs hk)
  have kre := hidden (fun (W : World) (hK : Keeps (fun _ => False) w W) => table_rehash W F b t (h.none hK) hs hlv (by have := hr.live; omega) hkeys)
  have hi0 : (key.k == 0) = false := by rw [beq_eq_false_iff_ne]; exact h0
  obtain ⟨⟨hr1, hr2⟩, ⟨hu1, hu2⟩, ⟨hv1, hv2⟩, hm⟩ := hr
  have HBK := hidden (show IsVar ((w.alloc (.cells #[.int .i64 key.k, .int .i64 key.n, .string key.t] 29)).alloc (.cells #[.int .i64 val.k, .int .i64 val.n, .string val.t] 29)) w.heap.size key from blk_alloc (blk_new w _) _)
  have HBV := hidden (show IsVar ((w.alloc (.cells #[.int .i64 key.k, .int .i64 key.n, .string key.t] 29)).alloc (.cells #[.int .i64 val.k, .int .i64 val.n, .string val.t] 29)) (w.heap.size + 1) val from new2t w _ _)
  have HK0 := hidden (show Keeps (fun _ => False) w ((w.alloc (.cells #[.int .i64 key.k, .int .i64 key.n, .string key.t] 29)).alloc (.cells #[.int .i64 val.k, .int .i64 val.n, .string val.t] 29)) from ((Keeps.refl _ w).alloc _).alloc _)
  have HIN := hidden h.inw
  have HBF := hidden (show F b from by obtain ⟨_, _, h⟩ := h; exact h.here)
  have hsn : (stay t.E).length ≤ t.E.length := List.length_filter_le _ _
  have TT0 := hidden (h.none HK0.out)
  rw [hf] at c1
  generalize (findT t key).1 = fi0 at *
  obtain ⟨E0, S0, live, used0, ser⟩ := t
  simp only at *
  generalize stay E0 = E1 at *
  have hd1 : IntKind.i64.wrap (used0 + 1) = used0 + 1 := by rw [IntKind.wrap_i64]; omega
  have hd2 : IntKind.i64.wrap (4 * (used0 + 1)) = 4 * (used0 + 1) := by rw [IntKind.wrap_i64]; omega
  have hd3 : IntKind.i64.wrap (3 * (S0.length : Int)) = 3 * (S0.length : Int) := by rw [IntKind.wrap_i64]; omega
  have hd4 : (live == 1048576) = false := by rw [beq_eq_false_iff_ne]; omega
  have HLV := hidden hlv
  clear hf hs hkeys h hlv
  unfold V.val at *
  refine post_gen fun R hR => ?_
  go_enter Try.func37, Try.ntmps37
  go_wp2_with fail
  refine (c1.out _ HK0.out).mono ?_
  rintro e wz ⟨rfl, hK⟩
  have HKz := hidden (HK0.out.trans hK (fun _ _ h => h))
  have HZk := hidden (show IsVar wz w.heap.size key from hK.heap HBK.out (fun h => h))
  have HZv := hidden (show IsVar wz (w.heap.size + 1) val from hK.heap HBV.out (fun h => h))
  have TZ0 := hidden (TT0.out.none hK)
  clear hK c1 TT0 HBK HBV HK0
  obtain ⟨vez, vsz, tz⟩ := TZ0.out
  obtain ⟨Az, cz, rfl⟩ := tz.slots.form
  have b1 := blk_cell tz.blk 1
  have b2 := blk_cell tz.blk 2
  have b3 := blk_cell tz.blk 3
  simp only [List.getElem?_toArray, List.getElem?_cons_zero, List.getElem?_cons_succ] at b1 b2 b3
  clear tz TZ0
  go_wp2_with fail
  go_quiet (fail)
  go_wp2_with fail
  refine (kre.out _ (HKz.out.drewN nq)).mono ?_
  rintro e wa ⟨F1, m, rfl, hm2, hm30, hms, hT1, hK, hF1⟩
  have HO1 := hidden (show ¬ F1 w.heap.size ∧ ¬ F1 (w.heap.size + 1) from
    ⟨fun h => by
      have hz := blk_lt HZk.out
      rcases hF1 _ h with h | h
      · have := HIN.out _ h; omega
      · simp at h; omega,
    fun h => by
      have hz := blk_lt HZv.out
      rcases hF1 _ h with h | h
      · have := HIN.out _ h; omega
      · simp at h; omega⟩)
  have HAk := hidden (show IsVar wa w.heap.size key from hK.heap HZk.out (fun h => by have := HIN.out _ h; omega))
  have HAv := hidden (show IsVar wa (w.heap.size + 1) val from hK.heap HZv.out (fun h => by have := HIN.out _ h; omega))
  have HKa := hidden (((HKz.out.drewN nq).mono (T := F) (fun _ _ h => h.elim)).trans hK (fun _ _ h => h))
  have HFR := hidden (show Fresh F F1 w from fun k hk => (hF1 k hk).imp id (fun h => by have := HKz.out.size; simp at h; omega))
  have HFF := hidden (show ∀ i : Nat, i < w.heap.size → F1 i → F i from fun i hi h => (HFR.out i h).elim id (fun h => by omega))
  have HBW := hidden (show b < w.heap.size from HIN.out b HBF.out)
  have hM : 2 ^ m ≤ 1073741824 := Nat.pow_le_pow_right (by decide) hm30
  have hS0 : 0 < 2 ^ m := Nat.two_pow_pos m
  have hS1 : (fillT E1 E1.length (List.replicate (2 ^ m) 0)).length = 2 ^ m := by rw [fillT_length, List.length_replicate]
  have hsafe : (Tb.mk E1 (fillT E1 E1.length (List.replicate (2 ^ m) 0)) live live ser).safe := ⟨.inr ⟨m, hm30, hS1⟩, fillT_in E1 (2 ^ m) E1.length, by show E1.length ≤ _; omega⟩
  have hfi := findT_lt (t := ⟨E1, fillT E1 E1.length (List.replicate (2 ^ m) 0), live, live, ser⟩) (key := key) (by show 0 < (fillT E1 _ _).length; rw [hS1]; exact hS0)
  have cf := hidden (fun (W : World) (hk0 : Keeps (fun _ => False) wa W) => table_find W F1 b ⟨E1, fillT E1 E1.length (List.replicate (2 ^ m) 0), live, live, ser⟩ key (hT1.none hk0) hsafe hk)
  have hFT := hidden (show putT ⟨E1, fillT E1 E1.length (List.replicate (2 ^ m) 0), live, live, ser⟩ key val = ⟨E1 ++ [⟨key, val, ser + 1, false⟩], (fillT E1 E1.length (List.replicate (2 ^ m) 0)).set (findT ⟨E1, fillT E1 E1.length (List.replicate (2 ^ m) 0), live, live, ser⟩ key).1 ((E1.length : Int) + 1), live + 1, if (fillT E1 E1.length (List.replicate (2 ^ m) 0)).getD (findT ⟨E1, fillT E1 E1.length (List.replicate (2 ^ m) 0), live, live, ser⟩ key).1 0 = (0 : Int) then live + 1 else live, ser + 1⟩ from rfl)
  obtain ⟨ve, vs, TA0⟩ := hT1
  obtain ⟨Ae, ce, rfl⟩ := TA0.ents.form
  obtain ⟨As, cs, rfl⟩ := TA0.slots.form
  have HM := hidden hms
  clear hsafe hK hF1 HZk HZv HKz b1 b2 b3 kre hS1
  generalize (findT ⟨E1, fillT E1 E1.length (List.replicate (2 ^ m) 0), live, live, ser⟩ key).1 = fi at *
  generalize (findT ⟨E1, fillT E1 E1.length (List.replicate (2 ^ m) 0), live, live, ser⟩ key).2 = fb at *
  generalize hpt : putT ⟨E1, fillT E1 E1.length (List.replicate (2 ^ m) 0), live, live, ser⟩ key val = pt at *
  have HPT := hidden hpt
  clear hpt
  generalize hS1e : fillT E1 E1.length (List.replicate (2 ^ m) 0) = S1 at TA0 hFT cf hfi
  have HSE := hidden hS1e
  clear hS1e
  have TA := hidden TA0
  unfold V.val at cf
  have hm' : E1.length < 1073741824 := by omega
  clear TA0 hms
  obtain ⟨k0, k1, k2, -⟩ := HAk.out.cells
  have hkz := blk_lt HAk.out
  go_wp2_with fail
  refine (cf.out _ (Keeps.refl _ _)).mono ?_
  rintro e wb ⟨rfl, hK⟩
  have TB := hidden (TA.out.none hK)
  have HBk := hidden (show IsVar wb w.heap.size key from hK.heap HAk.out (fun h => h))
  have HBv := hidden (show IsVar wb (w.heap.size + 1) val from hK.heap HAv.out (fun h => h))
  have HKb := hidden (HKa.out.trans hK (fun _ _ h => h.elim))
  clear hK cf TA HAk HAv HKa
  obtain ⟨s0, hs0⟩ : ∃ s0, S1[fi]? = some s0 := ⟨_, List.getElem?_eq_getElem hfi⟩
  have HS0 := hidden (show S1.getD fi 0 = s0 by rw [List.getD_eq_getElem?_getD, hs0]; rfl)
  obtain ⟨gs, rfl, hFgs, hgs, hc, hcf⟩ := slot_cell TB.out.slots hs0
  have b1 := blk_cell TB.out.blk 1
  have b3 := blk_cell TB.out.blk 3
  have b4 := blk_cell TB.out.blk 4
  have b3f := blk_frozen TB.out.blk 3
  have b4f := blk_frozen TB.out.blk 4
  simp only [List.getElem?_toArray, List.getElem?_cons_zero, List.getElem?_cons_succ] at b1 b3 b4
  have hbw := blk_lt TB.out.blk
  have hu1 : IntKind.i64.wrap (live + 1) = live + 1 := by rw [IntKind.wrap_i64]; omega
  have hr1 : IntKind.i64.wrap (ser + 1) = ser + 1 := by rw [IntKind.wrap_i64]; omega
  have hl1 : IntKind.i64.wrap (live + 1) = live + 1 := by rw [IntKind.wrap_i64]; omega
  by_cases hs00 : s0 = 0
  · subst hs00
    go_upto_region 15 with fail
    obtain ⟨T2, k2⟩ := tab_num (t := ⟨E1, S1, live, live, ser⟩) TB.out (i := 3) (n := live + 1) (t' := ⟨E1, S1, live, live + 1, ser⟩) rfl rfl rfl
    obtain ⟨T3, k3⟩ := tab_num (t := ⟨E1, S1, live, live + 1, ser⟩) T2 (i := 4) (n := ser + 1) (t' := ⟨E1, S1, live, live + 1, ser + 1⟩) rfl rfl rfl
    have TC := hidden T3
    have KC := hidden (k2.trans k3 (fun _ _ h => h))
    have HU := hidden (show (if S1.getD fi 0 = (0 : Int) then live + 1 else live) = live + 1 by rw [HS0.out]; rfl)
    clear T2 T3 k2 k3 b1 b3 b4 b3f b4f hc hcf
    generalize (wb.setCell ⟨b, 3, none⟩ (.int .i64 (live + 1))).setCell ⟨b, 4, none⟩ (.int .i64 (ser + 1)) = wc at *
    have HCk := hidden (show IsVar wc w.heap.size key from KC.out.heap HBk.out HO1.out.1)
    have HCv := hidden (show IsVar wc (w.heap.size + 1) val from KC.out.heap HBv.out HO1.out.2)
    have HKc := hidden (HKb.out.trans KC.out (fun i hi h => HFF.out i hi h))
    clear TB HBk HBv HKb KC hu1
    have b0 := blk_cell TC.out.blk 0
    have b0f := blk_frozen TC.out.blk 0
    have b4 := blk_cell TC.out.blk 4
    simp only [List.getElem?_toArray, List.getElem?_cons_zero, List.getElem?_cons_succ] at b0 b4
    have hbc := blk_lt TC.out.blk
    obtain ⟨k0, k1, k2, -⟩ := HCk.out.cells
    obtain ⟨v0, v1, v2, -⟩ := HCv.out.cells
    have hkz := blk_lt HCk.out
    have hvz := blk_lt HCv.out
    have HNE := hidden (TC.out.ents.ne TC.out.blk (by decide))
    have HOW := hidden (fun k (e : (Value.slice Ae E1.length ce).ownBlock = some k) => TC.out.ents.2 k e)
    have hbw0 := HBW.out
    have SK := hidden (show ∀ W', Keeps (fun k => (Value.slice Ae E1.length ce).ownBlock = some k) wc W' → (W'.cell? ⟨b, 4, none⟩ = some (.int .i64 (ser + 1)) ∧ W'.cell? ⟨w.heap.size, 0, none⟩ = some (.int .i64 key.k) ∧ W'.cell? ⟨w.heap.size, 1, none⟩ = some (.int .i64 key.n) ∧ W'.cell? ⟨w.heap.size, 2, none⟩ = some (.string key.t) ∧ W'.cell? ⟨w.heap.size + 1, 0, none⟩ = some (.int .i64 val.k) ∧ W'.cell? ⟨w.heap.size + 1, 1, none⟩ = some (.int .i64 val.n) ∧ W'.cell? ⟨w.heap.size + 1, 2, none⟩ = some (.string val.t)) from fun W' hk =>
      ⟨hk.cell b4 (fun e => HNE.out b e rfl), hk.cell k0 (fun e => HO1.out.1 (HOW.out _ e)), hk.cell k1 (fun e => HO1.out.1 (HOW.out _ e)), hk.cell k2 (fun e => HO1.out.1 (HOW.out _ e)), hk.cell v0 (fun e => HO1.out.2 (HOW.out _ e)), hk.cell v1 (fun e => HO1.out.2 (HOW.out _ e)), hk.cell v2 (fun e => HO1.out.2 (HOW.out _ e))⟩)
    refine wp_region_noPanic ?_
    refine wp_region_held_drew (S := (fun w' => w'.cell? ⟨b, 4, none⟩ = some (.int .i64 (ser + 1)) ∧ w'.cell? ⟨w.heap.size, 0, none⟩ = some (.int .i64 key.k) ∧ w'.cell? ⟨w.heap.size, 1, none⟩ = some (.int .i64 key.n) ∧ w'.cell? ⟨w.heap.size, 2, none⟩ = some (.string key.t) ∧ w'.cell? ⟨w.heap.size + 1, 0, none⟩ = some (.int .i64 val.k) ∧ w'.cell? ⟨w.heap.size + 1, 1, none⟩ = some (.int .i64 val.n) ∧ w'.cell? ⟨w.heap.size + 1, 2, none⟩ = some (.string val.t))) (by kernel_rfl) ?_ (fun hHeld => ?_)
    · ((try dsimp only); (first | exact ⟨b4, k0, k1, k2, v0, v1, v2⟩ | exact SK.out _ ((Keeps.refl _ wc).drewN _) | exact SK.out _ (((Keeps.refl _ wc).drewN _).alloc _) | exact SK.out _ KX.out | exact ⟨setcell_keep (SK.out _ KX.out).1 (by simp), setcell_keep (SK.out _ KX.out).2.1 (fun e => by simp at e <;> omega), setcell_keep (SK.out _ KX.out).2.2.1 (fun e => by simp at e <;> omega), setcell_keep (SK.out _ KX.out).2.2.2.1 (fun e => by simp at e <;> omega), setcell_keep (SK.out _ KX.out).2.2.2.2.1 (fun e => by simp at e <;> omega), setcell_keep (SK.out _ KX.out).2.2.2.2.2.1 (fun e => by simp at e <;> omega), setcell_keep (SK.out _ KX.out).2.2.2.2.2.2 (fun e => by simp at e <;> omega)⟩))
    refine wpAnyH_take (i := 0) (v := ?_) rfl (by kernel_rfl) (by kernel_rfl) (by kernel_rfl) (fun _ _ _ h => h) (Or.inl ⟨by rfl, ?_⟩) hHeld ?_
    rotate_left
    · (intro w' hSw; (try dsimp only at hSw); go_simp; (try with_reducible rfl))
    try simp only [Act.put, List.setIfInBounds_toArray, List.set_cons_zero, List.set_cons_succ]
    refine wpAnyH_take (i := 1) (v := ?_) rfl (by kernel_rfl) (by kernel_rfl) (by kernel_rfl) (fun _ _ _ h => h) (Or.inl ⟨by rfl, ?_⟩) hHeld ?_
    rotate_left
    · (intro w' hSw; (try dsimp only at hSw); go_simp; (try with_reducible rfl))
    try simp only [Act.put, List.setIfInBounds_toArray, List.set_cons_zero, List.set_cons_succ]
    refine wpAnyH_take (i := 2) (v := ?_) rfl (by kernel_rfl) (by kernel_rfl) (by kernel_rfl) (fun _ _ _ h => h) (Or.inl ⟨by rfl, ?_⟩) hHeld ?_
    rotate_left
    · (intro w' hSw; (try dsimp only at hSw); go_simp; (try with_reducible rfl))
    try simp only [Act.put, List.setIfInBounds_toArray, List.set_cons_zero, List.set_cons_succ]
    refine wpAnyH_take (i := 3) (v := ?_) rfl (by kernel_rfl) (by kernel_rfl) (by kernel_rfl) (fun _ _ _ h => h) (Or.inl ⟨by rfl, ?_⟩) hHeld ?_
    rotate_left
    · (intro w' hSw; (try dsimp only at hSw); go_simp; (try with_reducible rfl))
    try simp only [Act.put, List.setIfInBounds_toArray, List.set_cons_zero, List.set_cons_succ]
    refine wpAnyH_take (i := 5) (v := ?_) rfl (by kernel_rfl) (by kernel_rfl) (by kernel_rfl) (fun _ _ _ h => h) (Or.inl ⟨by rfl, ?_⟩) hHeld ?_
    rotate_left
    · (intro w' hSw; (try dsimp only at hSw); go_simp; (try with_reducible rfl))
    try simp only [Act.put, List.setIfInBounds_toArray, List.set_cons_zero, List.set_cons_succ]
    refine wpAnyH_take (i := 6) (v := ?_) rfl (by kernel_rfl) (by kernel_rfl) (by kernel_rfl) (fun _ _ _ h => h) (Or.inl ⟨by rfl, ?_⟩) hHeld ?_
    rotate_left
    · (intro w' hSw; (try dsimp only at hSw); go_simp; (try with_reducible rfl))
    try simp only [Act.put, List.setIfInBounds_toArray, List.set_cons_zero, List.set_cons_succ]
    refine wpAnyH_take (i := 7) (v := ?_) rfl (by kernel_rfl) (by kernel_rfl) (by kernel_rfl) (fun _ _ _ h => h) (Or.inl ⟨by rfl, ?_⟩) hHeld ?_
    rotate_left
    · (intro w' hSw; (try dsimp only at hSw); go_simp; (try with_reducible rfl))
    try simp only [Act.put, List.setIfInBounds_toArray, List.set_cons_zero, List.set_cons_succ]
    refine wpAnyH_take (i := 8) (v := ?_) rfl (by kernel_rfl) (by kernel_rfl) (by kernel_rfl) (fun _ _ _ h => h) (Or.inl ⟨by rfl, ?_⟩) hHeld ?_
    rotate_left
    · (intro w' hSw; (try dsimp only at hSw); go_simp; (try with_reducible rfl))
    try simp only [Act.put, List.setIfInBounds_toArray, List.set_cons_zero, List.set_cons_succ]
    refine wpAnyH_take (i := 9) (v := ?_) rfl (by kernel_rfl) (by kernel_rfl) (by kernel_rfl) (fun _ _ _ h => h) (Or.inl ⟨by rfl, ?_⟩) hHeld ?_
    rotate_left
    · (intro w' hSw; (try dsimp only at hSw); go_simp; (try with_reducible rfl))
    try simp only [Act.put, List.setIfInBounds_toArray, List.set_cons_zero, List.set_cons_succ]
    refine wpAnyH_take (i := 10) (v := ?_) rfl (by kernel_rfl) (by kernel_rfl) (by kernel_rfl) (fun _ _ _ h => h) (Or.inl ⟨by rfl, ?_⟩) hHeld ?_
    rotate_left
    · (intro w' hSw; (try dsimp only at hSw); go_simp; (try with_reducible rfl))
    try simp only [Act.put, List.setIfInBounds_toArray, List.set_cons_zero, List.set_cons_succ]
    refine wpAnyH_take (i := 11) (v := ?_) rfl (by kernel_rfl) (by kernel_rfl) (by kernel_rfl) (fun _ _ _ h => h) (Or.inl ⟨by rfl, ?_⟩) hHeld ?_
    rotate_left
    · (intro w' hSw; (try dsimp only at hSw); go_simp; (try with_reducible rfl))
    try simp only [Act.put, List.setIfInBounds_toArray, List.set_cons_zero, List.set_cons_succ]
    refine wpAnyH_ready (rs := [4, 12]) (by kernel_rfl) (by simp) ?_
    refine (AllReadyH.cons rfl (fun K hK => ?_) (AllReadyH.cons rfl (fun K hK => ?_) AllReadyH.nil))
    go_simp
    refine hK.out _ _ ?_ (fun hH2 => ?_)
    · ((try dsimp only); (first | exact ⟨b4, k0, k1, k2, v0, v1, v2⟩ | exact SK.out _ ((Keeps.refl _ wc).drewN _) | exact SK.out _ (((Keeps.refl _ wc).drewN _).alloc _) | exact SK.out _ KX.out | exact ⟨setcell_keep (SK.out _ KX.out).1 (by simp), setcell_keep (SK.out _ KX.out).2.1 (fun e => by simp at e <;> omega), setcell_keep (SK.out _ KX.out).2.2.1 (fun e => by simp at e <;> omega), setcell_keep (SK.out _ KX.out).2.2.2.1 (fun e => by simp at e <;> omega), setcell_keep (SK.out _ KX.out).2.2.2.2.1 (fun e => by simp at e <;> omega), setcell_keep (SK.out _ KX.out).2.2.2.2.2.1 (fun e => by simp at e <;> omega), setcell_keep (SK.out _ KX.out).2.2.2.2.2.2 (fun e => by simp at e <;> omega)⟩))
    clear hK K hHeld
    have hHeld := hH2
    clear hH2
    try simp only [Act.put, List.setIfInBounds_toArray, List.set_cons_zero, List.set_cons_succ]
    refine wpAnyH_ready (rs := [12]) (by kernel_rfl) (by simp) ?_
    refine AllReadyH.cons rfl (fun K hK => ?_) AllReadyH.nil
    go_simp
    refine hK.out _ _ ?_ (fun hH2 => ?_)
    · ((try dsimp only); (first | exact ⟨b4, k0, k1, k2, v0, v1, v2⟩ | exact SK.out _ ((Keeps.refl _ wc).drewN _) | exact SK.out _ (((Keeps.refl _ wc).drewN _).alloc _) | exact SK.out _ KX.out | exact ⟨setcell_keep (SK.out _ KX.out).1 (by simp), setcell_keep (SK.out _ KX.out).2.1 (fun e => by simp at e <;> omega), setcell_keep (SK.out _ KX.out).2.2.1 (fun e => by simp at e <;> omega), setcell_keep (SK.out _ KX.out).2.2.2.1 (fun e => by simp at e <;> omega), setcell_keep (SK.out _ KX.out).2.2.2.2.1 (fun e => by simp at e <;> omega), setcell_keep (SK.out _ KX.out).2.2.2.2.2.1 (fun e => by simp at e <;> omega), setcell_keep (SK.out _ KX.out).2.2.2.2.2.2 (fun e => by simp at e <;> omega)⟩))
    clear hK K hHeld
    have hHeld := hH2
    clear hH2
    try simp only [Act.put, List.setIfInBounds_toArray, List.set_cons_zero, List.set_cons_succ]
    refine wpAnyH_ready (rs := [13]) (by kernel_rfl) (by simp) ?_
    refine AllReadyH.cons rfl (fun K hK => ?_) AllReadyH.nil
    (first | (refine app_step rfl F1 _ _ _ _ _ _ 8 80 rfl Try.underlying88 info_ent rfl (by decide) (.slice Ae E1.length ce) E1.length (flatE E1) rfl (TC.out.ents.alloc _).drew _ rfl 1 _ (ent_src wc ⟨key, val, ser + 1, false⟩ (by first | rfl | simp)) (by omega) (by omega) ?_; intro A6 c6 w6 hR6 hK6; have HR6 := hidden hR6; have HK6 := hidden (Keeps.undrewn hK6); have KX := hidden ((((Keeps.refl (fun k => (Value.slice Ae E1.length ce).ownBlock = some k) wc).alloc _).drew).trans hK6 (fun _ _ h => h)); have g0 := KX.out.cell b0 (fun e => HNE.out b e rfl); have g0d := KX.out.heap TC.out.blk (fun e => HNE.out b e rfl); have g0f := blk_frozen g0d 0; clear hR6 hK6))
    refine hK.out _ _ ?_ (fun hH2 => ?_)
    · ((try dsimp only); (first | exact ⟨b4, k0, k1, k2, v0, v1, v2⟩ | exact SK.out _ ((Keeps.refl _ wc).drewN _) | exact SK.out _ (((Keeps.refl _ wc).drewN _).alloc _) | exact SK.out _ KX.out | exact ⟨setcell_keep (SK.out _ KX.out).1 (by simp), setcell_keep (SK.out _ KX.out).2.1 (fun e => by simp at e <;> omega), setcell_keep (SK.out _ KX.out).2.2.1 (fun e => by simp at e <;> omega), setcell_keep (SK.out _ KX.out).2.2.2.1 (fun e => by simp at e <;> omega), setcell_keep (SK.out _ KX.out).2.2.2.2.1 (fun e => by simp at e <;> omega), setcell_keep (SK.out _ KX.out).2.2.2.2.2.1 (fun e => by simp at e <;> omega), setcell_keep (SK.out _ KX.out).2.2.2.2.2.2 (fun e => by simp at e <;> omega)⟩))
    clear hK K hHeld
    have hHeld := hH2
    clear hH2
    try simp only [Act.put, List.setIfInBounds_toArray, List.set_cons_zero, List.set_cons_succ]
    refine wpAnyH_take (i := 14) (v := ?_) rfl (by kernel_rfl) (by kernel_rfl) (by kernel_rfl) (fun _ _ _ h => h) (Or.inl ⟨by rfl, ?_⟩) hHeld ?_
    rotate_left
    · (intro w' hSw; (try dsimp only at hSw); go_simp; (try with_reducible rfl))
    try simp only [Act.put, List.setIfInBounds_toArray, List.set_cons_zero, List.set_cons_succ]
    refine wpAnyH_take (i := 15) (v := ?_) rfl (by kernel_rfl) (by kernel_rfl) (by kernel_rfl) (fun _ _ _ h => h) (Or.inl ⟨by rfl, ?_⟩) hHeld ?_
    rotate_left
    · (intro w' hSw; (try dsimp only at hSw); go_simp; (try with_reducible rfl))
    try simp only [Act.put, List.setIfInBounds_toArray, List.set_cons_zero, List.set_cons_succ]
    refine wpAnyH_ready (rs := [16]) (by kernel_rfl) (by simp) ?_
    refine AllReadyH.cons rfl (fun K hK => ?_) AllReadyH.nil
    go_simp
    refine hK.out _ _ ?_ (fun hH2 => ?_)
    · ((try dsimp only); (first | exact ⟨b4, k0, k1, k2, v0, v1, v2⟩ | exact SK.out _ ((Keeps.refl _ wc).drewN _) | exact SK.out _ (((Keeps.refl _ wc).drewN _).alloc _) | exact SK.out _ KX.out | exact ⟨setcell_keep (SK.out _ KX.out).1 (by simp), setcell_keep (SK.out _ KX.out).2.1 (fun e => by simp at e <;> omega), setcell_keep (SK.out _ KX.out).2.2.1 (fun e => by simp at e <;> omega), setcell_keep (SK.out _ KX.out).2.2.2.1 (fun e => by simp at e <;> omega), setcell_keep (SK.out _ KX.out).2.2.2.2.1 (fun e => by simp at e <;> omega), setcell_keep (SK.out _ KX.out).2.2.2.2.2.1 (fun e => by simp at e <;> omega), setcell_keep (SK.out _ KX.out).2.2.2.2.2.2 (fun e => by simp at e <;> omega)⟩))
    clear hK K hHeld
    have hHeld := hH2
    clear hH2
    try simp only [Act.put, List.setIfInBounds_toArray, List.set_cons_zero, List.set_cons_succ]
    refine wpAnyH_done (by kernel_rfl) ?_ _
    refine NoPanic.normal ?_
    rotate_left
    go_simp
    refine hK.out _ _ ?_ (fun hH2 => ?_)
    · ((try dsimp only); (first | exact ⟨b4, k0, k1, k2, v0, v1, v2⟩ | exact SK.out _ ((Keeps.refl _ wc).drewN _) | exact SK.out _ (((Keeps.refl _ wc).drewN _).alloc _) | exact SK.out _ KX.out | exact ⟨setcell_keep (SK.out _ KX.out).1 (by simp), setcell_keep (SK.out _ KX.out).2.1 (fun e => by simp at e <;> omega), setcell_keep (SK.out _ KX.out).2.2.1 (fun e => by simp at e <;> omega), setcell_keep (SK.out _ KX.out).2.2.2.1 (fun e => by simp at e <;> omega), setcell_keep (SK.out _ KX.out).2.2.2.2.1 (fun e => by simp at e <;> omega), setcell_keep (SK.out _ KX.out).2.2.2.2.2.1 (fun e => by simp at e <;> omega), setcell_keep (SK.out _ KX.out).2.2.2.2.2.2 (fun e => by simp at e <;> omega)⟩))
    clear hK K hHeld
    have hHeld := hH2
    clear hH2
    try simp only [Act.put, List.setIfInBounds_toArray, List.set_cons_zero, List.set_cons_succ]
    refine wpAnyH_ready (rs := [4]) (by kernel_rfl) (by simp) ?_
    refine AllReadyH.cons rfl (fun K hK => ?_) AllReadyH.nil
    go_simp
    refine hK.out _ _ ?_ (fun hH2 => ?_)
    · ((try dsimp only); (first | exact ⟨b4, k0, k1, k2, v0, v1, v2⟩ | exact SK.out _ ((Keeps.refl _ wc).drewN _) | exact SK.out _ (((Keeps.refl _ wc).drewN _).alloc _) | exact SK.out _ KX.out | exact ⟨setcell_keep (SK.out _ KX.out).1 (by simp), setcell_keep (SK.out _ KX.out).2.1 (fun e => by simp at e <;> omega), setcell_keep (SK.out _ KX.out).2.2.1 (fun e => by simp at e <;> omega), setcell_keep (SK.out _ KX.out).2.2.2.1 (fun e => by simp at e <;> omega), setcell_keep (SK.out _ KX.out).2.2.2.2.1 (fun e => by simp at e <;> omega), setcell_keep (SK.out _ KX.out).2.2.2.2.2.1 (fun e => by simp at e <;> omega), setcell_keep (SK.out _ KX.out).2.2.2.2.2.2 (fun e => by simp at e <;> omega)⟩))
    clear hK K hHeld
    have hHeld := hH2
    clear hH2
    try simp only [Act.put, List.setIfInBounds_toArray, List.set_cons_zero, List.set_cons_succ]
    refine wpAnyH_ready (rs := [13]) (by kernel_rfl) (by simp) ?_
    refine AllReadyH.cons rfl (fun K hK => ?_) AllReadyH.nil
    (first | (refine app_step rfl F1 _ _ _ _ _ _ 8 80 rfl Try.underlying88 info_ent rfl (by decide) (.slice Ae E1.length ce) E1.length (flatE E1) rfl (TC.out.ents.alloc _).drew _ rfl 1 _ (ent_src wc ⟨key, val, ser + 1, false⟩ (by first | rfl | simp)) (by omega) (by omega) ?_; intro A6 c6 w6 hR6 hK6; have HR6 := hidden hR6; have HK6 := hidden (Keeps.undrewn hK6); have KX := hidden ((((Keeps.refl (fun k => (Value.slice Ae E1.length ce).ownBlock = some k) wc).alloc _).drew).trans hK6 (fun _ _ h => h)); have g0 := KX.out.cell b0 (fun e => HNE.out b e rfl); have g0d := KX.out.heap TC.out.blk (fun e => HNE.out b e rfl); have g0f := blk_frozen g0d 0; clear hR6 hK6))
    refine hK.out _ _ ?_ (fun hH2 => ?_)
    · ((try dsimp only); (first | exact ⟨b4, k0, k1, k2, v0, v1, v2⟩ | exact SK.out _ ((Keeps.refl _ wc).drewN _) | exact SK.out _ (((Keeps.refl _ wc).drewN _).alloc _) | exact SK.out _ KX.out | exact ⟨setcell_keep (SK.out _ KX.out).1 (by simp), setcell_keep (SK.out _ KX.out).2.1 (fun e => by simp at e <;> omega), setcell_keep (SK.out _ KX.out).2.2.1 (fun e => by simp at e <;> omega), setcell_keep (SK.out _ KX.out).2.2.2.1 (fun e => by simp at e <;> omega), setcell_keep (SK.out _ KX.out).2.2.2.2.1 (fun e => by simp at e <;> omega), setcell_keep (SK.out _ KX.out).2.2.2.2.2.1 (fun e => by simp at e <;> omega), setcell_keep (SK.out _ KX.out).2.2.2.2.2.2 (fun e => by simp at e <;> omega)⟩))
    clear hK K hHeld
    have hHeld := hH2
    clear hH2
    try simp only [Act.put, List.setIfInBounds_toArray, List.set_cons_zero, List.set_cons_succ]
    refine wpAnyH_take (i := 14) (v := ?_) rfl (by kernel_rfl) (by kernel_rfl) (by kernel_rfl) (fun _ _ _ h => h) (Or.inl ⟨by rfl, ?_⟩) hHeld ?_
    rotate_left
    · (intro w' hSw; (try dsimp only at hSw); go_simp; (try with_reducible rfl))
    try simp only [Act.put, List.setIfInBounds_toArray, List.set_cons_zero, List.set_cons_succ]
    refine wpAnyH_take (i := 15) (v := ?_) rfl (by kernel_rfl) (by kernel_rfl) (by kernel_rfl) (fun _ _ _ h => h) (Or.inl ⟨by rfl, ?_⟩) hHeld ?_
    rotate_left
    · (intro w' hSw; (try dsimp only at hSw); go_simp; (try with_reducible rfl))
    try simp only [Act.put, List.setIfInBounds_toArray, List.set_cons_zero, List.set_cons_succ]
    refine wpAnyH_ready (rs := [16]) (by kernel_rfl) (by simp) ?_
    refine AllReadyH.cons rfl (fun K hK => ?_) AllReadyH.nil
    go_simp
    refine hK.out _ _ ?_ (fun hH2 => ?_)
    · ((try dsimp only); (first | exact ⟨b4, k0, k1, k2, v0, v1, v2⟩ | exact SK.out _ ((Keeps.refl _ wc).drewN _) | exact SK.out _ (((Keeps.refl _ wc).drewN _).alloc _) | exact SK.out _ KX.out | exact ⟨setcell_keep (SK.out _ KX.out).1 (by simp), setcell_keep (SK.out _ KX.out).2.1 (fun e => by simp at e <;> omega), setcell_keep (SK.out _ KX.out).2.2.1 (fun e => by simp at e <;> omega), setcell_keep (SK.out _ KX.out).2.2.2.1 (fun e => by simp at e <;> omega), setcell_keep (SK.out _ KX.out).2.2.2.2.1 (fun e => by simp at e <;> omega), setcell_keep (SK.out _ KX.out).2.2.2.2.2.1 (fun e => by simp at e <;> omega), setcell_keep (SK.out _ KX.out).2.2.2.2.2.2 (fun e => by simp at e <;> omega)⟩))
    clear hK K hHeld
    have hHeld := hH2
    clear hH2
    try simp only [Act.put, List.setIfInBounds_toArray, List.set_cons_zero, List.set_cons_succ]
    refine wpAnyH_done (by kernel_rfl) ?_ _
    refine NoPanic.normal ?_
    rotate_left
    all_goals
      obtain ⟨F2, T5, k5, f5⟩ := tab_grew (t := ⟨E1, S1, live, live + 1, ser + 1⟩) (e := ⟨key, val, ser + 1, false⟩) TC.out rfl HR6.out HK6.out
      have TD := hidden T5
      have HKd := hidden (HKc.out.trans k5 (fun i hi h => HFF.out i hi h))
      have HFd := hidden f5
      have hwc := HKc.out.size
      clear T5 k5 f5 HR6 HK6 KX SK g0 g0d g0f b0 b0f b4 k0 k1 k2 v0 v1 v2 hkz hvz hbc
      go_upto_region 16 with fail
      generalize w6.setCell ⟨b, 0, none⟩ (.slice A6 (E1.length + 1) c6) = wd at *
      have b0 := blk_cell TD.out.blk 0
      have b1 := blk_cell TD.out.blk 1
      have b2 := blk_cell TD.out.blk 2
      have b2f := blk_frozen TD.out.blk 2
      simp only [List.getElem?_toArray, List.getElem?_cons_zero, List.getElem?_cons_succ] at b0 b1 b2
      have hbd := blk_lt TD.out.blk
      obtain ⟨g', e', -, hgsd, hc, hcf⟩ := slot_cell TD.out.slots hs0
      simp at e'
      subst e'
      have n4 : gs ≠ b := TD.out.slots.ne TD.out.blk (by decide) gs rfl
      go_region
      go_wp2_with fail
      obtain ⟨T7, k7⟩ := tab_slot (t := ⟨E1 ++ [⟨key, val, ser + 1, false⟩], S1, live, live + 1, ser + 1⟩) TD.out fi ((E1.length : Int) + 1)
      obtain ⟨T8, k8⟩ := tab_num (t := ⟨E1 ++ [⟨key, val, ser + 1, false⟩], S1.set fi ((E1.length : Int) + 1), live, live + 1, ser + 1⟩) T7 (i := 2) (n := live + 1) (t' := ⟨E1 ++ [⟨key, val, ser + 1, false⟩], S1.set fi ((E1.length : Int) + 1), live + 1, live + 1, ser + 1⟩) rfl rfl rfl
      refine hR.out _ _ ⟨F2, m, rfl, hm2, hm30, HM.out, ?_, ?_, ?_⟩
      · rw [HPT.out, hFT.out, HU.out]
        exact ⟨_, _, T8.none ((Keeps.refl _ _).drewN 1)⟩
      · exact (HKd.out.trans (k7.trans k8 (fun _ _ h => h)) (fun i hi h => (HFd.out i h).elim (fun h => HFF.out i hi h) (fun h => by omega))).drew
      · exact fun k hk => (HFd.out k hk).elim (fun h => HFR.out k h) (fun h => .inr (by omega))
  · go_upto_region 15 with fail
    obtain ⟨T3, k3⟩ := tab_num (t := ⟨E1, S1, live, live, ser⟩) TB.out (i := 4) (n := ser + 1) (t' := ⟨E1, S1, live, live, ser + 1⟩) rfl rfl rfl
    have TC := hidden T3
    have KC := hidden k3
    have HU := hidden (show (if S1.getD fi 0 = (0 : Int) then live + 1 else live) = live by rw [HS0.out, if_neg hs00])
    clear T3 k3 b1 b3 b4 b3f b4f hc hcf
    generalize wb.setCell ⟨b, 4, none⟩ (.int .i64 (ser + 1)) = wc at *
    have HCk := hidden (show IsVar wc w.heap.size key from KC.out.heap HBk.out HO1.out.1)
    have HCv := hidden (show IsVar wc (w.heap.size + 1) val from KC.out.heap HBv.out HO1.out.2)
    have HKc := hidden (HKb.out.trans KC.out (fun i hi h => HFF.out i hi h))
    clear TB HBk HBv HKb KC hu1
    have b0 := blk_cell TC.out.blk 0
    have b0f := blk_frozen TC.out.blk 0
    have b4 := blk_cell TC.out.blk 4
    simp only [List.getElem?_toArray, List.getElem?_cons_zero, List.getElem?_cons_succ] at b0 b4
    have hbc := blk_lt TC.out.blk
    obtain ⟨k0, k1, k2, -⟩ := HCk.out.cells
    obtain ⟨v0, v1, v2, -⟩ := HCv.out.cells
    have hkz := blk_lt HCk.out
    have hvz := blk_lt HCv.out
    have HNE := hidden (TC.out.ents.ne TC.out.blk (by decide))
    have HOW := hidden (fun k (e : (Value.slice Ae E1.length ce).ownBlock = some k) => TC.out.ents.2 k e)
    have hbw0 := HBW.out
    have SK := hidden (show ∀ W', Keeps (fun k => (Value.slice Ae E1.length ce).ownBlock = some k) wc W' → (W'.cell? ⟨b, 4, none⟩ = some (.int .i64 (ser + 1)) ∧ W'.cell? ⟨w.heap.size, 0, none⟩ = some (.int .i64 key.k) ∧ W'.cell? ⟨w.heap.size, 1, none⟩ = some (.int .i64 key.n) ∧ W'.cell? ⟨w.heap.size, 2, none⟩ = some (.string key.t) ∧ W'.cell? ⟨w.heap.size + 1, 0, none⟩ = some (.int .i64 val.k) ∧ W'.cell? ⟨w.heap.size + 1, 1, none⟩ = some (.int .i64 val.n) ∧ W'.cell? ⟨w.heap.size + 1, 2, none⟩ = some (.string val.t)) from fun W' hk =>
      ⟨hk.cell b4 (fun e => HNE.out b e rfl), hk.cell k0 (fun e => HO1.out.1 (HOW.out _ e)), hk.cell k1 (fun e => HO1.out.1 (HOW.out _ e)), hk.cell k2 (fun e => HO1.out.1 (HOW.out _ e)), hk.cell v0 (fun e => HO1.out.2 (HOW.out _ e)), hk.cell v1 (fun e => HO1.out.2 (HOW.out _ e)), hk.cell v2 (fun e => HO1.out.2 (HOW.out _ e))⟩)
    refine wp_region_noPanic ?_
    refine wp_region_held_drew (S := (fun w' => w'.cell? ⟨b, 4, none⟩ = some (.int .i64 (ser + 1)) ∧ w'.cell? ⟨w.heap.size, 0, none⟩ = some (.int .i64 key.k) ∧ w'.cell? ⟨w.heap.size, 1, none⟩ = some (.int .i64 key.n) ∧ w'.cell? ⟨w.heap.size, 2, none⟩ = some (.string key.t) ∧ w'.cell? ⟨w.heap.size + 1, 0, none⟩ = some (.int .i64 val.k) ∧ w'.cell? ⟨w.heap.size + 1, 1, none⟩ = some (.int .i64 val.n) ∧ w'.cell? ⟨w.heap.size + 1, 2, none⟩ = some (.string val.t))) (by kernel_rfl) ?_ (fun hHeld => ?_)
    · ((try dsimp only); (first | exact ⟨b4, k0, k1, k2, v0, v1, v2⟩ | exact SK.out _ ((Keeps.refl _ wc).drewN _) | exact SK.out _ (((Keeps.refl _ wc).drewN _).alloc _) | exact SK.out _ KX.out | exact ⟨setcell_keep (SK.out _ KX.out).1 (by simp), setcell_keep (SK.out _ KX.out).2.1 (fun e => by simp at e <;> omega), setcell_keep (SK.out _ KX.out).2.2.1 (fun e => by simp at e <;> omega), setcell_keep (SK.out _ KX.out).2.2.2.1 (fun e => by simp at e <;> omega), setcell_keep (SK.out _ KX.out).2.2.2.2.1 (fun e => by simp at e <;> omega), setcell_keep (SK.out _ KX.out).2.2.2.2.2.1 (fun e => by simp at e <;> omega), setcell_keep (SK.out _ KX.out).2.2.2.2.2.2 (fun e => by simp at e <;> omega)⟩))
    refine wpAnyH_take (i := 0) (v := ?_) rfl (by kernel_rfl) (by kernel_rfl) (by kernel_rfl) (fun _ _ _ h => h) (Or.inl ⟨by rfl, ?_⟩) hHeld ?_
    rotate_left
    · (intro w' hSw; (try dsimp only at hSw); go_simp; (try with_reducible rfl))
    try simp only [Act.put, List.setIfInBounds_toArray, List.set_cons_zero, List.set_cons_succ]
    refine wpAnyH_take (i := 1) (v := ?_) rfl (by kernel_rfl) (by kernel_rfl) (by kernel_rfl) (fun _ _ _ h => h) (Or.inl ⟨by rfl, ?_⟩) hHeld ?_
    rotate_left
    · (intro w' hSw; (try dsimp only at hSw); go_simp; (try with_reducible rfl))
    try simp only [Act.put, List.setIfInBounds_toArray, List.set_cons_zero, List.set_cons_succ]
    refine wpAnyH_take (i := 2) (v := ?_) rfl (by kernel_rfl) (by kernel_rfl) (by kernel_rfl) (fun _ _ _ h => h) (Or.inl ⟨by rfl, ?_⟩) hHeld ?_
    rotate_left
    · (intro w' hSw; (try dsimp only at hSw); go_simp; (try with_reducible rfl))
    try simp only [Act.put, List.setIfInBounds_toArray, List.set_cons_zero, List.set_cons_succ]
    refine wpAnyH_take (i := 3) (v := ?_) rfl (by kernel_rfl) (by kernel_rfl) (by kernel_rfl) (fun _ _ _ h => h) (Or.inl ⟨by rfl, ?_⟩) hHeld ?_
    rotate_left
    · (intro w' hSw; (try dsimp only at hSw); go_simp; (try with_reducible rfl))
    try simp only [Act.put, List.setIfInBounds_toArray, List.set_cons_zero, List.set_cons_succ]
    refine wpAnyH_take (i := 5) (v := ?_) rfl (by kernel_rfl) (by kernel_rfl) (by kernel_rfl) (fun _ _ _ h => h) (Or.inl ⟨by rfl, ?_⟩) hHeld ?_
    rotate_left
    · (intro w' hSw; (try dsimp only at hSw); go_simp; (try with_reducible rfl))
    try simp only [Act.put, List.setIfInBounds_toArray, List.set_cons_zero, List.set_cons_succ]
    refine wpAnyH_take (i := 6) (v := ?_) rfl (by kernel_rfl) (by kernel_rfl) (by kernel_rfl) (fun _ _ _ h => h) (Or.inl ⟨by rfl, ?_⟩) hHeld ?_
    rotate_left
    · (intro w' hSw; (try dsimp only at hSw); go_simp; (try with_reducible rfl))
    try simp only [Act.put, List.setIfInBounds_toArray, List.set_cons_zero, List.set_cons_succ]
    refine wpAnyH_take (i := 7) (v := ?_) rfl (by kernel_rfl) (by kernel_rfl) (by kernel_rfl) (fun _ _ _ h => h) (Or.inl ⟨by rfl, ?_⟩) hHeld ?_
    rotate_left
    · (intro w' hSw; (try dsimp only at hSw); go_simp; (try with_reducible rfl))
    try simp only [Act.put, List.setIfInBounds_toArray, List.set_cons_zero, List.set_cons_succ]
    refine wpAnyH_take (i := 8) (v := ?_) rfl (by kernel_rfl) (by kernel_rfl) (by kernel_rfl) (fun _ _ _ h => h) (Or.inl ⟨by rfl, ?_⟩) hHeld ?_
    rotate_left
    · (intro w' hSw; (try dsimp only at hSw); go_simp; (try with_reducible rfl))
    try simp only [Act.put, List.setIfInBounds_toArray, List.set_cons_zero, List.set_cons_succ]
    refine wpAnyH_take (i := 9) (v := ?_) rfl (by kernel_rfl) (by kernel_rfl) (by kernel_rfl) (fun _ _ _ h => h) (Or.inl ⟨by rfl, ?_⟩) hHeld ?_
    rotate_left
    · (intro w' hSw; (try dsimp only at hSw); go_simp; (try with_reducible rfl))
    try simp only [Act.put, List.setIfInBounds_toArray, List.set_cons_zero, List.set_cons_succ]
    refine wpAnyH_take (i := 10) (v := ?_) rfl (by kernel_rfl) (by kernel_rfl) (by kernel_rfl) (fun _ _ _ h => h) (Or.inl ⟨by rfl, ?_⟩) hHeld ?_
    rotate_left
    · (intro w' hSw; (try dsimp only at hSw); go_simp; (try with_reducible rfl))
    try simp only [Act.put, List.setIfInBounds_toArray, List.set_cons_zero, List.set_cons_succ]
    refine wpAnyH_take (i := 11) (v := ?_) rfl (by kernel_rfl) (by kernel_rfl) (by kernel_rfl) (fun _ _ _ h => h) (Or.inl ⟨by rfl, ?_⟩) hHeld ?_
    rotate_left
    · (intro w' hSw; (try dsimp only at hSw); go_simp; (try with_reducible rfl))
    try simp only [Act.put, List.setIfInBounds_toArray, List.set_cons_zero, List.set_cons_succ]
    refine wpAnyH_ready (rs := [4, 12]) (by kernel_rfl) (by simp) ?_
    refine (AllReadyH.cons rfl (fun K hK => ?_) (AllReadyH.cons rfl (fun K hK => ?_) AllReadyH.nil))
    go_simp
    refine hK.out _ _ ?_ (fun hH2 => ?_)
    · ((try dsimp only); (first | exact ⟨b4, k0, k1, k2, v0, v1, v2⟩ | exact SK.out _ ((Keeps.refl _ wc).drewN _) | exact SK.out _ (((Keeps.refl _ wc).drewN _).alloc _) | exact SK.out _ KX.out | exact ⟨setcell_keep (SK.out _ KX.out).1 (by simp), setcell_keep (SK.out _ KX.out).2.1 (fun e => by simp at e <;> omega), setcell_keep (SK.out _ KX.out).2.2.1 (fun e => by simp at e <;> omega), setcell_keep (SK.out _ KX.out).2.2.2.1 (fun e => by simp at e <;> omega), setcell_keep (SK.out _ KX.out).2.2.2.2.1 (fun e => by simp at e <;> omega), setcell_keep (SK.out _ KX.out).2.2.2.2.2.1 (fun e => by simp at e <;> omega), setcell_keep (SK.out _ KX.out).2.2.2.2.2.2 (fun e => by simp at e <;> omega)⟩))
    clear hK K hHeld
    have hHeld := hH2
    clear hH2
    try simp only [Act.put, List.setIfInBounds_toArray, List.set_cons_zero, List.set_cons_succ]
    refine wpAnyH_ready (rs := [12]) (by kernel_rfl) (by simp) ?_
    refine AllReadyH.cons rfl (fun K hK => ?_) AllReadyH.nil
    go_simp
    refine hK.out _ _ ?_ (fun hH2 => ?_)
    · ((try dsimp only); (first | exact ⟨b4, k0, k1, k2, v0, v1, v2⟩ | exact SK.out _ ((Keeps.refl _ wc).drewN _) | exact SK.out _ (((Keeps.refl _ wc).drewN _).alloc _) | exact SK.out _ KX.out | exact ⟨setcell_keep (SK.out _ KX.out).1 (by simp), setcell_keep (SK.out _ KX.out).2.1 (fun e => by simp at e <;> omega), setcell_keep (SK.out _ KX.out).2.2.1 (fun e => by simp at e <;> omega), setcell_keep (SK.out _ KX.out).2.2.2.1 (fun e => by simp at e <;> omega), setcell_keep (SK.out _ KX.out).2.2.2.2.1 (fun e => by simp at e <;> omega), setcell_keep (SK.out _ KX.out).2.2.2.2.2.1 (fun e => by simp at e <;> omega), setcell_keep (SK.out _ KX.out).2.2.2.2.2.2 (fun e => by simp at e <;> omega)⟩))
    clear hK K hHeld
    have hHeld := hH2
    clear hH2
    try simp only [Act.put, List.setIfInBounds_toArray, List.set_cons_zero, List.set_cons_succ]
    refine wpAnyH_ready (rs := [13]) (by kernel_rfl) (by simp) ?_
    refine AllReadyH.cons rfl (fun K hK => ?_) AllReadyH.nil
    (first | (refine app_step rfl F1 _ _ _ _ _ _ 8 80 rfl Try.underlying88 info_ent rfl (by decide) (.slice Ae E1.length ce) E1.length (flatE E1) rfl (TC.out.ents.alloc _).drew _ rfl 1 _ (ent_src wc ⟨key, val, ser + 1, false⟩ (by first | rfl | simp)) (by omega) (by omega) ?_; intro A6 c6 w6 hR6 hK6; have HR6 := hidden hR6; have HK6 := hidden (Keeps.undrewn hK6); have KX := hidden ((((Keeps.refl (fun k => (Value.slice Ae E1.length ce).ownBlock = some k) wc).alloc _).drew).trans hK6 (fun _ _ h => h)); have g0 := KX.out.cell b0 (fun e => HNE.out b e rfl); have g0d := KX.out.heap TC.out.blk (fun e => HNE.out b e rfl); have g0f := blk_frozen g0d 0; clear hR6 hK6))
    refine hK.out _ _ ?_ (fun hH2 => ?_)
    · ((try dsimp only); (first | exact ⟨b4, k0, k1, k2, v0, v1, v2⟩ | exact SK.out _ ((Keeps.refl _ wc).drewN _) | exact SK.out _ (((Keeps.refl _ wc).drewN _).alloc _) | exact SK.out _ KX.out | exact ⟨setcell_keep (SK.out _ KX.out).1 (by simp), setcell_keep (SK.out _ KX.out).2.1 (fun e => by simp at e <;> omega), setcell_keep (SK.out _ KX.out).2.2.1 (fun e => by simp at e <;> omega), setcell_keep (SK.out _ KX.out).2.2.2.1 (fun e => by simp at e <;> omega), setcell_keep (SK.out _ KX.out).2.2.2.2.1 (fun e => by simp at e <;> omega), setcell_keep (SK.out _ KX.out).2.2.2.2.2.1 (fun e => by simp at e <;> omega), setcell_keep (SK.out _ KX.out).2.2.2.2.2.2 (fun e => by simp at e <;> omega)⟩))
    clear hK K hHeld
    have hHeld := hH2
    clear hH2
    try simp only [Act.put, List.setIfInBounds_toArray, List.set_cons_zero, List.set_cons_succ]
    refine wpAnyH_take (i := 14) (v := ?_) rfl (by kernel_rfl) (by kernel_rfl) (by kernel_rfl) (fun _ _ _ h => h) (Or.inl ⟨by rfl, ?_⟩) hHeld ?_
    rotate_left
    · (intro w' hSw; (try dsimp only at hSw); go_simp; (try with_reducible rfl))
    try simp only [Act.put, List.setIfInBounds_toArray, List.set_cons_zero, List.set_cons_succ]
    refine wpAnyH_take (i := 15) (v := ?_) rfl (by kernel_rfl) (by kernel_rfl) (by kernel_rfl) (fun _ _ _ h => h) (Or.inl ⟨by rfl, ?_⟩) hHeld ?_
    rotate_left
    · (intro w' hSw; (try dsimp only at hSw); go_simp; (try with_reducible rfl))
    try simp only [Act.put, List.setIfInBounds_toArray, List.set_cons_zero, List.set_cons_succ]
    refine wpAnyH_ready (rs := [16]) (by kernel_rfl) (by simp) ?_
    refine AllReadyH.cons rfl (fun K hK => ?_) AllReadyH.nil
    go_simp
    refine hK.out _ _ ?_ (fun hH2 => ?_)
    · ((try dsimp only); (first | exact ⟨b4, k0, k1, k2, v0, v1, v2⟩ | exact SK.out _ ((Keeps.refl _ wc).drewN _) | exact SK.out _ (((Keeps.refl _ wc).drewN _).alloc _) | exact SK.out _ KX.out | exact ⟨setcell_keep (SK.out _ KX.out).1 (by simp), setcell_keep (SK.out _ KX.out).2.1 (fun e => by simp at e <;> omega), setcell_keep (SK.out _ KX.out).2.2.1 (fun e => by simp at e <;> omega), setcell_keep (SK.out _ KX.out).2.2.2.1 (fun e => by simp at e <;> omega), setcell_keep (SK.out _ KX.out).2.2.2.2.1 (fun e => by simp at e <;> omega), setcell_keep (SK.out _ KX.out).2.2.2.2.2.1 (fun e => by simp at e <;> omega), setcell_keep (SK.out _ KX.out).2.2.2.2.2.2 (fun e => by simp at e <;> omega)⟩))
    clear hK K hHeld
    have hHeld := hH2
    clear hH2
    try simp only [Act.put, List.setIfInBounds_toArray, List.set_cons_zero, List.set_cons_succ]
    refine wpAnyH_done (by kernel_rfl) ?_ _
    refine NoPanic.normal ?_
    rotate_left
    go_simp
    refine hK.out _ _ ?_ (fun hH2 => ?_)
    · ((try dsimp only); (first | exact ⟨b4, k0, k1, k2, v0, v1, v2⟩ | exact SK.out _ ((Keeps.refl _ wc).drewN _) | exact SK.out _ (((Keeps.refl _ wc).drewN _).alloc _) | exact SK.out _ KX.out | exact ⟨setcell_keep (SK.out _ KX.out).1 (by simp), setcell_keep (SK.out _ KX.out).2.1 (fun e => by simp at e <;> omega), setcell_keep (SK.out _ KX.out).2.2.1 (fun e => by simp at e <;> omega), setcell_keep (SK.out _ KX.out).2.2.2.1 (fun e => by simp at e <;> omega), setcell_keep (SK.out _ KX.out).2.2.2.2.1 (fun e => by simp at e <;> omega), setcell_keep (SK.out _ KX.out).2.2.2.2.2.1 (fun e => by simp at e <;> omega), setcell_keep (SK.out _ KX.out).2.2.2.2.2.2 (fun e => by simp at e <;> omega)⟩))
    clear hK K hHeld
    have hHeld := hH2
    clear hH2
    try simp only [Act.put, List.setIfInBounds_toArray, List.set_cons_zero, List.set_cons_succ]
    refine wpAnyH_ready (rs := [4]) (by kernel_rfl) (by simp) ?_
    refine AllReadyH.cons rfl (fun K hK => ?_) AllReadyH.nil
    go_simp
    refine hK.out _ _ ?_ (fun hH2 => ?_)
    · ((try dsimp only); (first | exact ⟨b4, k0, k1, k2, v0, v1, v2⟩ | exact SK.out _ ((Keeps.refl _ wc).drewN _) | exact SK.out _ (((Keeps.refl _ wc).drewN _).alloc _) | exact SK.out _ KX.out | exact ⟨setcell_keep (SK.out _ KX.out).1 (by simp), setcell_keep (SK.out _ KX.out).2.1 (fun e => by simp at e <;> omega), setcell_keep (SK.out _ KX.out).2.2.1 (fun e => by simp at e <;> omega), setcell_keep (SK.out _ KX.out).2.2.2.1 (fun e => by simp at e <;> omega), setcell_keep (SK.out _ KX.out).2.2.2.2.1 (fun e => by simp at e <;> omega), setcell_keep (SK.out _ KX.out).2.2.2.2.2.1 (fun e => by simp at e <;> omega), setcell_keep (SK.out _ KX.out).2.2.2.2.2.2 (fun e => by simp at e <;> omega)⟩))
    clear hK K hHeld
    have hHeld := hH2
    clear hH2
    try simp only [Act.put, List.setIfInBounds_toArray, List.set_cons_zero, List.set_cons_succ]
    refine wpAnyH_ready (rs := [13]) (by kernel_rfl) (by simp) ?_
    refine AllReadyH.cons rfl (fun K hK => ?_) AllReadyH.nil
    (first | (refine app_step rfl F1 _ _ _ _ _ _ 8 80 rfl Try.underlying88 info_ent rfl (by decide) (.slice Ae E1.length ce) E1.length (flatE E1) rfl (TC.out.ents.alloc _).drew _ rfl 1 _ (ent_src wc ⟨key, val, ser + 1, false⟩ (by first | rfl | simp)) (by omega) (by omega) ?_; intro A6 c6 w6 hR6 hK6; have HR6 := hidden hR6; have HK6 := hidden (Keeps.undrewn hK6); have KX := hidden ((((Keeps.refl (fun k => (Value.slice Ae E1.length ce).ownBlock = some k) wc).alloc _).drew).trans hK6 (fun _ _ h => h)); have g0 := KX.out.cell b0 (fun e => HNE.out b e rfl); have g0d := KX.out.heap TC.out.blk (fun e => HNE.out b e rfl); have g0f := blk_frozen g0d 0; clear hR6 hK6))
    refine hK.out _ _ ?_ (fun hH2 => ?_)
    · ((try dsimp only); (first | exact ⟨b4, k0, k1, k2, v0, v1, v2⟩ | exact SK.out _ ((Keeps.refl _ wc).drewN _) | exact SK.out _ (((Keeps.refl _ wc).drewN _).alloc _) | exact SK.out _ KX.out | exact ⟨setcell_keep (SK.out _ KX.out).1 (by simp), setcell_keep (SK.out _ KX.out).2.1 (fun e => by simp at e <;> omega), setcell_keep (SK.out _ KX.out).2.2.1 (fun e => by simp at e <;> omega), setcell_keep (SK.out _ KX.out).2.2.2.1 (fun e => by simp at e <;> omega), setcell_keep (SK.out _ KX.out).2.2.2.2.1 (fun e => by simp at e <;> omega), setcell_keep (SK.out _ KX.out).2.2.2.2.2.1 (fun e => by simp at e <;> omega), setcell_keep (SK.out _ KX.out).2.2.2.2.2.2 (fun e => by simp at e <;> omega)⟩))
    clear hK K hHeld
    have hHeld := hH2
    clear hH2
    try simp only [Act.put, List.setIfInBounds_toArray, List.set_cons_zero, List.set_cons_succ]
    refine wpAnyH_take (i := 14) (v := ?_) rfl (by kernel_rfl) (by kernel_rfl) (by kernel_rfl) (fun _ _ _ h => h) (Or.inl ⟨by rfl, ?_⟩) hHeld ?_
    rotate_left
    · (intro w' hSw; (try dsimp only at hSw); go_simp; (try with_reducible rfl))
    try simp only [Act.put, List.setIfInBounds_toArray, List.set_cons_zero, List.set_cons_succ]
    refine wpAnyH_take (i := 15) (v := ?_) rfl (by kernel_rfl) (by kernel_rfl) (by kernel_rfl) (fun _ _ _ h => h) (Or.inl ⟨by rfl, ?_⟩) hHeld ?_
    rotate_left
    · (intro w' hSw; (try dsimp only at hSw); go_simp; (try with_reducible rfl))
    try simp only [Act.put, List.setIfInBounds_toArray, List.set_cons_zero, List.set_cons_succ]
    refine wpAnyH_ready (rs := [16]) (by kernel_rfl) (by simp) ?_
    refine AllReadyH.cons rfl (fun K hK => ?_) AllReadyH.nil
    go_simp
    refine hK.out _ _ ?_ (fun hH2 => ?_)
    · ((try dsimp only); (first | exact ⟨b4, k0, k1, k2, v0, v1, v2⟩ | exact SK.out _ ((Keeps.refl _ wc).drewN _) | exact SK.out _ (((Keeps.refl _ wc).drewN _).alloc _) | exact SK.out _ KX.out | exact ⟨setcell_keep (SK.out _ KX.out).1 (by simp), setcell_keep (SK.out _ KX.out).2.1 (fun e => by simp at e <;> omega), setcell_keep (SK.out _ KX.out).2.2.1 (fun e => by simp at e <;> omega), setcell_keep (SK.out _ KX.out).2.2.2.1 (fun e => by simp at e <;> omega), setcell_keep (SK.out _ KX.out).2.2.2.2.1 (fun e => by simp at e <;> omega), setcell_keep (SK.out _ KX.out).2.2.2.2.2.1 (fun e => by simp at e <;> omega), setcell_keep (SK.out _ KX.out).2.2.2.2.2.2 (fun e => by simp at e <;> omega)⟩))
    clear hK K hHeld
    have hHeld := hH2
    clear hH2
    try simp only [Act.put, List.setIfInBounds_toArray, List.set_cons_zero, List.set_cons_succ]
    refine wpAnyH_done (by kernel_rfl) ?_ _
    refine NoPanic.normal ?_
    rotate_left
    all_goals
      obtain ⟨F2, T5, k5, f5⟩ := tab_grew (t := ⟨E1, S1, live, live, ser + 1⟩) (e := ⟨key, val, ser + 1, false⟩) TC.out rfl HR6.out HK6.out
      have TD := hidden T5
      have HKd := hidden (HKc.out.trans k5 (fun i hi h => HFF.out i hi h))
      have HFd := hidden f5
      have hwc := HKc.out.size
      clear T5 k5 f5 HR6 HK6 KX SK g0 g0d g0f b0 b0f b4 k0 k1 k2 v0 v1 v2 hkz hvz hbc
      go_upto_region 16 with fail
      generalize w6.setCell ⟨b, 0, none⟩ (.slice A6 (E1.length + 1) c6) = wd at *
      have b0 := blk_cell TD.out.blk 0
      have b1 := blk_cell TD.out.blk 1
      have b2 := blk_cell TD.out.blk 2
      have b2f := blk_frozen TD.out.blk 2
      simp only [List.getElem?_toArray, List.getElem?_cons_zero, List.getElem?_cons_succ] at b0 b1 b2
      have hbd := blk_lt TD.out.blk
      obtain ⟨g', e', -, hgsd, hc, hcf⟩ := slot_cell TD.out.slots hs0
      simp at e'
      subst e'
      have n4 : gs ≠ b := TD.out.slots.ne TD.out.blk (by decide) gs rfl
      go_region
      go_wp2_with fail
      obtain ⟨T7, k7⟩ := tab_slot (t := ⟨E1 ++ [⟨key, val, ser + 1, false⟩], S1, live, live, ser + 1⟩) TD.out fi ((E1.length : Int) + 1)
      obtain ⟨T8, k8⟩ := tab_num (t := ⟨E1 ++ [⟨key, val, ser + 1, false⟩], S1.set fi ((E1.length : Int) + 1), live, live, ser + 1⟩) T7 (i := 2) (n := live + 1) (t' := ⟨E1 ++ [⟨key, val, ser + 1, false⟩], S1.set fi ((E1.length : Int) + 1), live + 1, live, ser + 1⟩) rfl rfl rfl
      refine hR.out _ _ ⟨F2, m, rfl, hm2, hm30, HM.out, ?_, ?_, ?_⟩
      · rw [HPT.out, hFT.out, HU.out]
        exact ⟨_, _, T8.none ((Keeps.refl _ _).drewN 1)⟩
      · exact (HKd.out.trans (k7.trans k8 (fun _ _ h => h)) (fun i hi h => (HFd.out i h).elim (fun h => HFF.out i hi h) (fun h => by omega))).drew
      · exact fun k hk => (HFd.out k hk).elim (fun h => HFR.out k h) (fun h => .inr (by omega))
end Go.Proofs.Ytmefdniocgcckaa
