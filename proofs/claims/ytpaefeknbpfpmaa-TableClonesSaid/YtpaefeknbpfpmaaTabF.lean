/- Layer 5: tables: a key goes; no keys any more. -/
import Derived.Test.YtpaefeknbpfpmaaTabE
namespace Go.Proofs.Ytpaefeknbpfpmaa
open Go.RowKit
set_option maxRecDepth 100000

/-- An entry that is gone. -/
def blank (s : Int) : Ent := ⟨V.null, V.null, s, true⟩
theorem table_Delete_none (w : World) (F : Nat → Prop) (b : Nat) (t : Tb) (key : V) (h : IsTab w F b t) (hs : t.safe) (hk : key.t.size ≤ 140737488351232) (hf : (findT t key).2 = false) :
    Calls Try.prog 54 #[.pointer (some ⟨b, 0, none⟩), key.val] w fun e w' => e = .returned (.tuple #[V.val V.null, .int .i64 3]) ∧ Keeps (fun _ => False) w w' := by
  have c1 := hidden (fun (W : World) (hK : Keeps (fun _ => False) w W) => table_find W F b t key (h.none hK) hs hk)
  rw [hf] at c1
  clear h hf
  unfold V.val at *
  refine post_gen fun R hR => ?_
  go_enter Try.func54, Try.ntmps54
  go_wp2_with fail
  refine (c1.out _ (((Keeps.refl _ w).alloc _).alloc _)).mono ?_
  rintro e w1 ⟨rfl, hK⟩
  have HK := hidden ((((Keeps.refl (fun _ => False) w).alloc _).alloc _).trans hK (fun _ _ h => h))
  have HV := hidden (show IsVar w1 (w.heap.size + 1) V.null from hK.heap (new2t w _ _) (fun h => h))
  clear hK c1
  go_wp2_with fail
  refine (value_Null _).mono ?_
  rintro e w2 ⟨rfl, hK⟩
  have HK2 := hidden (HK.out.trans hK (fun _ _ h => h))
  have HV2 := hidden (show IsVar w2 (w.heap.size + 1) V.null from hK.heap HV.out (fun h => h))
  clear hK HV
  obtain ⟨v0, v1, v2, v3, v4, v5⟩ := HV2.out.cells
  have hvz := blk_lt HV2.out
  simp only [V.null] at v0 v1 v2 v3 v4 v5
  unfold V.val V.null
  go_wp2_with fail
  obtain ⟨d0, d1, d2, _⟩ := (HV2.out.set V.null).cells
  simp only [V.null] at d0 d1 d2
  exact bodyPost_ret (v := .tuple #[V.val V.null, .int .i64 3]) (by simp [results, Try.results54, go_sem, d0, d1, d2, V.val, V.null]) rfl (hR.out _ _ ⟨rfl, HK2.out.var (r := w.heap.size + 1) (fun h => by omega) _ _ _⟩)

theorem intCells_set (S : List Int) (i : Nat) (s : Int) : (intCells S).set i (.int .i64 s) = intCells (S.set i s) := by simp [intCells, List.map_set]
/-- The slots' row, one of them stored into. -/
theorem slot_set {w : World} {F : Nat → Prop} {g n c : Nat} {S : List Int} (h : Row w F 3 1 (.slice (some ⟨g, 0, none⟩) n c) n (intCells S)) (i : Nat) (s : Int) : Row (w.setCell ⟨g, i, none⟩ (.int .i64 s)) F 3 1 (.slice (some ⟨g, 0, none⟩) n c) n (intCells (S.set i s)) := by
  have h3 := h.1.stored i (.int .i64 s)
  rw [intCells_set] at h3
  exact ⟨h3.1, h.2⟩
/-- An entry is stored into. -/
theorem tab_entry {w : World} {F : Nat → Prop} {b g c : Nat} {vs : Value} {t : Tb} (h : TabAt w F b (.slice (some ⟨g, 0, none⟩) t.E.length c) vs t) {q : Nat} (hq : q < t.E.length) (y : Ent) :
    TabAt (put8 w g q y) F b (.slice (some ⟨g, 0, none⟩) t.E.length c) vs { t with E := t.E.set q y } ∧ Keeps F w (put8 w g q y) := by
  have hs := (SameBut.refl g w).put8 q y
  have hF : F g := h.ents.2 g rfl
  have hk : Keeps F w (Go.Proofs.Ytpaefeknbpfpmaa.put8 w g q y) := hs.keeps.mono (fun k _ e => e ▸ hF)
  have n1 : g ≠ b := h.ents.ne h.blk (by decide) g rfl
  refine ⟨⟨(hs.block b (fun e => n1 e.symm)).trans h.blk, h.here, ?_, ?_, h.inw.keeps hk⟩, hk⟩
  · have := h.ents.put8 hq y
    simpa using this
  · refine ⟨ownsRow_move h.slots.1 (fun k hk2 => hs.block k (fun e => ?_)), h.slots.2⟩
    obtain ⟨cs1, h1⟩ := own_typed h.slots.1 k hk2
    subst e
    exact h.ents.ne h1 (by decide) k rfl rfl
/-- A slot is stored into. -/
theorem tab_slot {w : World} {F : Nat → Prop} {b g c : Nat} {ve : Value} {t : Tb} (h : TabAt w F b ve (.slice (some ⟨g, 0, none⟩) t.S.length c) t) (i : Nat) (s : Int) :
    TabAt (w.setCell ⟨g, i, none⟩ (.int .i64 s)) F b ve (.slice (some ⟨g, 0, none⟩) t.S.length c) { t with S := t.S.set i s } ∧ Keeps F w (w.setCell ⟨g, i, none⟩ (.int .i64 s)) := by
  have hF : F g := h.slots.2 g rfl
  have hk : Keeps F w (w.setCell ⟨g, i, none⟩ (.int .i64 s)) := (Keeps.refl F w).setCell (p := ⟨g, i, none⟩) (fun _ => hF) _
  have n1 : g ≠ b := h.slots.ne h.blk (by decide) g rfl
  refine ⟨⟨blk_far h.blk (p := ⟨g, i, none⟩) (fun e => n1 e.symm) _, h.here, ?_, ?_, h.inw.keeps hk⟩, hk⟩
  · refine h.ents.set (p := ⟨g, i, none⟩) (fun k hk2 e => ?_) _
    obtain ⟨cs1, h1⟩ := own_typed h.ents.1 k hk2
    have e' : k = g := e
    subst e'
    exact h.slots.ne h1 (by decide) k rfl rfl
  · have := slot_set h.slots i s
    simpa using this
/-- One of the table's own numbers is stored into. -/
theorem tab_num {w : World} {F : Nat → Prop} {b i : Nat} {ve vs : Value} {t t' : Tb} {n : Int} (h : TabAt w F b ve vs t) (hE : t'.E = t.E) (hS : t'.S = t.S) (hi : (#[ve, vs, .int .i64 t.live, .int .i64 t.used, .int .i64 t.ser] : Array Value).setIfInBounds i (.int .i64 n) = #[ve, vs, .int .i64 t'.live, .int .i64 t'.used, .int .i64 t'.ser]) :
    TabAt (w.setCell ⟨b, i, none⟩ (.int .i64 n)) F b ve vs t' ∧ Keeps F w (w.setCell ⟨b, i, none⟩ (.int .i64 n)) := by
  have hk : Keeps F w (w.setCell ⟨b, i, none⟩ (.int .i64 n)) := (Keeps.refl F w).setCell (p := ⟨b, i, none⟩) (fun _ => h.here) _
  refine ⟨⟨?_, h.here, ?_, ?_, h.inw.keeps hk⟩, hk⟩
  · rw [← hi]; exact blk_set h.blk i _
  · rw [hE]; exact h.ents.set (p := ⟨b, i, none⟩) (h.ents.ne h.blk (by decide)) _
  · rw [hS]; exact h.slots.set (p := ⟨b, i, none⟩) (h.slots.ne h.blk (by decide)) _
set_option maxHeartbeats 4000000 in
theorem table_Delete_some (w : World) (F : Nat → Prop) (b : Nat) (t : Tb) (key : V) (h : IsTab w F b t) (hs : t.safe) (hk : key.t.size ≤ 140737488351232) (q : Nat) (hq : q < t.E.length) (hf : (findT t key).2 = true) (hS : t.S[(findT t key).1]? = some ((q : Int) + 1)) (hlv : 1 ≤ t.live ∧ t.live ≤ 1099511627776) :
    Calls Try.prog 54 #[.pointer (some ⟨b, 0, none⟩), key.val] w fun e w' => e = .returned (.tuple #[V.val t.E[q].val, .int .i64 0]) ∧ IsTab w' F b ⟨t.E.set q (blank t.E[q].ser), t.S.set (findT t key).1 (-1), t.live - 1, t.used, t.ser⟩ ∧ Keeps F w w' := by
  have c1 := hidden (fun (W : World) (hK : Keeps (fun _ => False) w W) => table_find W F b t key (h.none hK) hs hk)
  have hi : (findT t key).1 < t.S.length := (List.getElem?_eq_some_iff.1 hS).1
  have hsl : t.S.length ≤ 1073741824 := by
    rcases hs.two with h0 | ⟨m, hm, h0⟩
    · omega
    · rw [h0]; exact Nat.pow_le_pow_right (by decide) hm
  have hel := hs.many
  rw [hf] at c1
  generalize (findT t key).1 = i at *
  obtain ⟨ve, vs, hT⟩ := h
  obtain ⟨Ae, ce, rfl⟩ := hT.ents.form
  obtain ⟨As, cs, rfl⟩ := hT.slots.form
  obtain ⟨gs, rfl, -, -, -, -⟩ := slot_cell hT.slots hS
  obtain ⟨ge, rfl, -, -, -, -⟩ := hT.ents.open8 hq
  have HT := hidden hT
  have HSS := hidden hS
  have HVX := hidden (fun W (hT : TabAt W F b (.slice (some ⟨ge, 0, none⟩) t.E.length ce) (.slice (some ⟨gs, 0, none⟩) t.S.length cs) t) => hT.ents.open8 hq)
  obtain ⟨E, S, live, used, ser⟩ := t
  have hq2 : q < E.length := hq
  simp only at *
  clear hT hf hS
  unfold V.val at *
  refine post_gen fun R hR => ?_
  go_enter Try.func54, Try.ntmps54
  go_wp2_with fail
  refine (c1.out _ (((Keeps.refl _ w).alloc _).alloc _)).mono ?_
  rintro e w1 ⟨rfl, hK⟩
  have HK := hidden ((((Keeps.refl (fun _ => False) w).alloc _).alloc _).trans hK (fun _ _ h => h))
  have HV := hidden (show IsVar w1 (w.heap.size + 1) V.null from hK.heap (new2t w _ _) (fun h => h))
  clear hK c1
  have TT := hidden (HT.out.none HK.out)
  have b0 := blk_cell TT.out.blk 0
  have b1 := blk_cell TT.out.blk 1
  simp only [List.getElem?_toArray, List.getElem?_cons_zero, List.getElem?_cons_succ] at b0 b1
  obtain ⟨g', e', -, -, hc, hcf⟩ := slot_cell TT.out.slots HSS.out
  simp at e'
  subst e'
  have n0 : b < w.heap.size := HT.out.inw b HT.out.here
  have n1 : b ≠ w.heap.size + 1 := by omega
  have m2 : gs < w.heap.size := HT.out.inw gs (HT.out.slots.2 gs rfl)
  have n2 : gs ≠ w.heap.size + 1 := by omega
  have m3 : ge < w.heap.size := HT.out.inw ge (HT.out.ents.2 ge rfl)
  have n3 : ge ≠ w.heap.size + 1 := by omega
  have n4 : gs ≠ b := TT.out.slots.ne TT.out.blk (by decide) gs rfl
  have n5 : ge ≠ b := TT.out.ents.ne TT.out.blk (by decide) ge rfl
  obtain ⟨cse, hse⟩ := own_typed TT.out.slots.1 gs rfl
  have n6 : ge ≠ gs := TT.out.ents.ne hse (by decide) ge rfl
  have hw1 : IntKind.i64.wrap ((q : Int) + 1 - 1) = (q : Int) := by rw [IntKind.wrap_i64]; omega
  have hw2 : IntKind.i64.wrap (live - 1) = live - 1 := by rw [IntKind.wrap_i64]; omega
  have HFS := hidden (show F gs ∧ F ge from ⟨HT.out.slots.2 gs rfl, HT.out.ents.2 ge rfl⟩)
  clear hse
  have hqi : (q : Int) < (E.length : Int) := by omega
  go_wp2_with fail
  go_quiet (fail)
  have TT2 := hidden (TT.out.none ((Keeps.refl _ w1).drewN nq))
  have HV2 := hidden (show IsVar (w1.drewN nq) (w.heap.size + 1) V.null from HV.out)
  have HK2 := hidden (HK.out.drewN nq)
  clear b0 b1 hc hcf TT HV HK
  generalize w1.drewN nq = w2 at *
  have b0 := blk_cell TT2.out.blk 0
  have b1 := blk_cell TT2.out.blk 1
  have b2 := blk_cell TT2.out.blk 2
  have b2f := blk_frozen TT2.out.blk 2
  simp only [List.getElem?_toArray, List.getElem?_cons_zero, List.getElem?_cons_succ] at b0 b1 b2
  obtain ⟨g', e', -, -, hc, hcf⟩ := slot_cell TT2.out.slots HSS.out
  simp at e'
  subst e'
  obtain ⟨g', e', -, -, ⟨q0, q1, q2, q3, q4, q5, q6, q7⟩, hfz⟩ := HVX.out _ TT2.out
  simp at e'
  subst e'
  simp only [Nat.zero_add] at q0 q1 q2 q3 q4 q5 q6 q7
  have f0 := hfz (q * 8)
  have f1 := hfz (q * 8 + 1)
  have f2 := hfz (q * 8 + 2)
  have f3 := hfz (q * 8 + 3)
  have f4 := hfz (q * 8 + 4)
  have f5 := hfz (q * 8 + 5)
  have f6 := hfz (q * 8 + 6)
  have f7 := hfz (q * 8 + 7)
  obtain ⟨v0, v1, v2, v3, v4, v5⟩ := HV2.out.cells
  simp only [V.null] at v0 v1 v2
  have hvz := blk_lt HV2.out
  have hbz := blk_lt TT2.out.blk
  have hgz := World.block_lt_of_cell? w2 _ hc
  have hez := World.block_lt_of_cell? w2 _ q3
  simp only at hgz hez
  generalize hx : E[q] = x at *
  obtain ⟨xk, ⟨yk, yn, yt⟩, xs, xg⟩ := x
  simp only at q0 q1 q2 q3 q4 q5 q6 q7
  have HX := hidden hx
  clear hx hfz
  go_wp2_with fail
  obtain ⟨t3, k3⟩ := tab_entry (t := ⟨E, S, live, used, ser⟩) TT2.out hq2 (blank xs)
  obtain ⟨t4, k4⟩ := tab_slot (t := ⟨E.set q (blank xs), S, live, used, ser⟩) t3 i (-1)
  obtain ⟨t5, k5⟩ := tab_num (t := ⟨E.set q (blank xs), S.set i (-1), live, used, ser⟩) t4 (i := 2) (n := live - 1) (t' := ⟨E.set q (blank xs), S.set i (-1), live - 1, used, ser⟩) rfl rfl rfl
  have hout : ¬ F (w.heap.size + 1) := fun hF => by have := HT.out.inw _ hF; omega
  have hv5 : IsVar ((((Go.Proofs.Ytpaefeknbpfpmaa.put8 w2 ge q (blank xs)).setCell ⟨gs, i, none⟩ (.int .i64 (-1))).setCell ⟨b, 2, none⟩ (.int .i64 (live - 1)))) (w.heap.size + 1) V.null := ((k3.trans k4 (fun _ _ h => h)).trans k5 (fun _ _ h => h)).heap HV2.out hout
  have hv6 : IsVar _ (w.heap.size + 1) ⟨yk, yn, yt⟩ := blk_alloc (hv5.set ⟨yk, yn, yt⟩) (.cells #[.int .i64 yk, .int .i64 yn, .string yt] 30)
  obtain ⟨d0, d1, d2, _⟩ := hv6.cells
  simp only [Go.Proofs.Ytpaefeknbpfpmaa.put8, blank, V.null] at d0 d1 d2
  have hkv := (Keeps.refl (fun k => k = w.heap.size + 1) ((((Go.Proofs.Ytpaefeknbpfpmaa.put8 w2 ge q (blank xs)).setCell ⟨gs, i, none⟩ (.int .i64 (-1))).setCell ⟨b, 2, none⟩ (.int .i64 (live - 1))))).var (r := w.heap.size + 1) (fun _ => rfl) (.int .i64 yk) (.int .i64 yn) (.string yt)
  have t6 := (t5.keeps hkv (fun k hF e => hout (e ▸ hF))).none ((Keeps.refl _ _).alloc (.cells #[.int .i64 yk, .int .i64 yn, .string yt] 30))
  refine bodyPost_ret (v := .tuple #[V.val ⟨yk, yn, yt⟩, .int .i64 0]) ?_ rfl (hR.out _ _ ⟨rfl, ⟨_, _, t6⟩, ?_⟩)
  · simp [results, Try.results54, go_sem, d0, d1, d2, V.val]
  · exact (((HK2.out.mono (T := F) (fun _ _ h => h.elim)).trans ((k3.trans k4 (fun _ _ h => h)).trans k5 (fun _ _ h => h)) (fun _ _ h => h)).trans (hkv.mono (T := fun k => k = w.heap.size + 1) (fun _ _ h => h)) (fun i hi e => by omega)).alloc _
end Go.Proofs.Ytpaefeknbpfpmaa
