/- Layer 5: tables: a key's value is put. -/
import Derived.Test.YtpaefeknbpfpmaaTabG
namespace Go.Proofs.Ytpaefeknbpfpmaa
open Go.RowKit
set_option maxRecDepth 100000

/-- A table with a key more. -/
def putT (t : Tb) (key val : V) : Tb :=
  ⟨t.E ++ [⟨key, val, t.ser + 1, false⟩], t.S.set (findT t key).1 ((t.E.length : Int) + 1), t.live + 1, if t.S.getD (findT t key).1 0 = (0 : Int) then t.used + 1 else t.used, t.ser + 1⟩
/-- Behind an append onto the entries, and the store of their row. -/
theorem tab_grew {w w6 : World} {F : Nat → Prop} {b n : Nat} {ve vs v6 : Value} {t : Tb} {e : Ent} {o : Obj} (h : TabAt w F b ve vs t) (hn : n = t.E.length + 1)
    (hR : Row w6 (fun k => F k ∨ (w.alloc o).heap.size ≤ k) 114 8 v6 n (flatE t.E ++ flatE [e])) (hK : Keeps (fun k => ve.ownBlock = some k) (w.alloc o) w6) :
    ∃ F2 : Nat → Prop, TabAt (w6.setCell ⟨b, 0, none⟩ v6) F2 b v6 vs { t with E := t.E ++ [e] } ∧ Keeps F w (w6.setCell ⟨b, 0, none⟩ v6) ∧ Fresh F F2 w := by
  subst hn
  have hk0 : Keeps F w w6 := (((Keeps.refl F w).alloc o).trans (hK.mono (fun k _ e => h.ents.2 k e)) (fun _ _ h => h))
  have hd : w6.heap[b]? = some (.cells #[ve, vs, .int .i64 t.live, .int .i64 t.used, .int .i64 t.ser] 110 (0, 0)) := hK.heap (blk_alloc h.blk o) (fun e => h.ents.ne h.blk (by decide) b e rfl)
  have hsz : w.heap.size + 1 ≤ w6.heap.size := by have := hK.size; simpa using this
  have hk7 : Keeps F w (w6.setCell ⟨b, 0, none⟩ v6) := hk0.setCell (p := ⟨b, 0, none⟩) (fun _ => h.here) v6
  have hs7 : (w6.setCell ⟨b, 0, none⟩ v6).heap.size = w6.heap.size := by simp [World.setCell]
  refine ⟨fun k => (F k ∨ w.heap.size ≤ k) ∧ k < w6.heap.size, ⟨blk_set hd 0 _, ⟨.inl h.here, blk_lt hd⟩, ?_, ?_, fun k hk => by rw [hs7]; exact hk.2⟩, hk7, fun k hk => hk.1⟩
  · have hr : Row w6 (fun k => (F k ∨ w.heap.size ≤ k) ∧ k < w6.heap.size) 114 8 v6 (t.E.length + 1) (flatE (t.E ++ [e])) := by
      rw [flatE_append]
      exact hR.mono (fun k hlt hk => ⟨hk.imp id (fun h => by simp at h; omega), hlt⟩)
    have := hr.set (p := ⟨b, 0, none⟩) (hr.ne hd (by decide)) v6
    simpa using this
  · have hs : Row w6 F 3 1 vs t.S.length (intCells t.S) := ⟨ownsRow_move (h.slots.alloc o).1 (fun k hk => hK.block k ((h.slots.alloc o).lt k hk) (fun e => by
      obtain ⟨cs1, h1⟩ := own_typed h.slots.1 k hk
      exact h.ents.ne h1 (by decide) k e rfl)), h.slots.2⟩
    exact (hs.set (p := ⟨b, 0, none⟩) (hs.ne hd (by decide)) v6).mono (fun k hlt hk => ⟨.inl hk, by rw [hs7] at hlt; exact hlt⟩)
theorem ent_src (w : World) (x : Ent) {m : Nat} (hm : m = w.heap.size) : Src Try.prog 8 108 (.slice (some ⟨m, 0, none⟩) 1 1) 1 (flatE [x]) (w.alloc x.obj).drew := by
  subst hm
  refine Src.ofSlice _ Try.underlying108 _ _ 1 _ (by rw [flatE_length]; rfl) (fun j u hj => ?_) (flatE_one _)
  rw [add_at3, Nat.zero_add]
  show (w.alloc x.obj).cell? _ = _
  unfold Ent.obj
  rw [blk_cell (blk_new w _)]
  simpa [flatE, Ent.cells] using hj
theorem flatE_val (E : List Ent) (y : V) : ∀ (i : Nat) (hi : i < E.length), (((flatE E).set (i * 8 + 3) (.int .i64 y.k)).set (i * 8 + 4) (.int .i64 y.n)).set (i * 8 + 5) (.string y.t) = flatE (E.set i { E[i] with val := y }) := by
  induction E with
  | nil => intro i h; simp at h
  | cons x xs ih =>
    intro i hi
    have e : flatE (x :: xs) = x.cells ++ flatE xs := by simp [flatE]
    cases i with
    | zero =>
      rw [e]
      simp [Ent.cells, flatE]
    | succ i =>
      have e2 : flatE ((x :: xs).set (i + 1) { (x :: xs)[i + 1] with val := y }) = x.cells ++ flatE (xs.set i { xs[i]'(by simpa using hi) with val := y }) := by simp [flatE]
      have h8 : x.cells.length = 8 := rfl
      have k : ∀ (L : List Value) (j : Nat) (v : Value), (x.cells ++ L).set ((i + 1) * 8 + j) v = x.cells ++ L.set (i * 8 + j) v := fun L j v => by
        rw [List.set_append_right _ _ (by rw [h8]; omega), h8]
        congr 2
        omega
      rw [e, e2, k, k, k, ih i (by simpa using hi)]
def putv (w : World) (g q : Nat) (y : V) : World := ((w.setCell ⟨g, q * 8 + 3, none⟩ (.int .i64 y.k)).setCell ⟨g, q * 8 + 4, none⟩ (.int .i64 y.n)).setCell ⟨g, q * 8 + 5, none⟩ (.string y.t)
theorem tab_val {w : World} {F : Nat → Prop} {b g c : Nat} {vs : Value} {t : Tb} (h : TabAt w F b (.slice (some ⟨g, 0, none⟩) t.E.length c) vs t) {q : Nat} (hq : q < t.E.length) (y : V) :
    TabAt (putv w g q y) F b (.slice (some ⟨g, 0, none⟩) t.E.length c) vs { t with E := t.E.set q { t.E[q] with val := y } } ∧ Keeps F w (putv w g q y) := by
  have hs : SameBut g w (putv w g q y) := (((SameBut.refl g w).set _ _).set _ _).set _ _
  have hF : F g := h.ents.2 g rfl
  have hk : Keeps F w (putv w g q y) := hs.keeps.mono (fun k _ e => e ▸ hF)
  have n1 : g ≠ b := h.ents.ne h.blk (by decide) g rfl
  refine ⟨⟨(hs.block b (fun e => n1 e.symm)).trans h.blk, h.here, ?_, ?_, h.inw.keeps hk⟩, hk⟩
  · have h3 := ((h.ents.1.stored (q * 8 + 3) (.int .i64 y.k)).1.stored (q * 8 + 4) (.int .i64 y.n)).1.stored (q * 8 + 5) (.string y.t)
    rw [flatE_val t.E y q hq] at h3
    have : Row (putv w g q y) F 114 8 (.slice (some ⟨g, 0, none⟩) t.E.length c) t.E.length (flatE (t.E.set q { t.E[q] with val := y })) := ⟨h3.1, h.ents.2⟩
    simpa using this
  · refine ⟨ownsRow_move h.slots.1 (fun k hk2 => hs.block k (fun e => ?_)), h.slots.2⟩
    obtain ⟨cs1, h1⟩ := own_typed h.slots.1 k hk2
    subst e
    exact h.ents.ne h1 (by decide) k rfl rfl

theorem table_Put_null (w : World) (b : Nat) (key val : V) (h0 : key.k = 0) :
    Calls Try.prog 49 #[.pointer (some ⟨b, 0, none⟩), key.val, val.val] w fun e w' => e = .returned (.int .i64 30) ∧ Keeps (fun _ => False) w w' := by
  obtain ⟨k, n, s⟩ := key
  simp only at h0
  subst h0
  unfold V.val
  refine post_gen fun R hR => ?_
  go_enter Try.func49, Try.ntmps49
  go_wp2_with fail
  exact hR.out _ _ ⟨rfl, ((Keeps.refl _ w).alloc _).alloc _⟩
theorem table_Put_long (w : World) (F : Nat → Prop) (b : Nat) (t : Tb) (key val : V) (h : IsTab w F b t) (hs : t.safe) (hk : key.t.size ≤ 140737488351232) (h0 : key.k ≠ 0) (hf : (findT t key).2 = false) (hl : t.live = 1048576) :
    Calls Try.prog 49 #[.pointer (some ⟨b, 0, none⟩), key.val, val.val] w fun e w' => e = .returned (.int .i64 2) ∧ Keeps (fun _ => False) w w' := by
  have c1 := hidden (fun (W : World) (hK : Keeps (fun _ => False) w W) => table_find W F b t key (h.none hK) hs hk)
  rw [hf] at c1
  have H := hidden h
  have hi0 : (key.k == 0) = false := by rw [beq_eq_false_iff_ne]; exact h0
  have HBK := hidden (show IsVar ((w.alloc (.cells #[.int .i64 key.k, .int .i64 key.n, .string key.t] 30)).alloc (.cells #[.int .i64 val.k, .int .i64 val.n, .string val.t] 30)) w.heap.size key from blk_alloc (blk_new w _) _)
  have HBV := hidden (show IsVar ((w.alloc (.cells #[.int .i64 key.k, .int .i64 key.n, .string key.t] 30)).alloc (.cells #[.int .i64 val.k, .int .i64 val.n, .string val.t] 30)) (w.heap.size + 1) val from new2t w _ _)
  have HK0 := hidden (show Keeps (fun _ => False) w ((w.alloc (.cells #[.int .i64 key.k, .int .i64 key.n, .string key.t] 30)).alloc (.cells #[.int .i64 val.k, .int .i64 val.n, .string val.t] 30)) from ((Keeps.refl _ w).alloc _).alloc _)
  clear h hf
  unfold V.val at *
  refine post_gen fun R hR => ?_
  go_enter Try.func49, Try.ntmps49
  go_wp2_with fail
  refine (c1.out _ HK0.out).mono ?_
  rintro e w1 ⟨rfl, hK⟩
  have HK1 := hidden (HK0.out.trans hK (fun _ _ h => h))
  clear hK c1
  obtain ⟨ve, vs, hT⟩ := H.out.none HK1.out
  have b2 := blk_cell hT.blk 2
  simp only [List.getElem?_toArray, List.getElem?_cons_zero, List.getElem?_cons_succ] at b2
  rw [hl] at b2
  clear hT
  go_wp2_with fail
  exact hR.out _ _ ⟨rfl, HK1.out⟩
set_option maxHeartbeats 4000000 in
theorem table_Put_there (w : World) (F : Nat → Prop) (b : Nat) (t : Tb) (key val : V) (h : IsTab w F b t) (hs : t.safe) (hk : key.t.size ≤ 140737488351232) (h0 : key.k ≠ 0) (q : Nat) (hq : q < t.E.length) (hf : (findT t key).2 = true) (hS : t.S[(findT t key).1]? = some ((q : Int) + 1)) :
    Calls Try.prog 49 #[.pointer (some ⟨b, 0, none⟩), key.val, val.val] w fun e w' => e = .returned (.int .i64 0) ∧ IsTab w' F b { t with E := t.E.set q { t.E[q] with val := val } } ∧ Keeps F w w' := by
  have c1 := hidden (fun (W : World) (hK : Keeps (fun _ => False) w W) => table_find W F b t key (h.none hK) hs hk)
  rw [hf] at c1
  have hi0 : (key.k == 0) = false := by rw [beq_eq_false_iff_ne]; exact h0
  have hi : (findT t key).1 < t.S.length := (List.getElem?_eq_some_iff.1 hS).1
  have hsl : t.S.length ≤ 1073741824 := by
    rcases hs.two with h0 | ⟨m, hm, h0⟩
    · omega
    · rw [h0]; exact Nat.pow_le_pow_right (by decide) hm
  have hel := hs.many
  generalize (findT t key).1 = i at *
  obtain ⟨ve, vs, hT⟩ := h
  obtain ⟨Ae, ce, rfl⟩ := hT.ents.form
  obtain ⟨As, cs, rfl⟩ := hT.slots.form
  obtain ⟨gs, rfl, -, -, -, -⟩ := slot_cell hT.slots hS
  obtain ⟨ge, rfl, -, -, -, -⟩ := hT.ents.open8 hq
  have HT := hidden hT
  have HSS := hidden hS
  have HVX := hidden (fun W (hT : TabAt W F b (.slice (some ⟨ge, 0, none⟩) t.E.length ce) (.slice (some ⟨gs, 0, none⟩) t.S.length cs) t) => hT.ents.open8 hq)
  obtain ⟨E, S, live, used, ser⟩ := t
  have hq2 : q < E.length := hq
  simp only at *
  have HBK := hidden (show IsVar ((w.alloc (.cells #[.int .i64 key.k, .int .i64 key.n, .string key.t] 30)).alloc (.cells #[.int .i64 val.k, .int .i64 val.n, .string val.t] 30)) w.heap.size key from blk_alloc (blk_new w _) _)
  have HBV := hidden (show IsVar ((w.alloc (.cells #[.int .i64 key.k, .int .i64 key.n, .string key.t] 30)).alloc (.cells #[.int .i64 val.k, .int .i64 val.n, .string val.t] 30)) (w.heap.size + 1) val from new2t w _ _)
  have HK0 := hidden (show Keeps (fun _ => False) w ((w.alloc (.cells #[.int .i64 key.k, .int .i64 key.n, .string key.t] 30)).alloc (.cells #[.int .i64 val.k, .int .i64 val.n, .string val.t] 30)) from ((Keeps.refl _ w).alloc _).alloc _)
  clear hT hf hS
  unfold V.val at *
  refine post_gen fun R hR => ?_
  go_enter Try.func49, Try.ntmps49
  go_wp2_with fail
  refine (c1.out _ HK0.out).mono ?_
  rintro e w1 ⟨rfl, hK⟩
  have HK1 := hidden (HK0.out.trans hK (fun _ _ h => h))
  have HBV1 := hidden (show IsVar w1 (w.heap.size + 1) val from hK.heap HBV.out (fun h => h))
  clear hK c1
  have TT := hidden (HT.out.none HK1.out)
  have b0 := blk_cell TT.out.blk 0
  have b1 := blk_cell TT.out.blk 1
  simp only [List.getElem?_toArray, List.getElem?_cons_zero, List.getElem?_cons_succ] at b0 b1
  obtain ⟨g', e', -, -, hc, -⟩ := slot_cell TT.out.slots HSS.out
  simp at e'
  subst e'
  obtain ⟨g', e', -, -, ⟨-, -, -, q3, q4, q5, -, -⟩, hfz⟩ := HVX.out _ TT.out
  simp at e'
  subst e'
  simp only [Nat.zero_add] at q3 q4 q5
  have f3 := hfz (q * 8 + 3)
  have f4 := hfz (q * 8 + 4)
  have f5 := hfz (q * 8 + 5)
  obtain ⟨v0, v1, v2, -⟩ := HBV1.out.cells
  have hw1 : IntKind.i64.wrap ((q : Int) + 1 - 1) = (q : Int) := by rw [IntKind.wrap_i64]; omega
  have hqi : (q : Int) < (E.length : Int) := by omega
  clear hfz
  go_wp2_with fail
  go_region
  go_wp2_with fail
  obtain ⟨t3, k3⟩ := tab_val (t := ⟨E, S, live, used, ser⟩) TT.out hq2 val
  exact hR.out _ _ ⟨rfl, ⟨_, _, t3.none ((Keeps.refl _ _).drewN 1)⟩, ((HK1.out.mono (T := F) (fun _ _ h => h.elim)).trans k3 (fun _ _ h => h)).drew⟩
end Go.Proofs.Ytpaefeknbpfpmaa
