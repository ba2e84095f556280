/- Layer 5: an act, of a table and of the model. -/
import Derived.Test.YtpaefeknbpfpmaaPairB
namespace Go.Proofs.Ytpaefeknbpfpmaa
open Go.RowKit
set_option maxRecDepth 100000

/-- A table and the model's row, the same entries in both. -/
structure TM (w : World) (F G : Nat → Prop) (b : Nat) (A : Option Addr) (c : Nat) (L : List Ent) (s : Int) : Prop where
  tab : IsT w F b L s
  row : Row w G 39 6 (.slice A L.length c) L.length (flatP L)
  ap : Apart F G
  inG : In G w
section
variable {w wr wj : World} {F G : Nat → Prop} {b : Nat} {A : Option Addr} {c : Nat} {L : List Ent} {s : Int}
theorem TM.calm (h : TM w F G b A c L s) (hk : Keeps (fun _ => False) w wj) : TM wj F G b A c L s := ⟨h.tab.none hk, h.row.keeps hk (Apart.no _), h.ap, h.inG.keeps hk⟩
theorem TM.keeps {S : Nat → Prop} (h : TM w F G b A c L s) (hk : Keeps S w wj) (h1 : Apart F S) (h2 : Apart G S) : TM wj F G b A c L s := ⟨h.tab.keeps hk h1, h.row.keeps hk h2, h.ap, h.inG.keeps hk⟩
/-- The table has turned, the model's row is made anew. -/
theorem TM.next {F' G' : Nat → Prop} {L' : List Ent} {s' : Int} {A' : Option Addr} {c' n : Nat} (h : TM w F G b A c L s) (ht : IsT wr F' b L' s') (hk : Keeps F w wr) (hf : Fresh F F' w) (hk2 : Keeps (fun _ => False) wr wj)
    (hn : n = L'.length) (hr : Row wj G' 39 6 (.slice A' n c') n (flatP L')) (hG : ∀ k, G' k → wr.heap.size ≤ k) :
    ∃ G2 : Nat → Prop, TM wj F' G2 b A' c' L' s' ∧ Keeps F w wj ∧ Fresh F F' w ∧ Fresh G G2 w := by
  subst hn
  refine ⟨fun k => wr.heap.size ≤ k ∧ k < wj.heap.size, ⟨ht.none hk2, hr.mono (fun k hlt h => ⟨hG k h, hlt⟩), fun k hF hg => ?_, fun k h => h.2⟩, hk.trans hk2 (fun _ _ h => h.elim), hf, fun k h => .inr (Nat.le_trans hk.size h.1)⟩
  have := ht.inw k hF
  omega
/-- The table has turned, the model's row not. -/
theorem TM.turn {F' : Nat → Prop} {s' : Int} (h : TM w F G b A c L s) (ht : IsT wr F' b L s') (hk : Keeps F w wr) (hf : Fresh F F' w) (hk2 : Keeps (fun _ => False) wr wj) :
    TM wj F' G b A c L s' ∧ Keeps F w wj ∧ Fresh F F' w ∧ Fresh G G w :=
  ⟨⟨ht.none hk2, (h.row.keeps hk h.ap.symm).keeps hk2 (Apart.no _), h.ap.fresh hf h.inG, (h.inG.keeps hk).keeps hk2⟩, hk.trans hk2 (fun _ _ h => h.elim), hf, Fresh.refl _ _⟩
end
theorem delL_none {L : List Ent} {key : V} (h : ∀ x ∈ L, x.key ≠ key) : delL L key = L := by
  unfold delL
  exact List.filter_eq_self.2 (fun x hx => by simpa using h x hx)
theorem putL_set {L : List Ent} (hd : L.Pairwise (fun a b => a.key ≠ b.key)) {q : Nat} (hq : q < L.length) (val : V) : putL L L[q].key val = L.set q { L[q] with val := val } := by
  refine List.ext_getElem? fun i => ?_
  rw [putL, List.getElem?_map, List.getElem?_set]
  by_cases e : q = i
  · subst e
    simp [hq]
  · rw [if_neg e]
    cases hy : L[i]? with
    | none => rfl
    | some y =>
      simp only [Option.map_some]
      obtain ⟨hi, rfl⟩ := List.getElem?_eq_some_iff.1 hy
      rw [if_neg]
      intro h
      rcases Nat.lt_or_ge i q with h1 | h1
      · exact List.pairwise_iff_getElem.1 hd i q hi hq h1 h
      · exact List.pairwise_iff_getElem.1 hd q i hq hi (by omega) h.symm
theorem delL_erase {L : List Ent} (hd : L.Pairwise (fun a b => a.key ≠ b.key)) : ∀ {q : Nat} (hq : q < L.length), delL L L[q].key = L.eraseIdx q := by
  induction L with
  | nil => intro q hq; simp at hq
  | cons x xs ih =>
    intro q hq
    have h1 := List.pairwise_cons.1 hd
    cases q with
    | zero =>
      simp only [delL, List.getElem_cons_zero, List.filter_cons]
      simp only [ne_eq, not_true_eq_false, decide_false, Bool.false_eq_true, if_false, List.eraseIdx_zero, List.tail_cons]
      exact List.filter_eq_self.2 (fun y hy => by simpa using fun e : y.key = x.key => h1.1 y hy e.symm)
    | succ q =>
      have hq' : q < xs.length := by simpa using hq
      have := ih h1.2 hq'
      simp only [delL, List.getElem_cons_succ, List.filter_cons, List.eraseIdx_cons_succ] at this ⊢
      rw [if_pos (by simpa using fun e => h1.1 xs[q] (List.getElem_mem hq') e), this]
theorem flatP_set_val {L : List Ent} (hd : L.Pairwise (fun a b => a.key ≠ b.key)) {q : Nat} (hq : q < L.length) (y : V) : (((flatP L).set (q * 6 + 3) (.int .i64 y.k)).set (q * 6 + 4) (.int .i64 y.n)).set (q * 6 + 5) (.string y.t) = flatP (putL L L[q].key y) := by
  rw [putL_set hd hq, flatP_val L y q hq]
def putp (w : World) (g q : Nat) (y : V) : World := ((w.setCell ⟨g, q * 6 + 3, none⟩ (.int .i64 y.k)).setCell ⟨g, q * 6 + 4, none⟩ (.int .i64 y.n)).setCell ⟨g, q * 6 + 5, none⟩ (.string y.t)
theorem Row.open6 {w : World} {F : Nat → Prop} {n c : Nat} {A : Option Addr} {E : List Ent} (h : Row w F 39 6 (.slice A n c) n (flatP E)) {i : Nat} (hi : i < E.length) : ∃ g, A = some ⟨g, 0, none⟩ ∧ F g ∧ g < w.heap.size ∧ PairAt w g 0 i E[i] ∧ ∀ j, w.frozen? ⟨g, j, none⟩ = false := by
  obtain ⟨b, o, rfl, hx⟩ := Pairs.own h.1 i E[i] (by simp [hi])
  have ho : o = 0 := by
    rcases h.1.2 with ⟨he, _⟩ | ⟨g, cap, cur, he, _⟩
    · simp at he
    · simp at he; exact he.1.2
  subst ho
  exact ⟨b, rfl, h.2 b rfl, World.block_lt_of_cell? w _ hx.c0, hx, fun j => h.1.frozenAt _⟩
theorem Row.putp {w : World} {F : Nat → Prop} {n c g : Nat} {L : List Ent} (h : Row w F 39 6 (.slice (some ⟨g, 0, none⟩) n c) n (flatP L)) (hd : L.Pairwise (fun a b => a.key ≠ b.key)) {q : Nat} (hq : q < L.length) (y : V) :
    Row (putp w g q y) F 39 6 (.slice (some ⟨g, 0, none⟩) n c) n (flatP (putL L L[q].key y)) := by
  have h3 := ((h.1.stored (q * 6 + 3) (.int .i64 y.k)).1.stored (q * 6 + 4) (.int .i64 y.n)).1.stored (q * 6 + 5) (.string y.t)
  rw [flatP_set_val hd hq] at h3
  exact ⟨h3.1, h.2⟩
theorem pair_lit (w : World) (x : Ent) {m : Nat} (hm : m = w.heap.size) : Pairs (w.alloc (.cells #[.int .i64 x.key.k, .int .i64 x.key.n, .string x.key.t, .int .i64 x.val.k, .int .i64 x.val.n, .string x.val.t] 39)) (some ⟨m, 0, none⟩) [x] := fun i y hi => by
  subst hm
  have hi0 : i = 0 := by have := (List.getElem?_eq_some_iff.1 hi).1; simp at this; omega
  subst hi0
  simp at hi
  subst hi
  exact ⟨_, _, rfl, ⟨by rw [blk_cell (blk_new w _)]; rfl, by rw [blk_cell (blk_new w _)]; rfl, by rw [blk_cell (blk_new w _)]; rfl, by rw [blk_cell (blk_new w _)]; rfl, by rw [blk_cell (blk_new w _)]; rfl, by rw [blk_cell (blk_new w _)]; rfl⟩⟩
theorem Pairs.src1 {P : Program} {w : World} {g : Nat} {x : Ent} {t e' : TypeId} (h : Pairs w (some ⟨g, 0, none⟩) [x]) (hu : P.underlying t = some (.slice e')) : Src P 6 t (.slice (some ⟨g, 0, none⟩) 1 1) 1 (flatP [x]) w := by
  obtain ⟨b, o, e, h1⟩ := h 0 x rfl
  simp at e
  obtain ⟨rfl, rfl⟩ := e
  refine Src.ofSlice w hu _ _ 1 _ (by simp [flatP, Ent.pair]) (fun j u hj => ?_) (flatP_one _)
  rw [add_at3]
  obtain ⟨c0, c1, c2, c3, c4, c5⟩ := h1
  simp only [Nat.zero_mul, Nat.zero_add] at c0 c1 c2 c3 c4 c5 ⊢
  have hl : j < 6 := by have := (List.getElem?_eq_some_iff.1 hj).1; simpa [flatP, Ent.pair] using this
  match j, hl with
  | 0, _ => simp [flatP, Ent.pair] at hj; rw [← hj]; exact c0
  | 1, _ => simp [flatP, Ent.pair] at hj; rw [← hj]; exact c1
  | 2, _ => simp [flatP, Ent.pair] at hj; rw [← hj]; exact c2
  | 3, _ => simp [flatP, Ent.pair] at hj; rw [← hj]; exact c3
  | 4, _ => simp [flatP, Ent.pair] at hj; rw [← hj]; exact c4
  | 5, _ => simp [flatP, Ent.pair] at hj; rw [← hj]; exact c5
theorem plit (w : World) (x : Ent) {m : Nat} (hm : m = w.heap.size) : Src Try.prog 6 28 (.slice (some ⟨m, 0, none⟩) 1 1) 1 (flatP [x]) (w.alloc (.cells #[.int .i64 x.key.k, .int .i64 x.key.n, .string x.key.t, .int .i64 x.val.k, .int .i64 x.val.n, .string x.val.t] 39)) := (pair_lit w x hm).src1 Try.underlying28
theorem plit_drew (w : World) (x : Ent) {m : Nat} (hm : m = w.heap.size) : Pairs (w.alloc (.cells #[.int .i64 x.key.k, .int .i64 x.key.n, .string x.key.t, .int .i64 x.val.k, .int .i64 x.val.n, .string x.val.t] 39)).drew (some ⟨m, 0, none⟩) [x] := (pair_lit w x hm).keeps ((Keeps.refl (fun _ => False) _).drew) (fun _ _ _ h => h)
theorem plit_drew2 (w : World) (x : Ent) (o : Obj) {m : Nat} (hm : m = w.heap.size) : Pairs ((w.alloc (.cells #[.int .i64 x.key.k, .int .i64 x.key.n, .string x.key.t, .int .i64 x.val.k, .int .i64 x.val.n, .string x.val.t] 39)).alloc o).drew (some ⟨m, 0, none⟩) [x] := (pair_lit w x hm).keeps (((Keeps.refl (fun _ => False) _).alloc o).drew) (fun _ _ _ h => h)
theorem putL_len (L : List Ent) (key val : V) : (putL L key val).length = L.length := by simp [putL]
/-- Behind a copy of the model's row, and a value's store into it. -/
theorem tm_put {w w2 w3 : World} {F G : Nat → Prop} {b q g c c3 : Nat} {A : Option Addr} {L : List Ent} {s : Int} {key val : V} {o : Obj} (h : TM w F G b A c L s) (ht : IsT w2 F b (putL L key val) s) (hk : Keeps F w w2) (hq : q < L.length) (hkey : L[q].key = key)
    (hR : Row w3 (fun k => w2.heap.size ≤ k ∨ (w2.alloc o).heap.size ≤ k) 39 6 (.slice (some ⟨g, 0, none⟩) L.length c3) L.length (flatP L)) (hK : Keeps (fun k => (Value.slice (some ⟨w2.heap.size, 0, none⟩) 0 0).ownBlock = some k) (w2.alloc o) w3) :
    ∃ G2 : Nat → Prop, TM (putp w3 g q val) F G2 b (some ⟨g, 0, none⟩) c3 (putL L key val) s ∧ Keeps F w (putp w3 g q val) ∧ Fresh F F w ∧ Fresh G G2 w := by
  have hr : Row w3 (fun k => w2.heap.size ≤ k) 39 6 (.slice (some ⟨g, 0, none⟩) L.length c3) L.length (flatP L) := hR.mono (fun k _ h => h.elim id (fun h => by simp at h; omega))
  have k3 : Keeps (fun _ => False) w2 w3 := (((Keeps.refl (fun k => w2.heap.size ≤ k) w2).alloc o).trans hK (fun k _ e => by simp [Value.ownBlock] at e; omega)).mono (fun k h1 h2 => by omega)
  have hg : w2.heap.size ≤ g := hr.2 g rfl
  have k4 : Keeps (fun _ => False) w2 (putp w3 g q val) := (k3.mono (T := fun k => w2.heap.size ≤ k) (fun _ _ h => h.elim)).trans (((((SameBut.refl g w3).set _ _).set _ _).set _ _).keeps.mono (T := fun k => w2.heap.size ≤ k) (fun k _ e => e ▸ hg)) (fun _ _ h => h) |>.mono (fun k h1 h2 => by omega)
  have hr2 := hr.putp h.tab.lok.kne hq val
  rw [hkey] at hr2
  exact h.next ht hk (Fresh.refl _ _) k4 (putL_len L key val).symm hr2 (fun k h => h)
set_option maxHeartbeats 8000000 in
theorem do_clear (w : World) (F G : Nat → Prop) (b : Nat) (A : Option Addr) (c : Nat) (L : List Ent) (s : Int) (key val : V) (h : TM w F G b A c L s) (hs : s < 1073741823) (hll : L.length < 1048576) (hkl : key.t.size ≤ 140737488351232) :
    Calls Try.prog 13 #[.pointer (some ⟨b, 0, none⟩), .slice A L.length c, .agg #[.int .i64 3, .int .i64 key.k, .int .i64 key.n, .string key.t, .int .i64 val.k, .int .i64 val.n, .string val.t]] w fun e w' => ∃ A' c' F' G', e = .returned (.tuple #[.slice A' (([] : List Ent)).length c', .bool true]) ∧ TM w' F' G' b A' c' (([] : List Ent)) (s) ∧ Keeps F w w' ∧ Fresh F F' w ∧ Fresh G G' w := by
  have hlok := h.tab.lok
  have H := hidden h
  have hKD := hidden hlok.kne
  have HB := hidden (show Keeps (fun _ => False) w (w.alloc (.cells #[.int .i64 3, .int .i64 key.k, .int .i64 key.n, .string key.t, .int .i64 val.k, .int .i64 val.n, .string val.t] 32)) from (Keeps.refl _ w).alloc _)
  have BX := hidden (blk_new w (.cells #[.int .i64 3, .int .i64 key.k, .int .i64 key.n, .string key.t, .int .i64 val.k, .int .i64 val.n, .string val.t] 32))
  have hcap := h.row.cap
  have HMA := hidden (fun (W : World) (hk : Keeps (fun _ => False) w W) => model_at W A c L key ((Pairs.own H.out.row.1).calm hk) (by omega))
  unfold V.val at HMA
  clear h hlok
  refine post_gen fun R hR => ?_
  obtain ⟨j, HAT⟩ : ∃ j, Hid (atT L key = j) := ⟨_, hidden rfl⟩
  have NBX := hidden (show ¬ F w.heap.size from fun h => by have := H.out.tab.inw _ h; omega)
  have HC := hidden (fun (W : World) (hk : Keeps (fun _ => False) w W) => t_Clear (H.out.tab.none hk))
  go_enter Try.func13, Try.ntmps13
  go_wp2_with (first | (go_at_call 15; refine (HMA.out _ HB.out).mono ?_; rintro e w1 ⟨rfl, hK1⟩; have HK1 := hidden (HB.out.trans hK1 (fun _ _ h => h)); have BX1 := hidden (hK1.heap BX.out (fun h => h)); clear hK1; rw [HAT.out]; have x0 := blk_cell BX1.out 0; have x1 := blk_cell BX1.out 1; have x2 := blk_cell BX1.out 2; have x3 := blk_cell BX1.out 3; have x4 := blk_cell BX1.out 4; have x5 := blk_cell BX1.out 5; have x6 := blk_cell BX1.out 6; simp only [List.getElem?_toArray, List.getElem?_cons_zero, List.getElem?_cons_succ] at x0 x1 x2 x3 x4 x5 x6; have hbx := blk_lt BX1.out) | (go_at_call 51; refine (HC.out _ HK1.out).mono ?_; rintro e w2 ⟨rfl, hT, hK2⟩; have HT2 := hidden hT; have HK2 := hidden ((HK1.out.mono (fun _ _ h => h.elim)).trans hK2 (fun _ _ h => h)); have BX2 := hidden (hK2.heap BX1.out (fun h => NBX.out h)); clear hT hK2 x0 x1 x2 x3 x4 x5 x6 hbx; have x0 := blk_cell BX2.out 0; have x1 := blk_cell BX2.out 1; have x2 := blk_cell BX2.out 2; have x3 := blk_cell BX2.out 3; have x4 := blk_cell BX2.out 4; have x5 := blk_cell BX2.out 5; have x6 := blk_cell BX2.out 6; simp only [List.getElem?_toArray, List.getElem?_cons_zero, List.getElem?_cons_succ] at x0 x1 x2 x3 x4 x5 x6; have hbx := blk_lt BX2.out))
  obtain ⟨G2, h1, h2⟩ := H.out.next (L' := []) (A' := none) (c' := 0) (n := 0) (G' := fun _ => False) HT2.out HK2.out (Fresh.refl _ _) (Keeps.refl _ _) rfl (Row.nil _ _ _ _) (fun k h => h.elim)
  exact hR.out _ _ ⟨none, 0, F, G2, rfl, h1, h2⟩
set_option maxHeartbeats 8000000 in
theorem do_other (w : World) (F G : Nat → Prop) (b : Nat) (A : Option Addr) (c : Nat) (L : List Ent) (s : Int) (key val : V) (h : TM w F G b A c L s) (hs : s < 1073741823) (hll : L.length < 1048576) (hkl : key.t.size ≤ 140737488351232) (kd : Int) (hkd : kd ≠ 0 ∧ kd ≠ 1 ∧ kd ≠ 2 ∧ kd ≠ 3) :
    Calls Try.prog 13 #[.pointer (some ⟨b, 0, none⟩), .slice A L.length c, .agg #[.int .i64 kd, .int .i64 key.k, .int .i64 key.n, .string key.t, .int .i64 val.k, .int .i64 val.n, .string val.t]] w fun e w' => ∃ A' c' F' G', e = .returned (.tuple #[.slice A' (L).length c', .bool true]) ∧ TM w' F' G' b A' c' (L) (s) ∧ Keeps F w w' ∧ Fresh F F' w ∧ Fresh G G' w := by
  have hlok := h.tab.lok
  have H := hidden h
  have hKD := hidden hlok.kne
  have HB := hidden (show Keeps (fun _ => False) w (w.alloc (.cells #[.int .i64 kd, .int .i64 key.k, .int .i64 key.n, .string key.t, .int .i64 val.k, .int .i64 val.n, .string val.t] 32)) from (Keeps.refl _ w).alloc _)
  have BX := hidden (blk_new w (.cells #[.int .i64 kd, .int .i64 key.k, .int .i64 key.n, .string key.t, .int .i64 val.k, .int .i64 val.n, .string val.t] 32))
  have hcap := h.row.cap
  have HMA := hidden (fun (W : World) (hk : Keeps (fun _ => False) w W) => model_at W A c L key ((Pairs.own H.out.row.1).calm hk) (by omega))
  unfold V.val at HMA
  clear h hlok
  refine post_gen fun R hR => ?_
  obtain ⟨j, HAT⟩ : ∃ j, Hid (atT L key = j) := ⟨_, hidden rfl⟩
  obtain ⟨n0, n1, n2, n3⟩ := hkd
  have j0 : (kd == 0) = false := by simpa using n0
  have j1 : (kd == 1) = false := by simpa using n1
  have j2 : (kd == 2) = false := by simpa using n2
  have j3 : (kd == 3) = false := by simpa using n3
  go_enter Try.func13, Try.ntmps13
  go_wp2_with (go_at_call 15; refine (HMA.out _ HB.out).mono ?_; rintro e w1 ⟨rfl, hK1⟩; have HK1 := hidden (HB.out.trans hK1 (fun _ _ h => h)); have BX1 := hidden (hK1.heap BX.out (fun h => h)); clear hK1; rw [HAT.out]; have x0 := blk_cell BX1.out 0; have x1 := blk_cell BX1.out 1; have x2 := blk_cell BX1.out 2; have x3 := blk_cell BX1.out 3; have x4 := blk_cell BX1.out 4; have x5 := blk_cell BX1.out 5; have x6 := blk_cell BX1.out 6; simp only [List.getElem?_toArray, List.getElem?_cons_zero, List.getElem?_cons_succ] at x0 x1 x2 x3 x4 x5 x6; have hbx := blk_lt BX1.out)
  exact hR.out _ _ ⟨A, c, F, G, rfl, H.out.calm HK1.out, HK1.out.mono (fun _ _ h => h.elim), Fresh.refl _ _, Fresh.refl _ _⟩
set_option maxHeartbeats 8000000 in
theorem do_put_null (w : World) (F G : Nat → Prop) (b : Nat) (A : Option Addr) (c : Nat) (L : List Ent) (s : Int) (key val : V) (h : TM w F G b A c L s) (hs : s < 1073741823) (hll : L.length < 1048576) (hkl : key.t.size ≤ 140737488351232) (h0 : key.k = 0) :
    Calls Try.prog 13 #[.pointer (some ⟨b, 0, none⟩), .slice A L.length c, .agg #[.int .i64 0, .int .i64 key.k, .int .i64 key.n, .string key.t, .int .i64 val.k, .int .i64 val.n, .string val.t]] w fun e w' => ∃ A' c' F' G', e = .returned (.tuple #[.slice A' (L).length c', .bool true]) ∧ TM w' F' G' b A' c' (L) (s) ∧ Keeps F w w' ∧ Fresh F F' w ∧ Fresh G G' w := by
  have hlok := h.tab.lok
  have H := hidden h
  have hKD := hidden hlok.kne
  have HB := hidden (show Keeps (fun _ => False) w (w.alloc (.cells #[.int .i64 0, .int .i64 key.k, .int .i64 key.n, .string key.t, .int .i64 val.k, .int .i64 val.n, .string val.t] 32)) from (Keeps.refl _ w).alloc _)
  have BX := hidden (blk_new w (.cells #[.int .i64 0, .int .i64 key.k, .int .i64 key.n, .string key.t, .int .i64 val.k, .int .i64 val.n, .string val.t] 32))
  have hcap := h.row.cap
  have HMA := hidden (fun (W : World) (hk : Keeps (fun _ => False) w W) => model_at W A c L key ((Pairs.own H.out.row.1).calm hk) (by omega))
  unfold V.val at HMA
  clear h hlok
  refine post_gen fun R hR => ?_
  obtain ⟨j, HAT⟩ : ∃ j, Hid (atT L key = j) := ⟨_, hidden rfl⟩
  have HC := hidden (fun (W : World) (hk : Keeps (fun _ => False) w W) => table_Put_null W b key val h0)
  unfold V.val at HC
  have H0 := hidden h0
  clear h0
  go_enter Try.func13, Try.ntmps13
  go_wp2_with (first | (go_at_call 15; refine (HMA.out _ HB.out).mono ?_; rintro e w1 ⟨rfl, hK1⟩; have HK1 := hidden (HB.out.trans hK1 (fun _ _ h => h)); have BX1 := hidden (hK1.heap BX.out (fun h => h)); clear hK1; rw [HAT.out]; have x0 := blk_cell BX1.out 0; have x1 := blk_cell BX1.out 1; have x2 := blk_cell BX1.out 2; have x3 := blk_cell BX1.out 3; have x4 := blk_cell BX1.out 4; have x5 := blk_cell BX1.out 5; have x6 := blk_cell BX1.out 6; simp only [List.getElem?_toArray, List.getElem?_cons_zero, List.getElem?_cons_succ] at x0 x1 x2 x3 x4 x5 x6; have hbx := blk_lt BX1.out) | (go_at_call 49; refine (HC.out _ HK1.out).mono ?_; rintro e w2 ⟨rfl, hK2⟩; have HK2 := hidden (HK1.out.trans hK2 (fun _ _ h => h)); have y1 := hK2.cell x1 (fun h => h); rw [H0.out] at y1; clear x1; have hby := blk_lt (hK2.heap BX1.out (fun h => h)); clear hK2))
  exact hR.out _ _ ⟨A, c, F, G, rfl, H.out.calm HK2.out, HK2.out.mono (fun _ _ h => h.elim), Fresh.refl _ _, Fresh.refl _ _⟩
set_option maxHeartbeats 8000000 in
theorem do_set_none (w : World) (F G : Nat → Prop) (b : Nat) (A : Option Addr) (c : Nat) (L : List Ent) (s : Int) (key val : V) (h : TM w F G b A c L s) (hs : s < 1073741823) (hll : L.length < 1048576) (hkl : key.t.size ≤ 140737488351232) (hno : ∀ x ∈ L, x.key ≠ key) :
    Calls Try.prog 13 #[.pointer (some ⟨b, 0, none⟩), .slice A L.length c, .agg #[.int .i64 1, .int .i64 key.k, .int .i64 key.n, .string key.t, .int .i64 val.k, .int .i64 val.n, .string val.t]] w fun e w' => ∃ A' c' F' G', e = .returned (.tuple #[.slice A' (L).length c', .bool true]) ∧ TM w' F' G' b A' c' (L) (s) ∧ Keeps F w w' ∧ Fresh F F' w ∧ Fresh G G' w := by
  have hlok := h.tab.lok
  have H := hidden h
  have hKD := hidden hlok.kne
  have HB := hidden (show Keeps (fun _ => False) w (w.alloc (.cells #[.int .i64 1, .int .i64 key.k, .int .i64 key.n, .string key.t, .int .i64 val.k, .int .i64 val.n, .string val.t] 32)) from (Keeps.refl _ w).alloc _)
  have BX := hidden (blk_new w (.cells #[.int .i64 1, .int .i64 key.k, .int .i64 key.n, .string key.t, .int .i64 val.k, .int .i64 val.n, .string val.t] 32))
  have hcap := h.row.cap
  have HMA := hidden (fun (W : World) (hk : Keeps (fun _ => False) w W) => model_at W A c L key ((Pairs.own H.out.row.1).calm hk) (by omega))
  unfold V.val at HMA
  clear h hlok
  refine post_gen fun R hR => ?_
  have HAT := hidden (atT_none hno)
  have HNO := hidden hno
  clear hno
  have HC := hidden (fun (W : World) (hk : Keeps (fun _ => False) w W) => t_Set_none (H.out.tab.none hk) (by omega) val hkl HNO.out)
  unfold V.val at HC
  go_enter Try.func13, Try.ntmps13
  go_wp2_with (first | (go_at_call 15; refine (HMA.out _ HB.out).mono ?_; rintro e w1 ⟨rfl, hK1⟩; have HK1 := hidden (HB.out.trans hK1 (fun _ _ h => h)); have BX1 := hidden (hK1.heap BX.out (fun h => h)); clear hK1; rw [HAT.out]; have x0 := blk_cell BX1.out 0; have x1 := blk_cell BX1.out 1; have x2 := blk_cell BX1.out 2; have x3 := blk_cell BX1.out 3; have x4 := blk_cell BX1.out 4; have x5 := blk_cell BX1.out 5; have x6 := blk_cell BX1.out 6; simp only [List.getElem?_toArray, List.getElem?_cons_zero, List.getElem?_cons_succ] at x0 x1 x2 x3 x4 x5 x6; have hbx := blk_lt BX1.out) | (go_at_call 63; refine (HC.out _ HK1.out).mono ?_; rintro e w2 ⟨rfl, hK2⟩; have HK2 := hidden (HK1.out.trans hK2 (fun _ _ h => h)); clear hK2))
  exact hR.out _ _ ⟨A, c, F, G, rfl, H.out.calm HK2.out, HK2.out.mono (fun _ _ h => h.elim), Fresh.refl _ _, Fresh.refl _ _⟩
set_option maxHeartbeats 8000000 in
theorem do_set_there (w : World) (F G : Nat → Prop) (b : Nat) (A : Option Addr) (c : Nat) (L : List Ent) (s : Int) (key val : V) (h : TM w F G b A c L s) (hs : s < 1073741823) (hll : L.length < 1048576) (hkl : key.t.size ≤ 140737488351232) (q : Nat) (hq : q < L.length) (hkey : L[q].key = key) :
    Calls Try.prog 13 #[.pointer (some ⟨b, 0, none⟩), .slice A L.length c, .agg #[.int .i64 1, .int .i64 key.k, .int .i64 key.n, .string key.t, .int .i64 val.k, .int .i64 val.n, .string val.t]] w fun e w' => ∃ A' c' F' G', e = .returned (.tuple #[.slice A' (putL L key val).length c', .bool true]) ∧ TM w' F' G' b A' c' (putL L key val) (s) ∧ Keeps F w w' ∧ Fresh F F' w ∧ Fresh G G' w := by
  have hlok := h.tab.lok
  have H := hidden h
  have hKD := hidden hlok.kne
  have HB := hidden (show Keeps (fun _ => False) w (w.alloc (.cells #[.int .i64 1, .int .i64 key.k, .int .i64 key.n, .string key.t, .int .i64 val.k, .int .i64 val.n, .string val.t] 32)) from (Keeps.refl _ w).alloc _)
  have BX := hidden (blk_new w (.cells #[.int .i64 1, .int .i64 key.k, .int .i64 key.n, .string key.t, .int .i64 val.k, .int .i64 val.n, .string val.t] 32))
  have hcap := h.row.cap
  have HMA := hidden (fun (W : World) (hk : Keeps (fun _ => False) w W) => model_at W A c L key ((Pairs.own H.out.row.1).calm hk) (by omega))
  unfold V.val at HMA
  clear h hlok
  refine post_gen fun R hR => ?_
  have HAT := hidden (show atT L key = q from hkey ▸ atT_some hKD.out hq)
  have HMEM := hidden (show L[q] ∈ L from List.getElem_mem hq)
  have HKEY := hidden hkey
  have NBX := hidden (show ¬ F w.heap.size from fun h => by have := H.out.tab.inw _ h; omega)
  have HC := hidden (fun (W : World) (hk : Keeps (fun _ => False) w W) => hkey ▸ t_Set_there (H.out.tab.none hk) (by omega) HMEM.out val)
  unfold V.val at HC
  clear hkey
  go_enter Try.func13, Try.ntmps13
  go_wp2_with (first | (go_at_call 15; refine (HMA.out _ HB.out).mono ?_; rintro e w1 ⟨rfl, hK1⟩; have HK1 := hidden (HB.out.trans hK1 (fun _ _ h => h)); have BX1 := hidden (hK1.heap BX.out (fun h => h)); clear hK1; rw [HAT.out]; have x0 := blk_cell BX1.out 0; have x1 := blk_cell BX1.out 1; have x2 := blk_cell BX1.out 2; have x3 := blk_cell BX1.out 3; have x4 := blk_cell BX1.out 4; have x5 := blk_cell BX1.out 5; have x6 := blk_cell BX1.out 6; simp only [List.getElem?_toArray, List.getElem?_cons_zero, List.getElem?_cons_succ] at x0 x1 x2 x3 x4 x5 x6; have hbx := blk_lt BX1.out) | (go_at_call 63; refine (HC.out _ HK1.out).mono ?_; rintro e w2 ⟨rfl, hT, hK2⟩; have HT2 := hidden hT; have HK2 := hidden ((HK1.out.mono (fun _ _ h => h.elim)).trans hK2 (fun _ _ h => h)); have BX2 := hidden (hK2.heap BX1.out (fun h => NBX.out h)); clear hT hK2 x0 x1 x2 x3 x4 x5 x6 hbx; have x0 := blk_cell BX2.out 0; have x1 := blk_cell BX2.out 1; have x2 := blk_cell BX2.out 2; have x3 := blk_cell BX2.out 3; have x4 := blk_cell BX2.out 4; have x5 := blk_cell BX2.out 5; have x6 := blk_cell BX2.out 6; simp only [List.getElem?_toArray, List.getElem?_cons_zero, List.getElem?_cons_succ] at x0 x1 x2 x3 x4 x5 x6; have hbx := blk_lt BX2.out) | (at_builtin; refine app_list rfl (fun k => w2.heap.size ≤ k) _ _ _ _ _ _ 6 64 rfl Try.underlying28 info_pair rfl (by decide) _ _ _ rfl (madeP _ _ _ rfl (Nat.le_refl _)) _ rfl _ (flatP L) ((H.out.row.keeps (HK2.out.alloc _) H.out.ap.symm).src (flatP_one _) Try.underlying28) (by omega) (by omega) ?_; intro A5 c5 w5 hR5 hK5; simp only [Nat.zero_add, List.nil_append] at hR5; obtain ⟨g5, rfl, hg5, hg6, hp5, hf5⟩ := hR5.open6 hq; have f3 := hf5 (0 + q * 6 + 3); have f4 := hf5 (0 + q * 6 + 4); have f5 := hf5 (0 + q * 6 + 5); obtain ⟨p0, p1, p2, p3, p4, p5⟩ := hp5; simp only [Nat.zero_add] at f3 f4 f5 p3 p4 p5; have BX5 := hidden (hK5.heap (blk_alloc BX2.out _) (fun e => by have h1 := blk_lt BX2.out; have h2 : w2.heap.size = w.heap.size := Option.some.inj e; omega)); have y0 := blk_cell BX5.out 0; have y1 := blk_cell BX5.out 1; have y2 := blk_cell BX5.out 2; have y3 := blk_cell BX5.out 3; have y4 := blk_cell BX5.out 4; have y5 := blk_cell BX5.out 5; have y6 := blk_cell BX5.out 6; simp only [List.getElem?_toArray, List.getElem?_cons_zero, List.getElem?_cons_succ] at y0 y1 y2 y3 y4 y5 y6; have hby := blk_lt BX5.out; have HR5 := hidden hR5; have HK5 := hidden hK5; clear hR5 hK5 hf5 p0 p1 p2))
  obtain ⟨G2, h1, h2⟩ := tm_put H.out HT2.out HK2.out hq HKEY.out HR5.out HK5.out
  exact hR.out _ _ ⟨some ⟨g5, 0, none⟩, c5, F, G2, by rw [putL_len]; rfl, h1, h2⟩
set_option maxHeartbeats 8000000 in
theorem do_put_there (w : World) (F G : Nat → Prop) (b : Nat) (A : Option Addr) (c : Nat) (L : List Ent) (s : Int) (key val : V) (h : TM w F G b A c L s) (hs : s < 1073741823) (hll : L.length < 1048576) (hkl : key.t.size ≤ 140737488351232) (q : Nat) (hq : q < L.length) (hkey : L[q].key = key) :
    Calls Try.prog 13 #[.pointer (some ⟨b, 0, none⟩), .slice A L.length c, .agg #[.int .i64 0, .int .i64 key.k, .int .i64 key.n, .string key.t, .int .i64 val.k, .int .i64 val.n, .string val.t]] w fun e w' => ∃ A' c' F' G', e = .returned (.tuple #[.slice A' (putL L key val).length c', .bool true]) ∧ TM w' F' G' b A' c' (putL L key val) (s) ∧ Keeps F w w' ∧ Fresh F F' w ∧ Fresh G G' w := by
  have hlok := h.tab.lok
  have H := hidden h
  have hKD := hidden hlok.kne
  have HB := hidden (show Keeps (fun _ => False) w (w.alloc (.cells #[.int .i64 0, .int .i64 key.k, .int .i64 key.n, .string key.t, .int .i64 val.k, .int .i64 val.n, .string val.t] 32)) from (Keeps.refl _ w).alloc _)
  have BX := hidden (blk_new w (.cells #[.int .i64 0, .int .i64 key.k, .int .i64 key.n, .string key.t, .int .i64 val.k, .int .i64 val.n, .string val.t] 32))
  have hcap := h.row.cap
  have HMA := hidden (fun (W : World) (hk : Keeps (fun _ => False) w W) => model_at W A c L key ((Pairs.own H.out.row.1).calm hk) (by omega))
  unfold V.val at HMA
  clear h hlok
  refine post_gen fun R hR => ?_
  have HAT := hidden (show atT L key = q from hkey ▸ atT_some hKD.out hq)
  have HMEM := hidden (show L[q] ∈ L from List.getElem_mem hq)
  have HKEY := hidden hkey
  have NBX := hidden (show ¬ F w.heap.size from fun h => by have := H.out.tab.inw _ h; omega)
  have HC := hidden (fun (W : World) (hk : Keeps (fun _ => False) w W) => hkey ▸ t_Put_there (H.out.tab.none hk) (by omega) HMEM.out val)
  unfold V.val at HC
  have hn0 : key.k ≠ 0 := hkey ▸ H.out.tab.lok.nnul _ HMEM.out
  have hn1 : (key.k == 0) = false := by simpa using hn0
  clear hkey
  go_enter Try.func13, Try.ntmps13
  go_wp2_with (first | (go_at_call 15; refine (HMA.out _ HB.out).mono ?_; rintro e w1 ⟨rfl, hK1⟩; have HK1 := hidden (HB.out.trans hK1 (fun _ _ h => h)); have BX1 := hidden (hK1.heap BX.out (fun h => h)); clear hK1; rw [HAT.out]; have x0 := blk_cell BX1.out 0; have x1 := blk_cell BX1.out 1; have x2 := blk_cell BX1.out 2; have x3 := blk_cell BX1.out 3; have x4 := blk_cell BX1.out 4; have x5 := blk_cell BX1.out 5; have x6 := blk_cell BX1.out 6; simp only [List.getElem?_toArray, List.getElem?_cons_zero, List.getElem?_cons_succ] at x0 x1 x2 x3 x4 x5 x6; have hbx := blk_lt BX1.out) | (go_at_call 49; refine (HC.out _ HK1.out).mono ?_; rintro e w2 ⟨rfl, hT, hK2⟩; have HT2 := hidden hT; have HK2 := hidden ((HK1.out.mono (fun _ _ h => h.elim)).trans hK2 (fun _ _ h => h)); have BX2 := hidden (hK2.heap BX1.out (fun h => NBX.out h)); clear hT hK2 x0 x1 x2 x3 x4 x5 x6 hbx; have x0 := blk_cell BX2.out 0; have x1 := blk_cell BX2.out 1; have x2 := blk_cell BX2.out 2; have x3 := blk_cell BX2.out 3; have x4 := blk_cell BX2.out 4; have x5 := blk_cell BX2.out 5; have x6 := blk_cell BX2.out 6; simp only [List.getElem?_toArray, List.getElem?_cons_zero, List.getElem?_cons_succ] at x0 x1 x2 x3 x4 x5 x6; have hbx := blk_lt BX2.out) | (at_builtin; refine app_list rfl (fun k => w2.heap.size ≤ k) _ _ _ _ _ _ 6 64 rfl Try.underlying28 info_pair rfl (by decide) _ _ _ rfl (madeP _ _ _ rfl (Nat.le_refl _)) _ rfl _ (flatP L) ((H.out.row.keeps (HK2.out.alloc _) H.out.ap.symm).src (flatP_one _) Try.underlying28) (by omega) (by omega) ?_; intro A5 c5 w5 hR5 hK5; simp only [Nat.zero_add, List.nil_append] at hR5; obtain ⟨g5, rfl, hg5, hg6, hp5, hf5⟩ := hR5.open6 hq; have f3 := hf5 (0 + q * 6 + 3); have f4 := hf5 (0 + q * 6 + 4); have f5 := hf5 (0 + q * 6 + 5); obtain ⟨p0, p1, p2, p3, p4, p5⟩ := hp5; simp only [Nat.zero_add] at f3 f4 f5 p3 p4 p5; have BX5 := hidden (hK5.heap (blk_alloc BX2.out _) (fun e => by have h1 := blk_lt BX2.out; have h2 : w2.heap.size = w.heap.size := Option.some.inj e; omega)); have y0 := blk_cell BX5.out 0; have y1 := blk_cell BX5.out 1; have y2 := blk_cell BX5.out 2; have y3 := blk_cell BX5.out 3; have y4 := blk_cell BX5.out 4; have y5 := blk_cell BX5.out 5; have y6 := blk_cell BX5.out 6; simp only [List.getElem?_toArray, List.getElem?_cons_zero, List.getElem?_cons_succ] at y0 y1 y2 y3 y4 y5 y6; have hby := blk_lt BX5.out; have HR5 := hidden hR5; have HK5 := hidden hK5; clear hR5 hK5 hf5 p0 p1 p2))
  obtain ⟨G2, h1, h2⟩ := tm_put H.out HT2.out HK2.out hq HKEY.out HR5.out HK5.out
  exact hR.out _ _ ⟨some ⟨g5, 0, none⟩, c5, F, G2, by rw [putL_len]; rfl, h1, h2⟩
set_option maxHeartbeats 8000000 in
theorem do_del_none (w : World) (F G : Nat → Prop) (b : Nat) (A : Option Addr) (c : Nat) (L : List Ent) (s : Int) (key val : V) (h : TM w F G b A c L s) (hs : s < 1073741823) (hll : L.length < 1048576) (hkl : key.t.size ≤ 140737488351232) (hno : ∀ x ∈ L, x.key ≠ key) :
    Calls Try.prog 13 #[.pointer (some ⟨b, 0, none⟩), .slice A L.length c, .agg #[.int .i64 2, .int .i64 key.k, .int .i64 key.n, .string key.t, .int .i64 val.k, .int .i64 val.n, .string val.t]] w fun e w' => ∃ A' c' F' G', e = .returned (.tuple #[.slice A' (L).length c', .bool true]) ∧ TM w' F' G' b A' c' (L) (s) ∧ Keeps F w w' ∧ Fresh F F' w ∧ Fresh G G' w := by
  have hlok := h.tab.lok
  have H := hidden h
  have hKD := hidden hlok.kne
  have HB := hidden (show Keeps (fun _ => False) w (w.alloc (.cells #[.int .i64 2, .int .i64 key.k, .int .i64 key.n, .string key.t, .int .i64 val.k, .int .i64 val.n, .string val.t] 32)) from (Keeps.refl _ w).alloc _)
  have BX := hidden (blk_new w (.cells #[.int .i64 2, .int .i64 key.k, .int .i64 key.n, .string key.t, .int .i64 val.k, .int .i64 val.n, .string val.t] 32))
  have hcap := h.row.cap
  have HMA := hidden (fun (W : World) (hk : Keeps (fun _ => False) w W) => model_at W A c L key ((Pairs.own H.out.row.1).calm hk) (by omega))
  unfold V.val at HMA
  clear h hlok
  refine post_gen fun R hR => ?_
  have HAT := hidden (atT_none hno)
  have HNO := hidden hno
  clear hno
  have HC := hidden (fun (W : World) (hk : Keeps (fun _ => False) w W) => t_Delete_none (H.out.tab.none hk) (by omega) hkl HNO.out)
  unfold V.val V.null at HC
  go_enter Try.func13, Try.ntmps13
  go_wp2_with (first | (go_at_call 15; refine (HMA.out _ HB.out).mono ?_; rintro e w1 ⟨rfl, hK1⟩; have HK1 := hidden (HB.out.trans hK1 (fun _ _ h => h)); have BX1 := hidden (hK1.heap BX.out (fun h => h)); clear hK1; rw [HAT.out]; have x0 := blk_cell BX1.out 0; have x1 := blk_cell BX1.out 1; have x2 := blk_cell BX1.out 2; have x3 := blk_cell BX1.out 3; have x4 := blk_cell BX1.out 4; have x5 := blk_cell BX1.out 5; have x6 := blk_cell BX1.out 6; simp only [List.getElem?_toArray, List.getElem?_cons_zero, List.getElem?_cons_succ] at x0 x1 x2 x3 x4 x5 x6; have hbx := blk_lt BX1.out) | (go_at_call 54; refine (HC.out _ HK1.out).mono ?_; rintro e w2 ⟨rfl, hK2⟩; have HK2 := hidden (HK1.out.trans hK2 (fun _ _ h => h)); clear hK2))
  go_quiet (fail)
  go_wp2_with fail
  exact hR.out _ _ ⟨A, c, F, G, rfl, H.out.calm ((HK2.out.alloc _).drewN _), ((HK2.out.alloc _).drewN _).mono (fun _ _ h => h.elim), Fresh.refl _ _, Fresh.refl _ _⟩
set_option maxHeartbeats 8000000 in
theorem do_put_new (w : World) (F G : Nat → Prop) (b : Nat) (A : Option Addr) (c : Nat) (L : List Ent) (s : Int) (key val : V) (h : TM w F G b A c L s) (hs : s < 1073741823) (hll : L.length < 1048576) (hkl : key.t.size ≤ 140737488351232) (hno : ∀ x ∈ L, x.key ≠ key) (h0 : key.k ≠ 0) :
    Calls Try.prog 13 #[.pointer (some ⟨b, 0, none⟩), .slice A L.length c, .agg #[.int .i64 0, .int .i64 key.k, .int .i64 key.n, .string key.t, .int .i64 val.k, .int .i64 val.n, .string val.t]] w fun e w' => ∃ A' c' F' G', e = .returned (.tuple #[.slice A' ((L ++ [(⟨key, val, s + 1, false⟩ : Ent)])).length c', .bool true]) ∧ TM w' F' G' b A' c' ((L ++ [(⟨key, val, s + 1, false⟩ : Ent)])) ((s + 1)) ∧ Keeps F w w' ∧ Fresh F F' w ∧ Fresh G G' w := by
  have hlok := h.tab.lok
  have H := hidden h
  have hKD := hidden hlok.kne
  have HB := hidden (show Keeps (fun _ => False) w (w.alloc (.cells #[.int .i64 0, .int .i64 key.k, .int .i64 key.n, .string key.t, .int .i64 val.k, .int .i64 val.n, .string val.t] 32)) from (Keeps.refl _ w).alloc _)
  have BX := hidden (blk_new w (.cells #[.int .i64 0, .int .i64 key.k, .int .i64 key.n, .string key.t, .int .i64 val.k, .int .i64 val.n, .string val.t] 32))
  have hcap := h.row.cap
  have HMA := hidden (fun (W : World) (hk : Keeps (fun _ => False) w W) => model_at W A c L key ((Pairs.own H.out.row.1).calm hk) (by omega))
  unfold V.val at HMA
  clear h hlok
  refine post_gen fun R hR => ?_
  have HAT := hidden (atT_none hno)
  have HNO := hidden hno
  clear hno
  have NBX := hidden (show ¬ F w.heap.size from fun h => by have := H.out.tab.inw _ h; omega)
  have HC := hidden (fun (W : World) (hk : Keeps (fun _ => False) w W) => t_Put_new (H.out.tab.none hk) hs val h0 hkl HNO.out hll)
  unfold V.val at HC
  have hn1 : (key.k == 0) = false := by simpa using h0
  clear h0
  go_enter Try.func13, Try.ntmps13
  go_wp2_with (first | (go_at_call 15; refine (HMA.out _ HB.out).mono ?_; rintro e w1 ⟨rfl, hK1⟩; have HK1 := hidden (HB.out.trans hK1 (fun _ _ h => h)); have BX1 := hidden (hK1.heap BX.out (fun h => h)); clear hK1; rw [HAT.out]; have x0 := blk_cell BX1.out 0; have x1 := blk_cell BX1.out 1; have x2 := blk_cell BX1.out 2; have x3 := blk_cell BX1.out 3; have x4 := blk_cell BX1.out 4; have x5 := blk_cell BX1.out 5; have x6 := blk_cell BX1.out 6; simp only [List.getElem?_toArray, List.getElem?_cons_zero, List.getElem?_cons_succ] at x0 x1 x2 x3 x4 x5 x6; have hbx := blk_lt BX1.out) | (go_at_call 49; refine (HC.out _ HK1.out).mono ?_; rintro e w2 ⟨F2, rfl, hT, hK2, hF2⟩; have HF2 := hidden (show Fresh F F2 w from fun k h => (hF2 k h).imp id (fun h => Nat.le_trans HK1.out.size h)); clear hF2; have HT2 := hidden hT; have HK2 := hidden ((HK1.out.mono (fun _ _ h => h.elim)).trans hK2 (fun _ _ h => h)); have BX2 := hidden (hK2.heap BX1.out (fun h => NBX.out h)); clear hT hK2 x0 x1 x2 x3 x4 x5 x6 hbx; have x0 := blk_cell BX2.out 0; have x1 := blk_cell BX2.out 1; have x2 := blk_cell BX2.out 2; have x3 := blk_cell BX2.out 3; have x4 := blk_cell BX2.out 4; have x5 := blk_cell BX2.out 5; have x6 := blk_cell BX2.out 6; simp only [List.getElem?_toArray, List.getElem?_cons_zero, List.getElem?_cons_succ] at x0 x1 x2 x3 x4 x5 x6; have hbx := blk_lt BX2.out))
  have hGvb := hidden (show ∀ k, G k → k < w2.heap.size from fun k h => by have := H.out.inG k h; have := HK2.out.size; omega)
  have fin : Hid (∀ (A6 : Option Addr) (c6 n6 : Nat) (w6 : World) (cs : List Value), Row w6 (fun k => w2.heap.size ≤ k) 39 6 (.slice A6 n6 c6) n6 cs → cs = flatP L ++ flatP [(⟨key, val, s + 1, false⟩ : Ent)] → n6 = L.length + 1 → Keeps (fun k => w2.heap.size ≤ k) w2 w6 → R (.returned (.tuple #[.slice A6 n6 c6, .bool true])) w6) := hidden (by
    intro A6 c6 n6 w6 cs hr hcs hn hk
    rw [hcs, ← flatP_append] at hr
    obtain ⟨G2, h1, h2⟩ := H.out.next HT2.out HK2.out HF2.out (hk.mono (fun k h1 h2 => by omega)) (by rw [hn]; simp) hr (fun k h => h)
    exact hR.out _ _ ⟨A6, c6, F2, G2, by rw [hn]; simp, h1, h2⟩)
  have hrowK0 := hidden (H.out.row.keeps HK2.out H.out.ap.symm)
  clear x0 BX BX1 BX2 NBX HT2 HC HMA HK1 HK2 HB HF2 hR H
  generalize w2 = W at *
  generalize hvbe : w.heap.size = vb at *
  have boxK := hidden (show ∀ W', Keeps (fun k => W.heap.size ≤ k) W W' → (W'.cell? ⟨vb, 1, none⟩ = some (.int .i64 key.k) ∧ W'.cell? ⟨vb, 2, none⟩ = some (.int .i64 key.n) ∧ W'.cell? ⟨vb, 3, none⟩ = some (.string key.t) ∧ W'.cell? ⟨vb, 4, none⟩ = some (.int .i64 val.k) ∧ W'.cell? ⟨vb, 5, none⟩ = some (.int .i64 val.n) ∧ W'.cell? ⟨vb, 6, none⟩ = some (.string val.t)) from fun W' hk => ⟨hk.cell x1 (fun h => by simp at h; omega), hk.cell x2 (fun h => by simp at h; omega), hk.cell x3 (fun h => by simp at h; omega), hk.cell x4 (fun h => by simp at h; omega), hk.cell x5 (fun h => by simp at h; omega), hk.cell x6 (fun h => by simp at h; omega)⟩)
  have hrowK := hidden (fun (W' : World) (hk : Keeps (fun k => W.heap.size ≤ k) W W') => hrowK0.out.keeps hk (fun k hG hge => by have := hGvb.out k hG; omega))
  go_region_held3 (fun w' => w'.cell? ⟨vb, 1, none⟩ = some (.int .i64 key.k) ∧ w'.cell? ⟨vb, 2, none⟩ = some (.int .i64 key.n) ∧ w'.cell? ⟨vb, 3, none⟩ = some (.string key.t) ∧ w'.cell? ⟨vb, 4, none⟩ = some (.int .i64 val.k) ∧ w'.cell? ⟨vb, 5, none⟩ = some (.int .i64 val.n) ∧ w'.cell? ⟨vb, 6, none⟩ = some (.string val.t)) (first | exact ⟨x1, x2, x3, x4, x5, x6⟩ | exact boxK.out _ ((Keeps.refl (fun k => W.heap.size ≤ k) W).drewN _) | exact boxK.out _ (((Keeps.refl (fun k => W.heap.size ≤ k) W).drewN _).alloc _) | exact boxK.out _ ((((Keeps.refl (fun k => W.heap.size ≤ k) W).drewN _).alloc _).alloc _) | exact boxK.out _ HK5.out | exact boxK.out _ (HK5.out.alloc _) | exact boxK.out _ HK6.out) (first | (refine app_step rfl (fun k => W.heap.size ≤ k) _ _ _ _ _ _ 6 64 rfl Try.underlying28 info_pair rfl (by decide) _ _ _ rfl HR5.out _ rfl 1 _ (HLV.out.src1 Try.underlying28) (by omega) (by omega) ?_; intro A6 c6 w6 hR6 hK6; have HK6 := hidden (HK5.out.trans hK6 (fun k _ e => HR5.out.2 k e)); have HR6 := hidden (hR6.mono (G := fun k => W.heap.size ≤ k) (fun k _ h => by have := HK5.out.size; (try simp at h); omega)); clear hR6 hK6) | (refine app_step rfl (fun k => W.heap.size ≤ k) _ _ _ _ _ _ 6 64 rfl Try.underlying28 info_pair rfl (by decide) _ _ _ rfl (HR5n.out.alloc _) _ rfl 1 _ (plit w5 (⟨key, val, s + 1, false⟩ : Ent) rfl) (by omega) (by omega) ?_; intro A6 c6 w6 hR6 hK6; have HK6 := hidden ((HK5.out.alloc _).trans hK6 (fun k _ e => HR5n.out.2 k e)); have HR6 := hidden (hR6.mono (G := fun k => W.heap.size ≤ k) (fun k _ h => by have := HK5.out.size; (try simp at h); omega)); clear hR6 hK6) | (refine app_step rfl (fun k => W.heap.size ≤ k) _ _ _ _ _ _ 6 64 rfl Try.underlying28 info_pair rfl (by decide) (.slice (some ⟨W.heap.size, 0, none⟩) 0 0) 0 [] rfl (madeP _ _ _ rfl (Nat.le_refl _)) _ rfl _ (flatP L) ((hrowK.out _ (((Keeps.refl (fun k => W.heap.size ≤ k) W).drewN _).alloc _)).src (flatP_one _) Try.underlying28) (by omega) (by omega) ?_; intro A5 c5 w5 hR5 hK5; have HK5 := hidden ((((Keeps.refl (fun k => W.heap.size ≤ k) W).drewN _).alloc _).trans hK5 (fun k _ e => by simp [Value.ownBlock] at e; omega)); have HR5 := hidden (hR5.mono (G := fun k => W.heap.size ≤ k) (fun k _ h => by (try simp at h); omega)); have hR5n := hR5; rw [Nat.zero_add] at hR5n; have HR5n := hidden (hR5n.mono (G := fun k => W.heap.size ≤ k) (fun k _ h => by (try simp at h); omega)); clear hR5 hK5 hR5n) | (refine app_step rfl (fun k => W.heap.size ≤ k) _ _ _ _ _ _ 6 64 rfl Try.underlying28 info_pair rfl (by decide) (.slice (some ⟨W.heap.size, 0, none⟩) 0 0) 0 [] rfl ((madeP _ _ _ rfl (Nat.le_refl _)).alloc _).drew _ rfl _ (flatP L) ((hrowK.out _ ((((Keeps.refl (fun k => W.heap.size ≤ k) W).drewN _).alloc _).alloc _)).src (flatP_one _) Try.underlying28) (by omega) (by omega) ?_; intro A5 c5 w5 hR5 hK5; have HK5 := hidden (((((Keeps.refl (fun k => W.heap.size ≤ k) W).drewN _).alloc _).alloc _).trans hK5 (fun k _ e => by simp [Value.ownBlock] at e; omega)); have HR5 := hidden (hR5.mono (G := fun k => W.heap.size ≤ k) (fun k _ h => by (try simp at h); omega)); have hR5n := hR5; rw [Nat.zero_add] at hR5n; have HR5n := hidden (hR5n.mono (G := fun k => W.heap.size ≤ k) (fun k _ h => by (try simp at h); omega)); have HLV := hidden (Pairs.keeps (plit_drew (m := W.heap.size + 1) _ (⟨key, val, s + 1, false⟩ : Ent) (by simp)) hK5 (fun b o e h => by (try simp at e); (try simp [Value.ownBlock] at h); omega)); clear hR5 hK5 hR5n) | (refine app_step rfl (fun k => W.heap.size ≤ k) _ _ _ _ _ _ 6 64 rfl Try.underlying28 info_pair rfl (by decide) (.slice (some ⟨W.heap.size + 1, 0, none⟩) 0 0) 0 [] rfl (madeP _ _ _ (by simp) (Nat.le_succ _)).drew _ rfl _ (flatP L) ((hrowK.out _ ((((Keeps.refl (fun k => W.heap.size ≤ k) W).drewN _).alloc _).alloc _)).src (flatP_one _) Try.underlying28) (by omega) (by omega) ?_; intro A5 c5 w5 hR5 hK5; have HK5 := hidden (((((Keeps.refl (fun k => W.heap.size ≤ k) W).drewN _).alloc _).alloc _).trans hK5 (fun k _ e => by simp [Value.ownBlock] at e; omega)); have HR5 := hidden (hR5.mono (G := fun k => W.heap.size ≤ k) (fun k _ h => by (try simp at h); omega)); have hR5n := hR5; rw [Nat.zero_add] at hR5n; have HR5n := hidden (hR5n.mono (G := fun k => W.heap.size ≤ k) (fun k _ h => by (try simp at h); omega)); have HLV := hidden (Pairs.keeps (plit_drew2 (m := W.heap.size) _ (⟨key, val, s + 1, false⟩ : Ent) _ (by simp)) hK5 (fun b o e h => by (try simp at e); (try simp [Value.ownBlock] at h); omega)); clear hR5 hK5 hR5n))
  all_goals
    go_wp2_with fail
    have hr6 := HR6.out
    simp only [Nat.zero_add, List.nil_append] at hr6
    exact fin.out _ _ _ _ _ hr6 (by first | rfl | simp) (by omega) HK6.out
set_option maxHeartbeats 8000000 in
theorem do_del_there (w : World) (F G : Nat → Prop) (b : Nat) (A : Option Addr) (c : Nat) (L : List Ent) (s : Int) (key val : V) (h : TM w F G b A c L s) (hs : s < 1073741823) (hll : L.length < 1048576) (hkl : key.t.size ≤ 140737488351232) (q : Nat) (hq : q < L.length) (hkey : L[q].key = key) :
    Calls Try.prog 13 #[.pointer (some ⟨b, 0, none⟩), .slice A L.length c, .agg #[.int .i64 2, .int .i64 key.k, .int .i64 key.n, .string key.t, .int .i64 val.k, .int .i64 val.n, .string val.t]] w fun e w' => ∃ A' c' F' G', e = .returned (.tuple #[.slice A' ((delL L key)).length c', .bool true]) ∧ TM w' F' G' b A' c' ((delL L key)) (s) ∧ Keeps F w w' ∧ Fresh F F' w ∧ Fresh G G' w := by
  have hlok := h.tab.lok
  have H := hidden h
  have hKD := hidden hlok.kne
  have HB := hidden (show Keeps (fun _ => False) w (w.alloc (.cells #[.int .i64 2, .int .i64 key.k, .int .i64 key.n, .string key.t, .int .i64 val.k, .int .i64 val.n, .string val.t] 32)) from (Keeps.refl _ w).alloc _)
  have BX := hidden (blk_new w (.cells #[.int .i64 2, .int .i64 key.k, .int .i64 key.n, .string key.t, .int .i64 val.k, .int .i64 val.n, .string val.t] 32))
  have hcap := h.row.cap
  have HMA := hidden (fun (W : World) (hk : Keeps (fun _ => False) w W) => model_at W A c L key ((Pairs.own H.out.row.1).calm hk) (by omega))
  unfold V.val at HMA
  clear h hlok
  refine post_gen fun R hR => ?_
  have HAT := hidden (show atT L key = q from hkey ▸ atT_some hKD.out hq)
  have HMEM := hidden (show L[q] ∈ L from List.getElem_mem hq)
  have HKEY := hidden hkey
  have NBX := hidden (show ¬ F w.heap.size from fun h => by have := H.out.tab.inw _ h; omega)
  have HC := hidden (fun (W : World) (hk : Keeps (fun _ => False) w W) => hkey ▸ t_Delete_some (H.out.tab.none hk) (by omega) HMEM.out)
  unfold V.val at HC
  clear hkey
  go_enter Try.func13, Try.ntmps13
  go_wp2_with (first | (go_at_call 15; refine (HMA.out _ HB.out).mono ?_; rintro e w1 ⟨rfl, hK1⟩; have HK1 := hidden (HB.out.trans hK1 (fun _ _ h => h)); have BX1 := hidden (hK1.heap BX.out (fun h => h)); clear hK1; rw [HAT.out]; have x0 := blk_cell BX1.out 0; have x1 := blk_cell BX1.out 1; have x2 := blk_cell BX1.out 2; have x3 := blk_cell BX1.out 3; have x4 := blk_cell BX1.out 4; have x5 := blk_cell BX1.out 5; have x6 := blk_cell BX1.out 6; simp only [List.getElem?_toArray, List.getElem?_cons_zero, List.getElem?_cons_succ] at x0 x1 x2 x3 x4 x5 x6; have hbx := blk_lt BX1.out) | (go_at_call 54; refine (HC.out _ HK1.out).mono ?_; rintro e w2 ⟨rfl, hT, hK2⟩; have HT2 := hidden hT; have HK2 := hidden ((HK1.out.mono (fun _ _ h => h.elim)).trans hK2 (fun _ _ h => h)); have BX2 := hidden (hK2.heap BX1.out (fun h => NBX.out h)); clear hT hK2 x0 x1 x2 x3 x4 x5 x6 hbx; have x0 := blk_cell BX2.out 0; have x1 := blk_cell BX2.out 1; have x2 := blk_cell BX2.out 2; have x3 := blk_cell BX2.out 3; have x4 := blk_cell BX2.out 4; have x5 := blk_cell BX2.out 5; have x6 := blk_cell BX2.out 6; simp only [List.getElem?_toArray, List.getElem?_cons_zero, List.getElem?_cons_succ] at x0 x1 x2 x3 x4 x5 x6; have hbx := blk_lt BX2.out))
  have HLW := hidden (show w.heap.size < w2.heap.size from blk_lt BX2.out)
  have HV := hidden (IsVar.new w2 L[q].val)
  have HKA := hidden (show Keeps (fun _ => False) w2 (w2.alloc (.cells #[.int .i64 L[q].val.k, .int .i64 L[q].val.n, .string L[q].val.t] 30)) from (Keeps.refl _ w2).alloc _)
  have hrow := (H.out.row.keeps HK2.out H.out.ap.symm).keeps HKA.out (Apart.no _)
  have HROW := hidden hrow
  have HDE := hidden (show delL L key = L.eraseIdx q from HKEY.out ▸ delL_erase hKD.out hq)
  have hsz : (w2.alloc (.cells #[.int .i64 L[q].val.k, .int .i64 L[q].val.n, .string L[q].val.t] 30)).heap.size = w2.heap.size + 1 := by simp
  have hGs : In G w2 := fun k h => Nat.lt_of_lt_of_le (H.out.inG k h) HK2.out.size
  obtain ⟨g, rfl, hGg, hgs, hp, -⟩ := hrow.open6 hq
  obtain ⟨-, -, -, p3, p4, p5⟩ := hp
  simp only [Nat.zero_add] at p3 p4 p5
  have hgw := hGs g hGg
  generalize hW : w2.alloc (.cells #[.int .i64 L[q].val.k, .int .i64 L[q].val.n, .string L[q].val.t] 30) = W at *
  have HVW := hidden (show IsVar W w2.heap.size L[q].val from HV.out)
  obtain ⟨v0, v1, v2, -⟩ := HVW.out.cells
  have hvz := blk_lt HVW.out
  have HWC := hidden (fun (W' : World) (hk : Keeps (fun _ => False) W W') => model_without W' G (some ⟨g, 0, none⟩) c L q (HROW.out.keeps hk (Apart.no _)) hq (by omega) (fun k h => by have := hGs k h; have := hk.size; omega))
  have cellsK := hidden (show ∀ W', Keeps (fun _ => False) W W' → (W'.cell? ⟨w2.heap.size, 0, none⟩ = some (.int .i64 L[q].val.k) ∧ W'.cell? ⟨w2.heap.size, 1, none⟩ = some (.int .i64 L[q].val.n) ∧ W'.cell? ⟨w2.heap.size, 2, none⟩ = some (.string L[q].val.t) ∧ W'.cell? ⟨g, q * 6 + 3, none⟩ = some (.int .i64 L[q].val.k) ∧ W'.cell? ⟨g, q * 6 + 4, none⟩ = some (.int .i64 L[q].val.n) ∧ W'.cell? ⟨g, q * 6 + 5, none⟩ = some (.string L[q].val.t)) from fun W' hk => ⟨hk.cell v0 (fun h => h), hk.cell v1 (fun h => h), hk.cell v2 (fun h => h), hk.cell p3 (fun h => h), hk.cell p4 (fun h => h), hk.cell p5 (fun h => h)⟩)
  clear HC HMA BX BX1 BX2 x0 x1 x2 x3 x4 x5 x6 hbx hsz hrow HV hGs hGg
  have hqi : (q : Int) < (L.length : Int) := by omega
  have HKE := hidden hKD.out
  generalize L[q] = x at *
  obtain ⟨xkey, ⟨vk, vn, vt⟩, xs, xg⟩ := x
  simp only at *
  go_region_held3 (fun w' => w'.cell? ⟨w2.heap.size, 0, none⟩ = some (.int .i64 vk) ∧ w'.cell? ⟨w2.heap.size, 1, none⟩ = some (.int .i64 vn) ∧ w'.cell? ⟨w2.heap.size, 2, none⟩ = some (.string vt) ∧ w'.cell? ⟨g, q * 6 + 3, none⟩ = some (.int .i64 vk) ∧ w'.cell? ⟨g, q * 6 + 4, none⟩ = some (.int .i64 vn) ∧ w'.cell? ⟨g, q * 6 + 5, none⟩ = some (.string vt)) (first | exact cellsK.out _ (Keeps.refl _ _) | exact cellsK.out _ ((Keeps.refl _ W).drewN _) | exact cellsK.out _ HK5.out) ((go_at_call 64; refine (HWC.out _ ((Keeps.refl _ W).drewN _)).mono ?_; rintro e w5 ⟨A5, c5, G5, rfl, hR5, hI5, hK5, hF5⟩; have HK5 := hidden (((Keeps.refl (fun _ => False) W).drewN _).trans hK5 (fun _ _ h => h)); have HR5 := hidden hR5; have HF5 := hidden hF5; clear hR5 hI5 hK5 hF5))
  all_goals
    go_wp2_with fail
    have hr := HR5.out
    rw [← HDE.out] at hr
    obtain ⟨G2, h1, h2⟩ := H.out.next HT2.out HK2.out (Fresh.refl _ _) (HKA.out.trans HK5.out (fun _ _ h => h)) rfl hr (fun k h => (HF5.out k h).elim (fun h => h.elim) (fun h => by have := HKA.out.size; simp at h; omega))
    exact hR.out _ _ ⟨A5, c5, F, G2, by rw [HDE.out]; rfl, h1, h2⟩
end Go.Proofs.Ytpaefeknbpfpmaa
