/- Texts that belong together: Walk MetaC MetaD MetaE MetaF MetaG. -/
import Derived.Test.YtmefdniocgcckaaGrpE
import Derived.Deep.RegionHeld3
import Derived.Test.YtmefdniocgcckaaGrpG
import Derived.Test.YtmefdniocgcckaaZSameV
set_option linter.unusedSimpArgs false
set_option linter.unusedVariables false
/- Words for walks that tools/wl.py prints. -/
namespace Go.Proofs.Ytmefdniocgcckaa
open Go.RowKit
set_option maxRecDepth 100000

theorem set_old {H : Hp} {i j : Nat} {x : Option (Nat × Cl)} {y : Nat × Cl} (hj : H[j]? = some (some y)) (hne : j ≠ i) : (H.set i x)[j]? = some (some y) := by rw [List.getElem?_set_ne (Ne.symm hne)]; exact hj
theorem set_self {H : Hp} {i : Nat} {x : Nat × Cl} {y : Option (Nat × Cl)} (hj : H[i]? = some y) : (H.set i (some x))[i]? = some (some x) := List.getElem?_set_self (List.getElem?_eq_some_iff.1 hj).1
theorem Hd.turn2 {w wr wj : World} {hb : Nat} {F F' : Nat → Prop} {H : Hp} {s : HSt} {i p : Nat} {c : Cl} {x : Nat × Cl} (h : Hd w hb F H s wr) (hi : H[i]? = some (some (p, c))) (hh : IsHeap wj F' hb (H.set i (some x)) s) (hk : Keeps F wr wj) (hf : Fresh F F' wr) : Hd w hb F' (H.set i (some x)) s wj :=
  ⟨hh, h.ok.turn hi _, fun k hk' => (hf k hk').elim (h.hF k) (fun h1 => Nat.le_trans h.K.size h1), h.K.trans hk (fun k _ h1 => h.hF k h1)⟩
theorem Hd.beyond {w wr wj : World} {hb : Nat} {F : Nat → Prop} {H : Hp} {s : HSt} (h : Hd w hb F H s wr) (hk : Keeps (fun k => wr.heap.size ≤ k) wr wj) : Hd w hb F H s wj :=
  h.other hk (fun k h1 h2 => by have := h.heap.inw k h1; omega) (fun k h1 => Nat.le_trans h.K.size h1)
theorem Vr.beyond {F : Nat → Prop} {w w1 : World} {v : Nat} {x : V} (h : Vr F w v x) (hk : Keeps (fun k => w.heap.size ≤ k) w w1) : Vr F w1 v x := ⟨h.var.keeps hk (fun h1 => Nat.lt_irrefl _ (Nat.lt_of_lt_of_le (blk_lt h.var) h1)), h.off⟩
theorem IsVar.al {w : World} {r : Nat} {v : V} (h : IsVar w r v) (o : Obj) : IsVar (w.alloc o) r v := blk_alloc h o
theorem IsVar.far {w : World} {r s : Nat} {v : V} (h : IsVar w r v) (hn : r ≠ s) (x y z : Value) : IsVar (((w.setCell ⟨s, 0, none⟩ x).setCell ⟨s, 1, none⟩ y).setCell ⟨s, 2, none⟩ z) r v := h.keeps ((Keeps.refl (fun k => k = s) w).var (r := s) (fun _ => rfl) x y z) hn
theorem newvar_at {r : Nat} (w : World) (v : V) (h : w.heap.size = r) : IsVar (w.alloc (.cells #[.int .i64 v.k, .int .i64 v.n, .string v.t] 29)) r v := h ▸ IsVar.new w v
theorem merge0 {M : Prop} (PP : World → Prop) (main : (∀ w, PP w) → M) (tail : ∀ w, PP w) : M := main tail
theorem merge1 {M : Prop} (PP : Nat → World → Prop) (main : (∀ a w, PP a w) → M) (tail : ∀ a w, PP a w) : M := main tail
theorem merge2 {M : Prop} (PP : Nat → Nat → World → Prop) (main : (∀ a b w, PP a b w) → M) (tail : ∀ a b w, PP a b w) : M := main tail
theorem merge3 {M : Prop} (PP : Nat → Nat → Nat → World → Prop) (main : (∀ a b c w, PP a b c w) → M) (tail : ∀ a b c w, PP a b c w) : M := main tail
/-- A cell with nothing in it but its kind. -/
def kindCl (kind : Int) : Cl := ⟨kind, [], none, none, [], ⟨#[]⟩⟩
theorem heap_Alloc_kind {w wr : World} {hb : Nat} {F : Nat → Prop} {H : Hp} {s : HSt} (kind : Int) (hk : 1 ≤ kind ∧ kind < 11) (h : Hd w hb F H s wr) (hf : s.live < s.limit) :
    Calls Try.prog 10 #[.pointer (some ⟨hb, 0, none⟩), .agg #[.int .i64 kind, .slice none 0 0, .pointer none, .pointer none, .slice none 0 0, .string ⟨#[]⟩]] wr fun e w' => ∃ f p F' H' s', e = .returned (.tuple #[.int .i64 (f : Nat), .int .i64 0]) ∧ Made wr w' F (fun _ => False) hb H s (kindCl kind) f p F' H' s' := by
  refine (heap_Alloc_made (c := kindCl kind) (Av := none) (An := none) (lp := none) (tp := none) (cv := 0) (cn := 0) (Fl := fun _ => False) (Ft := fun _ => False) h.heap h.ok ⟨fun i x h => by simp [kindCl] at h, fun _ => rfl, fun i x h => by simp [kindCl] at h, fun _ => rfl, rfl, rfl, Apart.no _, Apart.no _, Apart.no _, fun _ h => h.elim, fun _ h => h.elim, ⟨by simp [kindCl], by simp [kindCl], fun b' ys e => by simp [kindCl] at e, fun b' L s e => by simp [kindCl] at e⟩⟩ hk hf).mono ?_
  rintro e w' ⟨i, p, F', H', s', rfl, hM⟩
  exact ⟨i, p, F', H', s', rfl, hM.heap, hM.ok, hM.new, hM.live, hM.limit, hM.freed, hM.runs, hM.lt, hM.keeps, fun k hk => (hM.fresh k hk).imp (fun h => h.imp id (fun h => h.elim id id)) id⟩
end Go.Proofs.Ytmefdniocgcckaa
/- Layer 18: meta: Find by what is said of it; of what has nothing to ask. -/
namespace Go.Proofs.Ytmefdniocgcckaa
open Go.RowKit
set_option maxRecDepth 100000

section
variable {w : World} {F : Nat → Prop} {hb : Nat} {H : List (Option (Nat × Cl))} {s : HSt} {i p : Nat} {c : Cl}
theorem methB_kind {f pf : Nat} (h : H[f]? = some (some (pf, kindCl 5))) : methB H ⟨4, (f : Nat), ⟨#[]⟩⟩ = true := by
  unfold methB
  rw [ofR_ok h _ (kind := 5) (.inr rfl)]; rfl
/-- Of a table: what its delegate has, if that can be called. -/
theorem meta_Find_tableF (h : IsHeap w F hb H s) (hi : H[i]? = some (some (p, c))) (hk : c.kind = 2) {j q : Nat} {cd : Cl} {bs : List V} (hv : c.vals = ⟨4, (j : Nat), ⟨#[]⟩⟩ :: bs) {ls : List (List Ent)} (hj : H[j]? = some (some (q, cd))) (hkj : cd.kind = 2) (hd : Dels H (rV (j : Nat)) ls) (hl : ls.length ≤ 1048576) (name : ByteArray) (hnz : name.size ≤ 140737488351232)
    {f pf : Nat} (hR : tabR ls ⟨3, 0, name⟩ = (⟨4, (f : Nat), ⟨#[]⟩⟩, 0)) (hf : H[f]? = some (some (pf, kindCl 5))) :
    Calls Try.prog 20 #[.pointer (some ⟨hb, 0, none⟩), V.val ⟨4, i, ⟨#[]⟩⟩, .string name] w fun e w' => e = .returned (.tuple #[V.val ⟨4, (f : Nat), ⟨#[]⟩⟩, .bool true]) ∧ Keeps (fun _ => False) w w' := by
  refine (meta_Find_table h hi hk hv hj hkj hd hl name hnz).mono ?_
  rintro e w' ⟨rfl, hK⟩
  rw [hR]
  simp only [methB_kind hf]
  exact ⟨rfl, hK⟩
set_option maxHeartbeats 8000000 in
/-- Of what hands on to nothing and is of no class. -/
theorem meta_Find_none (v : V) (d : V) (ed : Int) (hed : ed ≠ 0 ∨ d.k = 0) (hD : ∀ W, Keeps (fun _ => False) w W → Calls Try.prog 35 #[.pointer (some ⟨hb, 0, none⟩), v.val] W fun e w' => e = .returned (.tuple #[d.val, .int .i64 ed]) ∧ Keeps (fun _ => False) W w')
    (hO : ∀ W, Keeps (fun _ => False) w W → Calls Try.prog 41 #[.pointer (some ⟨hb, 0, none⟩), v.val] W fun e w' => e = .returned (V.val V.null) ∧ Keeps (fun _ => False) W w') (name : ByteArray) :
    Calls Try.prog 20 #[.pointer (some ⟨hb, 0, none⟩), v.val, .string name] w fun e w' => e = .returned (.tuple #[V.val V.null, .bool false]) ∧ Keeps (fun _ => False) w w' := by
  have CD := hidden hD
  have CO := hidden hO
  clear hD hO
  obtain ⟨vk, vn, vt⟩ := v
  obtain ⟨dk, dn, dt⟩ := d
  unfold V.val at CD CO
  unfold V.null at CO
  simp only at hed
  refine post_gen fun R hR => ?_
  unfold V.val
  go_enter Try.func20, Try.ntmps20
  go_wp2_with fail
  have I0 := hidden (blk_alloc (blk_alloc (blk_new w (.cells #[.int .i64 vk, .int .i64 vn, .string vt] 29)) (.cells #[.int .i64 0, .int .i64 0, .string ⟨#[]⟩] 29)) (.cells #[.int .i64 0, .int .i64 0, .string ⟨#[]⟩] 29))
  have I1 := hidden (new3 w (.cells #[.int .i64 vk, .int .i64 vn, .string vt] 29) (.cells #[.int .i64 0, .int .i64 0, .string ⟨#[]⟩] 29) (.cells #[.int .i64 0, .int .i64 0, .string ⟨#[]⟩] 29))
  have I2 := hidden (new3b w (.cells #[.int .i64 vk, .int .i64 vn, .string vt] 29) (.cells #[.int .i64 0, .int .i64 0, .string ⟨#[]⟩] 29) (.cells #[.int .i64 0, .int .i64 0, .string ⟨#[]⟩] 29))
  refine (CD.out _ (by repeat with_reducible (first | exact Keeps.refl _ _ | refine Keeps.alloc ?_ _))).mono ?_
  rintro e w1 ⟨rfl, hK⟩
  have HM1 := hidden (((((Keeps.refl (fun _ => False) w).alloc _).alloc _).alloc _).trans hK (fun _ _ h => h))
  have V0 := hidden (show IsVar w1 w.heap.size ⟨vk, vn, vt⟩ from hK.heap I0.out (fun h => h))
  have V1 := hidden (show IsVar w1 (w.heap.size + 1) V.null from hK.heap I1.out (fun h => h))
  have V2 := hidden (show IsVar w1 (w.heap.size + 2) V.null from hK.heap I2.out (fun h => h))
  clear hK CD I0 I1 I2
  obtain ⟨a0, a1, a2, -⟩ := V0.out.cells
  have haz := blk_lt V0.out
  simp only at a0 a1 a2
  have hgo : (ed == 0) = false ∨ ed = 0 ∧ dk = 0 := by
    by_cases h : ed = 0
    · exact .inr ⟨h, hed.elim (fun h1 => absurd h h1) id⟩
    · exact .inl (by simpa using h)
  clear hed
  rcases hgo with h1 | ⟨rfl, rfl⟩
  all_goals
    go_wp2_with fail
    refine (CO.out _ (HM1.out.alloc _)).mono ?_
    rintro e w2 ⟨rfl, hK⟩
    have k2 := (((Keeps.refl (fun _ => False) w1).alloc _).trans hK (fun _ _ h => h)).alloc (.cells #[.int .i64 0, .int .i64 0, .string ⟨#[]⟩] 29)
    have HM3 := hidden (HM1.out.trans k2 (fun _ _ h => h))
    have R3 := hidden (V1.out.keeps k2 (fun h => h))
    have X3 := hidden (V2.out.keeps k2 (fun h => h))
    clear hK k2 CO a0 a1 a2 haz V0
    go_wp2_with fail
    generalize w2.alloc (.cells #[.int .i64 0, .int .i64 0, .string ⟨#[]⟩] 29) = w3 at *
    have SK := hidden (fun (W : World) (hk' : Keeps (fun _ => False) w3 W) => show W.cell? ⟨w.heap.size + 2, 0, none⟩ = some (.int .i64 0) ∧ W.cell? ⟨w.heap.size + 2, 1, none⟩ = some (.int .i64 0) ∧ W.cell? ⟨w.heap.size + 2, 2, none⟩ = some (.string ⟨#[]⟩) from (have b := (X3.out.keeps hk' (fun h => h)).cells; ⟨b.1, b.2.1, b.2.2.1⟩))
    obtain ⟨v0, v1, v2, v3, v4, v5⟩ := R3.out.cells
    have hvz := blk_lt R3.out
    simp only [V.null] at v0 v1 v2
    refine wp_region_noPanic ?_
    refine wp_region_held_drew (S := (fun W => W.cell? ⟨w.heap.size + 2, 0, none⟩ = some (.int .i64 0) ∧ W.cell? ⟨w.heap.size + 2, 1, none⟩ = some (.int .i64 0) ∧ W.cell? ⟨w.heap.size + 2, 2, none⟩ = some (.string ⟨#[]⟩))) (by kernel_rfl) ?_ (fun hHeld => ?_)
    · ((try dsimp only); (first | ((refine SK.out _ ?_); (repeat with_reducible (first | exact Keeps.refl _ _ | refine Keeps.drewN ?_ _ | refine Keeps.drew ?_)); done) | exact (have s := SK.out _ ((Keeps.refl _ w3).drewN 1); have kv := (Keeps.refl (fun k => k = w.heap.size + 1) (w3.drewN 1)).var (r := w.heap.size + 1) (fun _ => rfl) (.int .i64 0) (.int .i64 0) (.string ⟨#[]⟩); ⟨kv.cell s.1 (by simp), kv.cell s.2.1 (by simp), kv.cell s.2.2 (by simp)⟩)))
    refine wpAnyH_take (i := 0) (oi := ⟨_, _, _, _, _, _⟩) (v := ?_) rfl (by kernel_rfl) (by kernel_rfl) (by kernel_rfl) (fun _ _ _ h => h) (Or.inl ⟨by rfl, ?_⟩) hHeld ?_
    rotate_left
    · (intro w' hSw; (try dsimp only at hSw); go_simp; (try with_reducible rfl))
    try simp only [Act.put, List.setIfInBounds_toArray, List.set_cons_zero, List.set_cons_succ]
    refine wpAnyH_take (i := 1) (oi := ⟨_, _, _, _, _, _⟩) (v := ?_) rfl (by kernel_rfl) (by kernel_rfl) (by kernel_rfl) (fun _ _ _ h => h) (Or.inl ⟨by rfl, ?_⟩) hHeld ?_
    rotate_left
    · (intro w' hSw; (try dsimp only at hSw); go_simp; (try with_reducible rfl))
    try simp only [Act.put, List.setIfInBounds_toArray, List.set_cons_zero, List.set_cons_succ]
    refine wpAnyH_take (i := 2) (oi := ⟨_, _, _, _, _, _⟩) (v := ?_) rfl (by kernel_rfl) (by kernel_rfl) (by kernel_rfl) (fun _ _ _ h => h) (Or.inl ⟨by rfl, ?_⟩) hHeld ?_
    rotate_left
    · (intro w' hSw; (try dsimp only at hSw); go_simp; (try with_reducible rfl))
    try simp only [Act.put, List.setIfInBounds_toArray, List.set_cons_zero, List.set_cons_succ]
    refine wpAnyH_take (i := 3) (oi := ⟨_, _, _, _, _, _⟩) (v := ?_) rfl (by kernel_rfl) (by kernel_rfl) (by kernel_rfl) (fun _ _ _ h => h) (Or.inl ⟨by rfl, ?_⟩) hHeld ?_
    rotate_left
    · (intro w' hSw; (try dsimp only at hSw); go_simp; (try with_reducible rfl))
    try simp only [Act.put, List.setIfInBounds_toArray, List.set_cons_zero, List.set_cons_succ]
    refine wpAnyH_take (i := 4) (oi := ⟨_, _, _, _, _, _⟩) (v := undef) rfl (by kernel_rfl) (by kernel_rfl) (by kernel_rfl) (fun _ _ _ h => h) (Or.inr ⟨by rfl, rfl⟩) hHeld ?_
    try simp only [Act.put, List.setIfInBounds_toArray, List.set_cons_zero, List.set_cons_succ]
    refine wpAnyH_take (i := 5) (oi := ⟨_, _, _, _, _, _⟩) (v := undef) rfl (by kernel_rfl) (by kernel_rfl) (by kernel_rfl) (fun _ _ _ h => h) (Or.inr ⟨by rfl, rfl⟩) hHeld ?_
    try simp only [Act.put, List.setIfInBounds_toArray, List.set_cons_zero, List.set_cons_succ]
    refine wpAnyH_take (i := 6) (oi := ⟨_, _, _, _, _, _⟩) (v := undef) rfl (by kernel_rfl) (by kernel_rfl) (by kernel_rfl) (fun _ _ _ h => h) (Or.inr ⟨by rfl, rfl⟩) hHeld ?_
    try simp only [Act.put, List.setIfInBounds_toArray, List.set_cons_zero, List.set_cons_succ]
    refine wpAnyH_take (i := 7) (oi := ⟨_, _, _, _, _, _⟩) (v := ?_) rfl (by kernel_rfl) (by kernel_rfl) (by kernel_rfl) (fun _ _ _ h => h) (Or.inl ⟨by rfl, ?_⟩) hHeld ?_
    rotate_left
    · (intro w' hSw; (try dsimp only at hSw); go_simp; (try with_reducible rfl))
    try simp only [Act.put, List.setIfInBounds_toArray, List.set_cons_zero, List.set_cons_succ]
    refine wpAnyH_ready (rs := [8]) (by kernel_rfl) (by simp) ?_
    refine AllReadyH.cons (o := ⟨_, _, _, _, _, _⟩) rfl (fun K hK => ?_) AllReadyH.nil
    go_simp
    refine hK.out _ _ ?_ (fun hH2 => ?_)
    · ((try dsimp only); (first | ((refine SK.out _ ?_); (repeat with_reducible (first | exact Keeps.refl _ _ | refine Keeps.drewN ?_ _ | refine Keeps.drew ?_)); done) | exact (have s := SK.out _ ((Keeps.refl _ w3).drewN 1); have kv := (Keeps.refl (fun k => k = w.heap.size + 1) (w3.drewN 1)).var (r := w.heap.size + 1) (fun _ => rfl) (.int .i64 0) (.int .i64 0) (.string ⟨#[]⟩); ⟨kv.cell s.1 (by simp), kv.cell s.2.1 (by simp), kv.cell s.2.2 (by simp)⟩)))
    clear hK K hHeld
    have hHeld := hH2
    clear hH2
    try simp only [Act.put, List.setIfInBounds_toArray, List.set_cons_zero, List.set_cons_succ]
    refine wpAnyH_take (i := 9) (oi := ⟨_, _, _, _, _, _⟩) (v := ?_) rfl (by kernel_rfl) (by kernel_rfl) (by kernel_rfl) (fun _ _ _ h => h) (Or.inl ⟨by rfl, ?_⟩) hHeld ?_
    rotate_left
    · (intro w' hSw; (try dsimp only at hSw); go_simp; (try with_reducible rfl))
    try simp only [Act.put, List.setIfInBounds_toArray, List.set_cons_zero, List.set_cons_succ]
    refine wpAnyH_done (by kernel_rfl) ?_ _
    refine NoPanic.normal ?_
    clear hHeld
    go_wp2_with fail
    obtain ⟨d0, d1, d2, _⟩ := ((R3.out.set V.null).keeps ((Keeps.refl (fun _ => False) _).drew) (fun h => h)).cells
    simp only [V.null] at d0 d1 d2
    exact bodyPost_ret (v := .tuple #[V.val V.null, .bool false]) (by simp [results, Try.results20, go_sem, d0, d1, d2, V.val, V.null]) rfl (hR.out _ _ ⟨rfl, (HM3.out.var (r := w.heap.size + 1) (fun h => by omega) _ _ _).drew⟩)
end
end Go.Proofs.Ytmefdniocgcckaa
/- Layer 18: meta: Operator, Arith, Order. -/
namespace Go.Proofs.Ytmefdniocgcckaa
open Go.RowKit
set_option maxRecDepth 100000

/-- The name by which an operator is asked for. -/
def opName (op : Int) : ByteArray := if op = 10 then ⟨#[95, 97, 100, 100]⟩ else if op = 0 then ⟨#[95, 115, 117, 98]⟩ else if op = 1 then ⟨#[95, 109, 117, 108]⟩ else if op = 2 then ⟨#[95, 100, 105, 118]⟩ else if op = 3 then ⟨#[95, 109, 111, 100, 117, 108, 111]⟩ else ⟨#[]⟩
theorem opName_size (op : Int) : (opName op).size ≤ 140737488351232 := by
  unfold opName
  repeat' split
  all_goals decide
theorem meta_Operator (w : World) (op : Int) : Calls Try.prog 22 #[.int .i64 op] w fun r w' => r = .returned (.string (opName op)) ∧ w = w' := by
  refine post_gen fun R hR => ?_
  unfold opName at hR
  go_enter Try.func22, Try.ntmps22
  go_wp2
  all_goals
    refine hR.out _ _ ⟨show Ending.returned (.string _) = .returned (.string _) from ret_str ?_, rfl⟩
    clear hR
    simp_all
theorem four (w : World) (a b : V) : ∃ w0, w0 = (((w.alloc (.cells #[.int .i64 a.k, .int .i64 a.n, .string a.t] 29)).alloc (.cells #[.int .i64 b.k, .int .i64 b.n, .string b.t] 29)).alloc (.cells #[.int .i64 0, .int .i64 0, .string ⟨#[]⟩] 29)).alloc (.cells #[.int .i64 0, .int .i64 0, .string ⟨#[]⟩] 29) ∧
    IsVar w0 w.heap.size a ∧ IsVar w0 (w.heap.size + 1) b ∧ IsVar w0 (w.heap.size + 2) V.null ∧ IsVar w0 (w.heap.size + 3) V.null ∧ Keeps (fun _ => False) w w0 ∧ w0.heap.size = w.heap.size + 4 := by
  refine ⟨_, rfl, ?_, ?_, ?_, ?_, ?_, by simp⟩
  · exact (((newvar_at _ a rfl).al _).al _).al _
  · exact ((newvar_at _ b (by simp)).al _).al _
  · exact (newvar_at _ V.null (by simp)).al _
  · exact newvar_at _ V.null (by simp)
  · repeat (first | exact Keeps.refl _ _ | refine Keeps.alloc ?_ _)
theorem three (w : World) (a b : V) : ∃ w0, w0 = ((w.alloc (.cells #[.int .i64 a.k, .int .i64 a.n, .string a.t] 29)).alloc (.cells #[.int .i64 b.k, .int .i64 b.n, .string b.t] 29)).alloc (.cells #[.int .i64 0, .int .i64 0, .string ⟨#[]⟩] 29) ∧
    IsVar w0 w.heap.size a ∧ IsVar w0 (w.heap.size + 1) b ∧ IsVar w0 (w.heap.size + 2) V.null ∧ Keeps (fun _ => False) w w0 ∧ w0.heap.size = w.heap.size + 3 := by
  refine ⟨_, rfl, ?_, ?_, ?_, ?_, by simp⟩
  · exact ((newvar_at _ a rfl).al _).al _
  · exact (newvar_at _ b (by simp)).al _
  · exact newvar_at _ V.null (by simp)
  · repeat (first | exact Keeps.refl _ _ | refine Keeps.alloc ?_ _)
section
variable {w : World} {hb : Nat}

theorem Keeps.new {S : Nat → Prop} {a b : World} (h : Keeps S a b) (hs : ∀ k, S k → k < a.heap.size → False) : Keeps (fun _ => False) a b := h.mono (fun k h1 h2 => hs k h2 h1)
theorem IsVar.far2 {w : World} {r s : Nat} {v : V} (h : IsVar w r v) (hn : r ≠ s) (x y z : Value) : IsVar (((w.setCell ⟨s, 0, none⟩ x).setCell ⟨s, 1, none⟩ y).setCell ⟨s, 2, none⟩ z) r v := h.far hn x y z

set_option maxHeartbeats 8000000 in
theorem meta_Arith_ask (op an : Int) (at' : ByteArray) (bk bn : Int) (bt : ByteArray) (xk xn : Int) (xt : ByteArray) (hn : (opName op).toList.isEmpty = false) (hF : ∀ W, Keeps (fun _ => False) w W → Calls Try.prog 20 #[.pointer (some ⟨hb, 0, none⟩), V.val ⟨4, an, at'⟩, .string (opName op)] W fun e w' => e = .returned (.tuple #[V.val ⟨xk, xn, xt⟩, .bool true]) ∧ Keeps (fun _ => False) W w') :
    Calls Try.prog 23 #[.pointer (some ⟨hb, 0, none⟩), .int .i64 op, V.val ⟨4, an, at'⟩, V.val ⟨bk, bn, bt⟩] w fun e w' => e = .returned (.tuple #[V.val ⟨0, 0, ⟨#[]⟩⟩, V.val ⟨xk, xn, xt⟩, .int .i64 0]) ∧ Keeps (fun _ => False) w w' := by
  have CF := hidden hF
  clear hF
  unfold V.val at CF
  have CN := hidden (fun (W : World) => value_Null W)
  unfold V.val V.null at CN
  obtain ⟨w0, hw0, h0, h1, h2, h3, hK0, hs0⟩ := four w ⟨4, an, at'⟩ ⟨bk, bn, bt⟩
  have VA := hidden h0
  have VB := hidden h1
  have R1 := hidden h2
  have R2 := hidden h3
  have K0 := hidden hK0
  have S0 := hidden hs0
  clear h0 h1 h2 h3 hK0 hs0
  refine post_gen fun R hR => ?_
  unfold V.val
  go_enter Try.func23, Try.ntmps23
  go_wp2_with fail
  rw [← hw0]
  clear hw0
  have SK := hidden (fun (W : World) (hk : Keeps (fun k => w0.heap.size ≤ k) w0 W) => show W.cell? ⟨w.heap.size, 0, none⟩ = some (.int .i64 4) ∧ W.cell? ⟨w.heap.size, 1, none⟩ = some (.int .i64 an) ∧ W.cell? ⟨w.heap.size, 2, none⟩ = some (.string at') from (have b := (VA.out.keeps hk (fun h => by have := blk_lt VA.out; omega)).cells; ⟨b.1, b.2.1, b.2.2.1⟩))
  refine wp_region_noPanic ?_
  refine wp_region_held_drew (S := (fun W => W.cell? ⟨w.heap.size, 0, none⟩ = some (.int .i64 4) ∧ W.cell? ⟨w.heap.size, 1, none⟩ = some (.int .i64 an) ∧ W.cell? ⟨w.heap.size, 2, none⟩ = some (.string at'))) (by kernel_rfl) ?_ (fun hHeld => ?_)
  · ((try dsimp only); exact SK.out _ ((Keeps.refl _ w0).drew))
  refine wpAnyH_take (i := 0) (oi := ⟨_, _, _, _, _, _⟩) (v := ?_) rfl (by kernel_rfl) (by kernel_rfl) (by kernel_rfl) (fun _ _ _ h => h) (Or.inl ⟨by rfl, ?_⟩) hHeld ?_
  rotate_left
  · (intro w' hSw; (try dsimp only at hSw); go_simp; (try with_reducible rfl))
  try simp only [Act.put, List.setIfInBounds_toArray, List.set_cons_zero, List.set_cons_succ]
  refine wpAnyH_take (i := 1) (oi := ⟨_, _, _, _, _, _⟩) (v := ?_) rfl (by kernel_rfl) (by kernel_rfl) (by kernel_rfl) (fun _ _ _ h => h) (Or.inl ⟨by rfl, ?_⟩) hHeld ?_
  rotate_left
  · (intro w' hSw; (try dsimp only at hSw); go_simp; (try with_reducible rfl))
  try simp only [Act.put, List.setIfInBounds_toArray, List.set_cons_zero, List.set_cons_succ]
  refine wpAnyH_take (i := 2) (oi := ⟨_, _, _, _, _, _⟩) (v := ?_) rfl (by kernel_rfl) (by kernel_rfl) (by kernel_rfl) (fun _ _ _ h => h) (Or.inl ⟨by rfl, ?_⟩) hHeld ?_
  rotate_left
  · (intro w' hSw; (try dsimp only at hSw); go_simp; (try with_reducible rfl))
  try simp only [Act.put, List.setIfInBounds_toArray, List.set_cons_zero, List.set_cons_succ]
  have KD := hidden ((Keeps.refl (fun _ => False) w0).drew)
  generalize w0.drew = wd at *
  clear hHeld
  refine merge1 ?PP (fun TAIL => ?_) ?_
  rotate_left
  · refine wpAnyH_ready (rs := [3, 8]) (by kernel_rfl) (by simp) ?_
    refine AllReadyH.cons (o := ⟨_, _, _, _, _, _⟩) rfl (fun K hK => ?_) (AllReadyH.cons (o := ⟨_, _, _, _, _, _⟩) rfl (fun K hK => ?_) AllReadyH.nil)
    · go_simp
      (first | (go_at_call 22; refine (meta_Operator _ op).mono ?_; rintro e wc1 ⟨rfl, h0⟩; have h1 : Keeps (fun _ => False) wd wc1 := (h0 ▸ Keeps.refl _ _); clear h0))
      go_wp2_with fail
      have KC1 := hidden (KD.out.trans h1 (fun _ _ h => h))
      refine hK.out _ _ ?_ (fun hH2 => ?_)
      · ((try dsimp only); exact SK.out _ (KC1.out.mono (fun _ _ h => h.elim)))
      clear hK K hH2
      try simp only [Act.put, List.setIfInBounds_toArray, List.set_cons_zero, List.set_cons_succ]
      clear h1 
      refine wpAnyH_ready (rs := [4, 8]) (by kernel_rfl) (by simp) ?_
      refine AllReadyH.cons (o := ⟨_, _, _, _, _, _⟩) rfl (fun K hK => ?_) (AllReadyH.cons (o := ⟨_, _, _, _, _, _⟩) rfl (fun K hK => ?_) AllReadyH.nil)
      · go_simp
        (first | (go_at_call 20; refine (CF.out wc1 (K0.out.trans KC1.out (fun _ _ h => h))).mono ?_; rintro e wc2 ⟨rfl, h1⟩))
        go_wp2_with fail
        have KC2 := hidden (KC1.out.trans h1 (fun _ _ h => h))
        refine hK.out _ _ ?_ (fun hH2 => ?_)
        · ((try dsimp only); exact SK.out _ (KC2.out.mono (fun _ _ h => h.elim)))
        clear hK K hH2
        try simp only [Act.put, List.setIfInBounds_toArray, List.set_cons_zero, List.set_cons_succ]
        clear h1 KC1
        have hHeld := SK.out _ (KC2.out.mono (fun _ _ h => h.elim))
        (try dsimp only at hHeld)
        refine wpAnyH_take (i := 5) (oi := ⟨_, _, _, _, _, _⟩) (v := ?_) rfl (by kernel_rfl) (by kernel_rfl) (by kernel_rfl) (fun _ _ _ h => h) (Or.inl ⟨by rfl, ?_⟩) hHeld ?_
        rotate_left
        · (intro w' hSw; (try dsimp only at hSw); go_simp; (try with_reducible rfl))
        try simp only [Act.put, List.setIfInBounds_toArray, List.set_cons_zero, List.set_cons_succ]
        refine wpAnyH_take (i := 6) (oi := ⟨_, _, _, _, _, _⟩) (v := ?_) rfl (by kernel_rfl) (by kernel_rfl) (by kernel_rfl) (fun _ _ _ h => h) (Or.inl ⟨by rfl, ?_⟩) hHeld ?_
        rotate_left
        · (intro w' hSw; (try dsimp only at hSw); go_simp; (try with_reducible rfl))
        try simp only [Act.put, List.setIfInBounds_toArray, List.set_cons_zero, List.set_cons_succ]
        refine wpAnyH_take (i := 7) (oi := ⟨_, _, _, _, _, _⟩) (v := ?_) rfl (by kernel_rfl) (by kernel_rfl) (by kernel_rfl) (fun _ _ _ h => h) (Or.inl ⟨by rfl, ?_⟩) hHeld ?_
        rotate_left
        · (intro w' hSw; (try dsimp only at hSw); go_simp; (try with_reducible rfl))
        try simp only [Act.put, List.setIfInBounds_toArray, List.set_cons_zero, List.set_cons_succ]
        clear hHeld
        refine wpAnyH_ready (rs := [8]) (by kernel_rfl) (by simp) ?_
        refine AllReadyH.cons (o := ⟨_, _, _, _, _, _⟩) rfl (fun K hK => ?_) AllReadyH.nil
        go_simp
        refine hK.out _ _ ?_ (fun hH2 => ?_)
        · ((try dsimp only); exact SK.out _ ((KC2.out.alloc _).mono (fun _ _ h => h.elim)))
        clear hK K hH2
        try simp only [Act.put, List.setIfInBounds_toArray, List.set_cons_zero, List.set_cons_succ]
        have KA3 := hidden (KC2.out.alloc (.cells #[.int .i64 0, .int .i64 0, .string ⟨#[]⟩] 29))
        have XX3 := hidden (show IsVar (wc2.alloc (.cells #[.int .i64 0, .int .i64 0, .string ⟨#[]⟩] 29)) wc2.heap.size V.null from IsVar.new wc2 V.null)
        have GG3 := hidden (show w0.heap.size ≤ wc2.heap.size from KC2.out.size)
        clear KC2
        generalize wc2.heap.size = r0_3 at *
        generalize wc2.alloc (.cells #[.int .i64 0, .int .i64 0, .string ⟨#[]⟩] 29) = wa3 at *
        have ALL := hidden (show Keeps (fun _ => False) w0 wa3 ∧ IsVar wa3 r0_3 V.null ∧ w0.heap.size ≤ r0_3 from ⟨KA3.out, XX3.out, GG3.out⟩)
        revert ALL
        exact TAIL r0_3 wa3
      · go_simp
        refine hK.out _ _ ?_ (fun hH2 => ?_)
        · ((try dsimp only); exact SK.out _ ((KC1.out.alloc _).mono (fun _ _ h => h.elim)))
        clear hK K hH2
        try simp only [Act.put, List.setIfInBounds_toArray, List.set_cons_zero, List.set_cons_succ]
        have KA4 := hidden (KC1.out.alloc (.cells #[.int .i64 0, .int .i64 0, .string ⟨#[]⟩] 29))
        have XX4 := hidden (show IsVar (wc1.alloc (.cells #[.int .i64 0, .int .i64 0, .string ⟨#[]⟩] 29)) wc1.heap.size V.null from IsVar.new wc1 V.null)
        have GG4 := hidden (show w0.heap.size ≤ wc1.heap.size from KC1.out.size)
        clear KC1
        generalize wc1.heap.size = r0_4 at *
        generalize wc1.alloc (.cells #[.int .i64 0, .int .i64 0, .string ⟨#[]⟩] 29) = wa4 at *
        refine wpAnyH_ready (rs := [4]) (by kernel_rfl) (by simp) ?_
        refine AllReadyH.cons (o := ⟨_, _, _, _, _, _⟩) rfl (fun K hK => ?_) AllReadyH.nil
        go_simp
        (first | (go_at_call 20; refine (CF.out wa4 (K0.out.trans KA4.out (fun _ _ h => h))).mono ?_; rintro e wc5 ⟨rfl, h1⟩))
        go_wp2_with fail
        have KC5 := hidden (KA4.out.trans h1 (fun _ _ h => h))
        refine hK.out _ _ ?_ (fun hH2 => ?_)
        · ((try dsimp only); exact SK.out _ (KC5.out.mono (fun _ _ h => h.elim)))
        clear hK K hH2
        try simp only [Act.put, List.setIfInBounds_toArray, List.set_cons_zero, List.set_cons_succ]
        have XX5_0 := hidden (show IsVar wc5 r0_4 V.null from XX4.out.keeps h1 (fun h => h))
        clear h1 KA4
        have hHeld := SK.out _ (KC5.out.mono (fun _ _ h => h.elim))
        (try dsimp only at hHeld)
        refine wpAnyH_take (i := 5) (oi := ⟨_, _, _, _, _, _⟩) (v := ?_) rfl (by kernel_rfl) (by kernel_rfl) (by kernel_rfl) (fun _ _ _ h => h) (Or.inl ⟨by rfl, ?_⟩) hHeld ?_
        rotate_left
        · (intro w' hSw; (try dsimp only at hSw); go_simp; (try with_reducible rfl))
        try simp only [Act.put, List.setIfInBounds_toArray, List.set_cons_zero, List.set_cons_succ]
        refine wpAnyH_take (i := 6) (oi := ⟨_, _, _, _, _, _⟩) (v := ?_) rfl (by kernel_rfl) (by kernel_rfl) (by kernel_rfl) (fun _ _ _ h => h) (Or.inl ⟨by rfl, ?_⟩) hHeld ?_
        rotate_left
        · (intro w' hSw; (try dsimp only at hSw); go_simp; (try with_reducible rfl))
        try simp only [Act.put, List.setIfInBounds_toArray, List.set_cons_zero, List.set_cons_succ]
        refine wpAnyH_take (i := 7) (oi := ⟨_, _, _, _, _, _⟩) (v := ?_) rfl (by kernel_rfl) (by kernel_rfl) (by kernel_rfl) (fun _ _ _ h => h) (Or.inl ⟨by rfl, ?_⟩) hHeld ?_
        rotate_left
        · (intro w' hSw; (try dsimp only at hSw); go_simp; (try with_reducible rfl))
        try simp only [Act.put, List.setIfInBounds_toArray, List.set_cons_zero, List.set_cons_succ]
        clear hHeld
        have ALL := hidden (show Keeps (fun _ => False) w0 wc5 ∧ IsVar wc5 r0_4 V.null ∧ w0.heap.size ≤ r0_4 from ⟨KC5.out, XX5_0.out, GG4.out⟩)
        revert ALL
        exact TAIL r0_4 wc5
    · go_simp
      refine hK.out _ _ ?_ (fun hH2 => ?_)
      · ((try dsimp only); exact SK.out _ ((KD.out.alloc _).mono (fun _ _ h => h.elim)))
      clear hK K hH2
      try simp only [Act.put, List.setIfInBounds_toArray, List.set_cons_zero, List.set_cons_succ]
      have KA6 := hidden (KD.out.alloc (.cells #[.int .i64 0, .int .i64 0, .string ⟨#[]⟩] 29))
      have XX6 := hidden (show IsVar (wd.alloc (.cells #[.int .i64 0, .int .i64 0, .string ⟨#[]⟩] 29)) wd.heap.size V.null from IsVar.new wd V.null)
      have GG6 := hidden (show w0.heap.size ≤ wd.heap.size from KD.out.size)
      generalize wd.heap.size = r0_6 at *
      generalize wd.alloc (.cells #[.int .i64 0, .int .i64 0, .string ⟨#[]⟩] 29) = wa6 at *
      refine wpAnyH_ready (rs := [3]) (by kernel_rfl) (by simp) ?_
      refine AllReadyH.cons (o := ⟨_, _, _, _, _, _⟩) rfl (fun K hK => ?_) AllReadyH.nil
      go_simp
      (first | (go_at_call 22; refine (meta_Operator _ op).mono ?_; rintro e wc7 ⟨rfl, h0⟩; have h1 : Keeps (fun _ => False) wa6 wc7 := (h0 ▸ Keeps.refl _ _); clear h0))
      go_wp2_with fail
      have KC7 := hidden (KA6.out.trans h1 (fun _ _ h => h))
      refine hK.out _ _ ?_ (fun hH2 => ?_)
      · ((try dsimp only); exact SK.out _ (KC7.out.mono (fun _ _ h => h.elim)))
      clear hK K hH2
      try simp only [Act.put, List.setIfInBounds_toArray, List.set_cons_zero, List.set_cons_succ]
      have XX7_0 := hidden (show IsVar wc7 r0_6 V.null from XX6.out.keeps h1 (fun h => h))
      clear h1 KA6
      refine wpAnyH_ready (rs := [4]) (by kernel_rfl) (by simp) ?_
      refine AllReadyH.cons (o := ⟨_, _, _, _, _, _⟩) rfl (fun K hK => ?_) AllReadyH.nil
      go_simp
      (first | (go_at_call 20; refine (CF.out wc7 (K0.out.trans KC7.out (fun _ _ h => h))).mono ?_; rintro e wc8 ⟨rfl, h1⟩))
      go_wp2_with fail
      have KC8 := hidden (KC7.out.trans h1 (fun _ _ h => h))
      refine hK.out _ _ ?_ (fun hH2 => ?_)
      · ((try dsimp only); exact SK.out _ (KC8.out.mono (fun _ _ h => h.elim)))
      clear hK K hH2
      try simp only [Act.put, List.setIfInBounds_toArray, List.set_cons_zero, List.set_cons_succ]
      have XX8_0 := hidden (show IsVar wc8 r0_6 V.null from XX7_0.out.keeps h1 (fun h => h))
      clear h1 KC7
      have hHeld := SK.out _ (KC8.out.mono (fun _ _ h => h.elim))
      (try dsimp only at hHeld)
      refine wpAnyH_take (i := 5) (oi := ⟨_, _, _, _, _, _⟩) (v := ?_) rfl (by kernel_rfl) (by kernel_rfl) (by kernel_rfl) (fun _ _ _ h => h) (Or.inl ⟨by rfl, ?_⟩) hHeld ?_
      rotate_left
      · (intro w' hSw; (try dsimp only at hSw); go_simp; (try with_reducible rfl))
      try simp only [Act.put, List.setIfInBounds_toArray, List.set_cons_zero, List.set_cons_succ]
      refine wpAnyH_take (i := 6) (oi := ⟨_, _, _, _, _, _⟩) (v := ?_) rfl (by kernel_rfl) (by kernel_rfl) (by kernel_rfl) (fun _ _ _ h => h) (Or.inl ⟨by rfl, ?_⟩) hHeld ?_
      rotate_left
      · (intro w' hSw; (try dsimp only at hSw); go_simp; (try with_reducible rfl))
      try simp only [Act.put, List.setIfInBounds_toArray, List.set_cons_zero, List.set_cons_succ]
      refine wpAnyH_take (i := 7) (oi := ⟨_, _, _, _, _, _⟩) (v := ?_) rfl (by kernel_rfl) (by kernel_rfl) (by kernel_rfl) (fun _ _ _ h => h) (Or.inl ⟨by rfl, ?_⟩) hHeld ?_
      rotate_left
      · (intro w' hSw; (try dsimp only at hSw); go_simp; (try with_reducible rfl))
      try simp only [Act.put, List.setIfInBounds_toArray, List.set_cons_zero, List.set_cons_succ]
      clear hHeld
      have ALL := hidden (show Keeps (fun _ => False) w0 wc8 ∧ IsVar wc8 r0_6 V.null ∧ w0.heap.size ≤ r0_6 from ⟨KC8.out, XX8_0.out, GG6.out⟩)
      revert ALL
      exact TAIL r0_6 wc8
  · intro r0 wz ALL
    obtain ⟨hKZ, hXR0, hGR0⟩ := ALL.out
    have KZ := hidden hKZ
    have XR0 := hidden hXR0
    have GR0 := hidden hGR0
    clear ALL hKZ hXR0 hGR0
    have KS := hidden (show Keeps (fun k => w0.heap.size ≤ k) w0 wz from KZ.out.mono (fun _ _ h => h.elim))
    obtain ⟨a0, a1, a2, a3, a4, a5⟩ := XR0.out.cells
    have haz := blk_lt XR0.out
    simp only [V.null] at a0 a1 a2
    have hHeld := SK.out _ KS.out
    (try dsimp only at hHeld)
    refine wpAnyH_ready (rs := [9]) (by kernel_rfl) (by simp) ?_
    refine AllReadyH.cons (o := ⟨_, _, _, _, _, _⟩) rfl (fun K hK => ?_) AllReadyH.nil
    go_simp
    refine hK.out _ _ ?_ (fun hH2 => ?_)
    · ((try dsimp only); refine SK.out _ ?_; (repeat with_reducible (first | exact KS.out | refine Keeps.var ?_ (fun _ => (by first | exact GR0.out)) _ _ _)))
    clear hK K hHeld
    have hHeld := hH2
    clear hH2
    try simp only [Act.put, List.setIfInBounds_toArray, List.set_cons_zero, List.set_cons_succ]
    refine wpAnyH_take (i := 10) (oi := ⟨_, _, _, _, _, _⟩) (v := ?_) rfl (by kernel_rfl) (by kernel_rfl) (by kernel_rfl) (fun _ _ _ h => h) (Or.inl ⟨by rfl, ?_⟩) hHeld ?_
    rotate_left
    · (intro w' hSw; (try dsimp only at hSw); go_simp; (try with_reducible rfl))
    try simp only [Act.put, List.setIfInBounds_toArray, List.set_cons_zero, List.set_cons_succ]
    refine wpAnyH_done (by kernel_rfl) ?_ _
    refine NoPanic.normal ?_
    clear hHeld
    have K5 : Keeps (fun k => w0.heap.size ≤ k) w0 (((wz.setCell ⟨r0, 0, none⟩ (.int .i64 xk)).setCell ⟨r0, 1, none⟩ (.int .i64 xn)).setCell ⟨r0, 2, none⟩ (.string xt)) := KS.out.var (fun _ => GR0.out) _ _ _
    have VX := hidden (show IsVar (((wz.setCell ⟨r0, 0, none⟩ (.int .i64 xk)).setCell ⟨r0, 1, none⟩ (.int .i64 xn)).setCell ⟨r0, 2, none⟩ (.string xt)) r0 ⟨xk, xn, xt⟩ from XR0.out.set ⟨xk, xn, xt⟩)
    have R15 := hidden (R1.out.keeps K5 (fun h => by have := blk_lt R1.out; omega))
    have R25 := hidden (R2.out.keeps K5 (fun h => by have := blk_lt R2.out; omega))
    have KK5 := hidden (show Keeps (fun k => w.heap.size + 2 ≤ k) w (((wz.setCell ⟨r0, 0, none⟩ (.int .i64 xk)).setCell ⟨r0, 1, none⟩ (.int .i64 xn)).setCell ⟨r0, 2, none⟩ (.string xt)) from (K0.out.mono (fun _ _ h => h.elim)).trans K5 (fun k _ h => by have := S0.out; omega))
    have GG := hidden (show w.heap.size + 4 ≤ r0 from by rw [← S0.out]; exact GR0.out)
    clear SK KS KZ XR0 GR0 K0 S0 R1 R2 K5 VA VB a0 a1 a2 a3 a4 a5 haz CF
    go_wp2_with fail
    generalize ((wz.setCell ⟨r0, 0, none⟩ (.int .i64 xk)).setCell ⟨r0, 1, none⟩ (.int .i64 xn)).setCell ⟨r0, 2, none⟩ (.string xt) = w5 at *
    refine (meta_Operator _ op).mono ?_
    rintro e _ ⟨rfl, rfl⟩
    go_wp2_with fail
    have SK := hidden (fun (W : World) (hk : Keeps (fun k => w.heap.size + 2 ≤ k ∧ k ≤ w.heap.size + 3) w5 W) => show W.cell? ⟨r0, 0, none⟩ = some (.int .i64 xk) ∧ W.cell? ⟨r0, 1, none⟩ = some (.int .i64 xn) ∧ W.cell? ⟨r0, 2, none⟩ = some (.string xt) from (have b := (VX.out.keeps hk (fun h => by have := GG.out; omega)).cells; ⟨b.1, b.2.1, b.2.2.1⟩))
    clear VX
    refine wp_region_noPanic ?_
    refine wp_region_held_drew (S := (fun W => W.cell? ⟨r0, 0, none⟩ = some (.int .i64 xk) ∧ W.cell? ⟨r0, 1, none⟩ = some (.int .i64 xn) ∧ W.cell? ⟨r0, 2, none⟩ = some (.string xt))) (by kernel_rfl) ?_ (fun hHeld => ?_)
    · ((try dsimp only); ((refine SK.out _ ?_); (repeat with_reducible (first | exact Keeps.refl _ _ | exact KC.out | refine Keeps.drewN ?_ _ | refine Keeps.drew ?_ | refine Keeps.var ?_ (fun _ => ⟨by omega, by omega⟩) _ _ _))))
    refine wpAnyH_take (i := 1) (oi := ⟨_, _, _, _, _, _⟩) (v := ?_) rfl (by kernel_rfl) (by kernel_rfl) (by kernel_rfl) (fun _ _ _ h => h) (Or.inl ⟨by rfl, ?_⟩) hHeld ?_
    rotate_left
    · (intro w' hSw; (try dsimp only at hSw); go_simp; (try with_reducible rfl))
    try simp only [Act.put, List.setIfInBounds_toArray, List.set_cons_zero, List.set_cons_succ]
    refine wpAnyH_ready (rs := [0]) (by kernel_rfl) (by simp) ?_
    refine AllReadyH.cons (o := ⟨_, _, _, _, _, _⟩) rfl (fun K hK => ?_) AllReadyH.nil
    go_simp
    (first | (go_at_call 11; refine (CN.out _).mono ?_; rintro e w6 ⟨rfl, h1⟩; have k6 := (((Keeps.refl (fun _ => False) w5).drewN 1).trans h1 (fun _ _ h => h)); have KC := hidden (show Keeps (fun k => w.heap.size + 2 ≤ k ∧ k ≤ w.heap.size + 3) w5 w6 from k6.mono (fun _ _ h => h.elim)); have R16 := hidden (R15.out.keeps k6 (fun h => h)); have R26 := hidden (R25.out.keeps k6 (fun h => h)); have KK6 := hidden (KK5.out.trans k6 (fun _ _ h => h.elim)); obtain ⟨v0, v1, v2, v3, v4, v5⟩ := R16.out.cells; obtain ⟨u0, u1, u2, u3, u4, u5⟩ := R26.out.cells; have hvz := blk_lt R16.out; have huz := blk_lt R26.out; simp only [V.null] at v0 v1 v2 u0 u1 u2; clear h1 k6))
    go_wp2_with fail
    refine hK.out _ _ ?_ (fun hH2 => ?_)
    · ((try dsimp only); ((refine SK.out _ ?_); (repeat with_reducible (first | exact Keeps.refl _ _ | exact KC.out | refine Keeps.drewN ?_ _ | refine Keeps.drew ?_ | refine Keeps.var ?_ (fun _ => ⟨by omega, by omega⟩) _ _ _))))
    clear hK K hHeld
    have hHeld := hH2
    clear hH2
    try simp only [Act.put, List.setIfInBounds_toArray, List.set_cons_zero, List.set_cons_succ]
    refine wpAnyH_ready (rs := [2]) (by kernel_rfl) (by simp) ?_
    refine AllReadyH.cons (o := ⟨_, _, _, _, _, _⟩) rfl (fun K hK => ?_) AllReadyH.nil
    go_simp
    refine hK.out _ _ ?_ (fun hH2 => ?_)
    · ((try dsimp only); ((refine SK.out _ ?_); (repeat with_reducible (first | exact Keeps.refl _ _ | exact KC.out | refine Keeps.drewN ?_ _ | refine Keeps.drew ?_ | refine Keeps.var ?_ (fun _ => ⟨by omega, by omega⟩) _ _ _))))
    clear hK K hHeld
    have hHeld := hH2
    clear hH2
    try simp only [Act.put, List.setIfInBounds_toArray, List.set_cons_zero, List.set_cons_succ]
    refine wpAnyH_ready (rs := [3]) (by kernel_rfl) (by simp) ?_
    refine AllReadyH.cons (o := ⟨_, _, _, _, _, _⟩) rfl (fun K hK => ?_) AllReadyH.nil
    go_simp
    refine hK.out _ _ ?_ (fun hH2 => ?_)
    · ((try dsimp only); ((refine SK.out _ ?_); (repeat with_reducible (first | exact Keeps.refl _ _ | exact KC.out | refine Keeps.drewN ?_ _ | refine Keeps.drew ?_ | refine Keeps.var ?_ (fun _ => ⟨by omega, by omega⟩) _ _ _))))
    clear hK K hHeld
    have hHeld := hH2
    clear hH2
    try simp only [Act.put, List.setIfInBounds_toArray, List.set_cons_zero, List.set_cons_succ]
    refine wpAnyH_take (i := 4) (oi := ⟨_, _, _, _, _, _⟩) (v := ?_) rfl (by kernel_rfl) (by kernel_rfl) (by kernel_rfl) (fun _ _ _ h => h) (Or.inl ⟨by rfl, ?_⟩) hHeld ?_
    rotate_left
    · (intro w' hSw; (try dsimp only at hSw); go_simp; (try with_reducible rfl))
    try simp only [Act.put, List.setIfInBounds_toArray, List.set_cons_zero, List.set_cons_succ]
    refine wpAnyH_done (by kernel_rfl) ?_ _
    refine NoPanic.normal ?_
    clear hHeld
    go_wp2_with fail
    have hvz := blk_lt R16.out
    have huz := blk_lt R26.out
    obtain ⟨d0, d1, d2, -⟩ := ((R16.out.set ⟨0, 0, ⟨#[]⟩⟩).far (s := w.heap.size + 3) (by omega) (.int .i64 xk) (.int .i64 xn) (.string xt)).cells
    obtain ⟨d3, d4, d5, -⟩ := ((R26.out.far (s := w.heap.size + 2) (by omega) (.int .i64 0) (.int .i64 0) (.string ⟨#[]⟩)).set ⟨xk, xn, xt⟩).cells
    simp only at d0 d1 d2 d3 d4 d5
    exact bodyPost_ret (v := .tuple #[V.val ⟨0, 0, ⟨#[]⟩⟩, V.val ⟨xk, xn, xt⟩, .int .i64 0]) (by simp [results, Try.results23, go_sem, d0, d1, d2, d3, d4, d5, V.val]) rfl (hR.out _ _ ⟨rfl, ((KK6.out.var (r := w.heap.size + 2) (fun _ => Nat.le_refl _) _ _ _).var (r := w.heap.size + 3) (fun _ => Nat.le_succ _) _ _ _).new (by intro k h1 h2; have h3 : w.heap.size + 2 ≤ k := h1; omega)⟩)

set_option maxHeartbeats 8000000 in
theorem meta_Arith_no (op an : Int) (at' : ByteArray) (bk bn : Int) (bt : ByteArray) (xk xn : Int) (xt : ByteArray)  (hF : ∀ W, Keeps (fun _ => False) w W → Calls Try.prog 20 #[.pointer (some ⟨hb, 0, none⟩), V.val ⟨4, an, at'⟩, .string (opName op)] W fun e w' => e = .returned (.tuple #[V.val ⟨xk, xn, xt⟩, .bool false]) ∧ Keeps (fun _ => False) W w') :
    Calls Try.prog 23 #[.pointer (some ⟨hb, 0, none⟩), .int .i64 op, V.val ⟨4, an, at'⟩, V.val ⟨bk, bn, bt⟩] w fun e w' => e = .returned (.tuple #[V.val ⟨0, 0, ⟨#[]⟩⟩, V.val ⟨0, 0, ⟨#[]⟩⟩, .int .i64 30]) ∧ Keeps (fun _ => False) w w' := by
  have CF := hidden hF
  clear hF
  unfold V.val at CF
  have CN := hidden (fun (W : World) => value_Null W)
  unfold V.val V.null at CN
  obtain ⟨w0, hw0, h0, h1, h2, h3, hK0, hs0⟩ := four w ⟨4, an, at'⟩ ⟨bk, bn, bt⟩
  have VA := hidden h0
  have VB := hidden h1
  have R1 := hidden h2
  have R2 := hidden h3
  have K0 := hidden hK0
  have S0 := hidden hs0
  clear h0 h1 h2 h3 hK0 hs0
  refine post_gen fun R hR => ?_
  unfold V.val
  go_enter Try.func23, Try.ntmps23
  go_wp2_with fail
  rw [← hw0]
  clear hw0
  have SK := hidden (fun (W : World) (hk : Keeps (fun k => w0.heap.size ≤ k) w0 W) => show W.cell? ⟨w.heap.size, 0, none⟩ = some (.int .i64 4) ∧ W.cell? ⟨w.heap.size, 1, none⟩ = some (.int .i64 an) ∧ W.cell? ⟨w.heap.size, 2, none⟩ = some (.string at') from (have b := (VA.out.keeps hk (fun h => by have := blk_lt VA.out; omega)).cells; ⟨b.1, b.2.1, b.2.2.1⟩))
  refine wp_region_noPanic ?_
  refine wp_region_held_drew (S := (fun W => W.cell? ⟨w.heap.size, 0, none⟩ = some (.int .i64 4) ∧ W.cell? ⟨w.heap.size, 1, none⟩ = some (.int .i64 an) ∧ W.cell? ⟨w.heap.size, 2, none⟩ = some (.string at'))) (by kernel_rfl) ?_ (fun hHeld => ?_)
  · ((try dsimp only); exact SK.out _ ((Keeps.refl _ w0).drew))
  refine wpAnyH_take (i := 0) (oi := ⟨_, _, _, _, _, _⟩) (v := ?_) rfl (by kernel_rfl) (by kernel_rfl) (by kernel_rfl) (fun _ _ _ h => h) (Or.inl ⟨by rfl, ?_⟩) hHeld ?_
  rotate_left
  · (intro w' hSw; (try dsimp only at hSw); go_simp; (try with_reducible rfl))
  try simp only [Act.put, List.setIfInBounds_toArray, List.set_cons_zero, List.set_cons_succ]
  refine wpAnyH_take (i := 1) (oi := ⟨_, _, _, _, _, _⟩) (v := ?_) rfl (by kernel_rfl) (by kernel_rfl) (by kernel_rfl) (fun _ _ _ h => h) (Or.inl ⟨by rfl, ?_⟩) hHeld ?_
  rotate_left
  · (intro w' hSw; (try dsimp only at hSw); go_simp; (try with_reducible rfl))
  try simp only [Act.put, List.setIfInBounds_toArray, List.set_cons_zero, List.set_cons_succ]
  refine wpAnyH_take (i := 2) (oi := ⟨_, _, _, _, _, _⟩) (v := ?_) rfl (by kernel_rfl) (by kernel_rfl) (by kernel_rfl) (fun _ _ _ h => h) (Or.inl ⟨by rfl, ?_⟩) hHeld ?_
  rotate_left
  · (intro w' hSw; (try dsimp only at hSw); go_simp; (try with_reducible rfl))
  try simp only [Act.put, List.setIfInBounds_toArray, List.set_cons_zero, List.set_cons_succ]
  have KD := hidden ((Keeps.refl (fun _ => False) w0).drew)
  generalize w0.drew = wd at *
  clear hHeld
  refine merge1 ?PP (fun TAIL => ?_) ?_
  rotate_left
  · refine wpAnyH_ready (rs := [3, 8]) (by kernel_rfl) (by simp) ?_
    refine AllReadyH.cons (o := ⟨_, _, _, _, _, _⟩) rfl (fun K hK => ?_) (AllReadyH.cons (o := ⟨_, _, _, _, _, _⟩) rfl (fun K hK => ?_) AllReadyH.nil)
    · go_simp
      (first | (go_at_call 22; refine (meta_Operator _ op).mono ?_; rintro e wc1 ⟨rfl, h0⟩; have h1 : Keeps (fun _ => False) wd wc1 := (h0 ▸ Keeps.refl _ _); clear h0))
      go_wp2_with fail
      have KC1 := hidden (KD.out.trans h1 (fun _ _ h => h))
      refine hK.out _ _ ?_ (fun hH2 => ?_)
      · ((try dsimp only); exact SK.out _ (KC1.out.mono (fun _ _ h => h.elim)))
      clear hK K hH2
      try simp only [Act.put, List.setIfInBounds_toArray, List.set_cons_zero, List.set_cons_succ]
      clear h1 
      refine wpAnyH_ready (rs := [4, 8]) (by kernel_rfl) (by simp) ?_
      refine AllReadyH.cons (o := ⟨_, _, _, _, _, _⟩) rfl (fun K hK => ?_) (AllReadyH.cons (o := ⟨_, _, _, _, _, _⟩) rfl (fun K hK => ?_) AllReadyH.nil)
      · go_simp
        (first | (go_at_call 20; refine (CF.out wc1 (K0.out.trans KC1.out (fun _ _ h => h))).mono ?_; rintro e wc2 ⟨rfl, h1⟩))
        go_wp2_with fail
        have KC2 := hidden (KC1.out.trans h1 (fun _ _ h => h))
        refine hK.out _ _ ?_ (fun hH2 => ?_)
        · ((try dsimp only); exact SK.out _ (KC2.out.mono (fun _ _ h => h.elim)))
        clear hK K hH2
        try simp only [Act.put, List.setIfInBounds_toArray, List.set_cons_zero, List.set_cons_succ]
        clear h1 KC1
        have hHeld := SK.out _ (KC2.out.mono (fun _ _ h => h.elim))
        (try dsimp only at hHeld)
        refine wpAnyH_take (i := 5) (oi := ⟨_, _, _, _, _, _⟩) (v := ?_) rfl (by kernel_rfl) (by kernel_rfl) (by kernel_rfl) (fun _ _ _ h => h) (Or.inl ⟨by rfl, ?_⟩) hHeld ?_
        rotate_left
        · (intro w' hSw; (try dsimp only at hSw); go_simp; (try with_reducible rfl))
        try simp only [Act.put, List.setIfInBounds_toArray, List.set_cons_zero, List.set_cons_succ]
        refine wpAnyH_take (i := 6) (oi := ⟨_, _, _, _, _, _⟩) (v := ?_) rfl (by kernel_rfl) (by kernel_rfl) (by kernel_rfl) (fun _ _ _ h => h) (Or.inl ⟨by rfl, ?_⟩) hHeld ?_
        rotate_left
        · (intro w' hSw; (try dsimp only at hSw); go_simp; (try with_reducible rfl))
        try simp only [Act.put, List.setIfInBounds_toArray, List.set_cons_zero, List.set_cons_succ]
        refine wpAnyH_take (i := 7) (oi := ⟨_, _, _, _, _, _⟩) (v := ?_) rfl (by kernel_rfl) (by kernel_rfl) (by kernel_rfl) (fun _ _ _ h => h) (Or.inl ⟨by rfl, ?_⟩) hHeld ?_
        rotate_left
        · (intro w' hSw; (try dsimp only at hSw); go_simp; (try with_reducible rfl))
        try simp only [Act.put, List.setIfInBounds_toArray, List.set_cons_zero, List.set_cons_succ]
        clear hHeld
        refine wpAnyH_ready (rs := [8]) (by kernel_rfl) (by simp) ?_
        refine AllReadyH.cons (o := ⟨_, _, _, _, _, _⟩) rfl (fun K hK => ?_) AllReadyH.nil
        go_simp
        refine hK.out _ _ ?_ (fun hH2 => ?_)
        · ((try dsimp only); exact SK.out _ ((KC2.out.alloc _).mono (fun _ _ h => h.elim)))
        clear hK K hH2
        try simp only [Act.put, List.setIfInBounds_toArray, List.set_cons_zero, List.set_cons_succ]
        have KA3 := hidden (KC2.out.alloc (.cells #[.int .i64 0, .int .i64 0, .string ⟨#[]⟩] 29))
        have XX3 := hidden (show IsVar (wc2.alloc (.cells #[.int .i64 0, .int .i64 0, .string ⟨#[]⟩] 29)) wc2.heap.size V.null from IsVar.new wc2 V.null)
        have GG3 := hidden (show w0.heap.size ≤ wc2.heap.size from KC2.out.size)
        clear KC2
        generalize wc2.heap.size = r0_3 at *
        generalize wc2.alloc (.cells #[.int .i64 0, .int .i64 0, .string ⟨#[]⟩] 29) = wa3 at *
        have ALL := hidden (show Keeps (fun _ => False) w0 wa3 ∧ IsVar wa3 r0_3 V.null ∧ w0.heap.size ≤ r0_3 from ⟨KA3.out, XX3.out, GG3.out⟩)
        revert ALL
        exact TAIL r0_3 wa3
      · go_simp
        refine hK.out _ _ ?_ (fun hH2 => ?_)
        · ((try dsimp only); exact SK.out _ ((KC1.out.alloc _).mono (fun _ _ h => h.elim)))
        clear hK K hH2
        try simp only [Act.put, List.setIfInBounds_toArray, List.set_cons_zero, List.set_cons_succ]
        have KA4 := hidden (KC1.out.alloc (.cells #[.int .i64 0, .int .i64 0, .string ⟨#[]⟩] 29))
        have XX4 := hidden (show IsVar (wc1.alloc (.cells #[.int .i64 0, .int .i64 0, .string ⟨#[]⟩] 29)) wc1.heap.size V.null from IsVar.new wc1 V.null)
        have GG4 := hidden (show w0.heap.size ≤ wc1.heap.size from KC1.out.size)
        clear KC1
        generalize wc1.heap.size = r0_4 at *
        generalize wc1.alloc (.cells #[.int .i64 0, .int .i64 0, .string ⟨#[]⟩] 29) = wa4 at *
        refine wpAnyH_ready (rs := [4]) (by kernel_rfl) (by simp) ?_
        refine AllReadyH.cons (o := ⟨_, _, _, _, _, _⟩) rfl (fun K hK => ?_) AllReadyH.nil
        go_simp
        (first | (go_at_call 20; refine (CF.out wa4 (K0.out.trans KA4.out (fun _ _ h => h))).mono ?_; rintro e wc5 ⟨rfl, h1⟩))
        go_wp2_with fail
        have KC5 := hidden (KA4.out.trans h1 (fun _ _ h => h))
        refine hK.out _ _ ?_ (fun hH2 => ?_)
        · ((try dsimp only); exact SK.out _ (KC5.out.mono (fun _ _ h => h.elim)))
        clear hK K hH2
        try simp only [Act.put, List.setIfInBounds_toArray, List.set_cons_zero, List.set_cons_succ]
        have XX5_0 := hidden (show IsVar wc5 r0_4 V.null from XX4.out.keeps h1 (fun h => h))
        clear h1 KA4
        have hHeld := SK.out _ (KC5.out.mono (fun _ _ h => h.elim))
        (try dsimp only at hHeld)
        refine wpAnyH_take (i := 5) (oi := ⟨_, _, _, _, _, _⟩) (v := ?_) rfl (by kernel_rfl) (by kernel_rfl) (by kernel_rfl) (fun _ _ _ h => h) (Or.inl ⟨by rfl, ?_⟩) hHeld ?_
        rotate_left
        · (intro w' hSw; (try dsimp only at hSw); go_simp; (try with_reducible rfl))
        try simp only [Act.put, List.setIfInBounds_toArray, List.set_cons_zero, List.set_cons_succ]
        refine wpAnyH_take (i := 6) (oi := ⟨_, _, _, _, _, _⟩) (v := ?_) rfl (by kernel_rfl) (by kernel_rfl) (by kernel_rfl) (fun _ _ _ h => h) (Or.inl ⟨by rfl, ?_⟩) hHeld ?_
        rotate_left
        · (intro w' hSw; (try dsimp only at hSw); go_simp; (try with_reducible rfl))
        try simp only [Act.put, List.setIfInBounds_toArray, List.set_cons_zero, List.set_cons_succ]
        refine wpAnyH_take (i := 7) (oi := ⟨_, _, _, _, _, _⟩) (v := ?_) rfl (by kernel_rfl) (by kernel_rfl) (by kernel_rfl) (fun _ _ _ h => h) (Or.inl ⟨by rfl, ?_⟩) hHeld ?_
        rotate_left
        · (intro w' hSw; (try dsimp only at hSw); go_simp; (try with_reducible rfl))
        try simp only [Act.put, List.setIfInBounds_toArray, List.set_cons_zero, List.set_cons_succ]
        clear hHeld
        have ALL := hidden (show Keeps (fun _ => False) w0 wc5 ∧ IsVar wc5 r0_4 V.null ∧ w0.heap.size ≤ r0_4 from ⟨KC5.out, XX5_0.out, GG4.out⟩)
        revert ALL
        exact TAIL r0_4 wc5
    · go_simp
      refine hK.out _ _ ?_ (fun hH2 => ?_)
      · ((try dsimp only); exact SK.out _ ((KD.out.alloc _).mono (fun _ _ h => h.elim)))
      clear hK K hH2
      try simp only [Act.put, List.setIfInBounds_toArray, List.set_cons_zero, List.set_cons_succ]
      have KA6 := hidden (KD.out.alloc (.cells #[.int .i64 0, .int .i64 0, .string ⟨#[]⟩] 29))
      have XX6 := hidden (show IsVar (wd.alloc (.cells #[.int .i64 0, .int .i64 0, .string ⟨#[]⟩] 29)) wd.heap.size V.null from IsVar.new wd V.null)
      have GG6 := hidden (show w0.heap.size ≤ wd.heap.size from KD.out.size)
      generalize wd.heap.size = r0_6 at *
      generalize wd.alloc (.cells #[.int .i64 0, .int .i64 0, .string ⟨#[]⟩] 29) = wa6 at *
      refine wpAnyH_ready (rs := [3]) (by kernel_rfl) (by simp) ?_
      refine AllReadyH.cons (o := ⟨_, _, _, _, _, _⟩) rfl (fun K hK => ?_) AllReadyH.nil
      go_simp
      (first | (go_at_call 22; refine (meta_Operator _ op).mono ?_; rintro e wc7 ⟨rfl, h0⟩; have h1 : Keeps (fun _ => False) wa6 wc7 := (h0 ▸ Keeps.refl _ _); clear h0))
      go_wp2_with fail
      have KC7 := hidden (KA6.out.trans h1 (fun _ _ h => h))
      refine hK.out _ _ ?_ (fun hH2 => ?_)
      · ((try dsimp only); exact SK.out _ (KC7.out.mono (fun _ _ h => h.elim)))
      clear hK K hH2
      try simp only [Act.put, List.setIfInBounds_toArray, List.set_cons_zero, List.set_cons_succ]
      have XX7_0 := hidden (show IsVar wc7 r0_6 V.null from XX6.out.keeps h1 (fun h => h))
      clear h1 KA6
      refine wpAnyH_ready (rs := [4]) (by kernel_rfl) (by simp) ?_
      refine AllReadyH.cons (o := ⟨_, _, _, _, _, _⟩) rfl (fun K hK => ?_) AllReadyH.nil
      go_simp
      (first | (go_at_call 20; refine (CF.out wc7 (K0.out.trans KC7.out (fun _ _ h => h))).mono ?_; rintro e wc8 ⟨rfl, h1⟩))
      go_wp2_with fail
      have KC8 := hidden (KC7.out.trans h1 (fun _ _ h => h))
      refine hK.out _ _ ?_ (fun hH2 => ?_)
      · ((try dsimp only); exact SK.out _ (KC8.out.mono (fun _ _ h => h.elim)))
      clear hK K hH2
      try simp only [Act.put, List.setIfInBounds_toArray, List.set_cons_zero, List.set_cons_succ]
      have XX8_0 := hidden (show IsVar wc8 r0_6 V.null from XX7_0.out.keeps h1 (fun h => h))
      clear h1 KC7
      have hHeld := SK.out _ (KC8.out.mono (fun _ _ h => h.elim))
      (try dsimp only at hHeld)
      refine wpAnyH_take (i := 5) (oi := ⟨_, _, _, _, _, _⟩) (v := ?_) rfl (by kernel_rfl) (by kernel_rfl) (by kernel_rfl) (fun _ _ _ h => h) (Or.inl ⟨by rfl, ?_⟩) hHeld ?_
      rotate_left
      · (intro w' hSw; (try dsimp only at hSw); go_simp; (try with_reducible rfl))
      try simp only [Act.put, List.setIfInBounds_toArray, List.set_cons_zero, List.set_cons_succ]
      refine wpAnyH_take (i := 6) (oi := ⟨_, _, _, _, _, _⟩) (v := ?_) rfl (by kernel_rfl) (by kernel_rfl) (by kernel_rfl) (fun _ _ _ h => h) (Or.inl ⟨by rfl, ?_⟩) hHeld ?_
      rotate_left
      · (intro w' hSw; (try dsimp only at hSw); go_simp; (try with_reducible rfl))
      try simp only [Act.put, List.setIfInBounds_toArray, List.set_cons_zero, List.set_cons_succ]
      refine wpAnyH_take (i := 7) (oi := ⟨_, _, _, _, _, _⟩) (v := ?_) rfl (by kernel_rfl) (by kernel_rfl) (by kernel_rfl) (fun _ _ _ h => h) (Or.inl ⟨by rfl, ?_⟩) hHeld ?_
      rotate_left
      · (intro w' hSw; (try dsimp only at hSw); go_simp; (try with_reducible rfl))
      try simp only [Act.put, List.setIfInBounds_toArray, List.set_cons_zero, List.set_cons_succ]
      clear hHeld
      have ALL := hidden (show Keeps (fun _ => False) w0 wc8 ∧ IsVar wc8 r0_6 V.null ∧ w0.heap.size ≤ r0_6 from ⟨KC8.out, XX8_0.out, GG6.out⟩)
      revert ALL
      exact TAIL r0_6 wc8
  · intro r0 wz ALL
    obtain ⟨hKZ, hXR0, hGR0⟩ := ALL.out
    have KZ := hidden hKZ
    have XR0 := hidden hXR0
    have GR0 := hidden hGR0
    clear ALL hKZ hXR0 hGR0
    have KS := hidden (show Keeps (fun k => w0.heap.size ≤ k) w0 wz from KZ.out.mono (fun _ _ h => h.elim))
    obtain ⟨a0, a1, a2, a3, a4, a5⟩ := XR0.out.cells
    have haz := blk_lt XR0.out
    simp only [V.null] at a0 a1 a2
    have hHeld := SK.out _ KS.out
    (try dsimp only at hHeld)
    refine wpAnyH_ready (rs := [9]) (by kernel_rfl) (by simp) ?_
    refine AllReadyH.cons (o := ⟨_, _, _, _, _, _⟩) rfl (fun K hK => ?_) AllReadyH.nil
    go_simp
    refine hK.out _ _ ?_ (fun hH2 => ?_)
    · ((try dsimp only); refine SK.out _ ?_; (repeat with_reducible (first | exact KS.out | refine Keeps.var ?_ (fun _ => (by first | exact GR0.out)) _ _ _)))
    clear hK K hHeld
    have hHeld := hH2
    clear hH2
    try simp only [Act.put, List.setIfInBounds_toArray, List.set_cons_zero, List.set_cons_succ]
    refine wpAnyH_take (i := 10) (oi := ⟨_, _, _, _, _, _⟩) (v := ?_) rfl (by kernel_rfl) (by kernel_rfl) (by kernel_rfl) (fun _ _ _ h => h) (Or.inl ⟨by rfl, ?_⟩) hHeld ?_
    rotate_left
    · (intro w' hSw; (try dsimp only at hSw); go_simp; (try with_reducible rfl))
    try simp only [Act.put, List.setIfInBounds_toArray, List.set_cons_zero, List.set_cons_succ]
    refine wpAnyH_done (by kernel_rfl) ?_ _
    refine NoPanic.normal ?_
    clear hHeld
    have K5 : Keeps (fun k => w0.heap.size ≤ k) w0 (((wz.setCell ⟨r0, 0, none⟩ (.int .i64 xk)).setCell ⟨r0, 1, none⟩ (.int .i64 xn)).setCell ⟨r0, 2, none⟩ (.string xt)) := KS.out.var (fun _ => GR0.out) _ _ _
    have VX := hidden (show IsVar (((wz.setCell ⟨r0, 0, none⟩ (.int .i64 xk)).setCell ⟨r0, 1, none⟩ (.int .i64 xn)).setCell ⟨r0, 2, none⟩ (.string xt)) r0 ⟨xk, xn, xt⟩ from XR0.out.set ⟨xk, xn, xt⟩)
    have R15 := hidden (R1.out.keeps K5 (fun h => by have := blk_lt R1.out; omega))
    have R25 := hidden (R2.out.keeps K5 (fun h => by have := blk_lt R2.out; omega))
    have KK5 := hidden (show Keeps (fun k => w.heap.size + 2 ≤ k) w (((wz.setCell ⟨r0, 0, none⟩ (.int .i64 xk)).setCell ⟨r0, 1, none⟩ (.int .i64 xn)).setCell ⟨r0, 2, none⟩ (.string xt)) from (K0.out.mono (fun _ _ h => h.elim)).trans K5 (fun k _ h => by have := S0.out; omega))
    have GG := hidden (show w.heap.size + 4 ≤ r0 from by rw [← S0.out]; exact GR0.out)
    clear SK KS KZ XR0 GR0 K0 S0 R1 R2 K5 VA VB a0 a1 a2 a3 a4 a5 haz CF
    go_wp2_with fail
    generalize ((wz.setCell ⟨r0, 0, none⟩ (.int .i64 xk)).setCell ⟨r0, 1, none⟩ (.int .i64 xn)).setCell ⟨r0, 2, none⟩ (.string xt) = w5 at *
    obtain ⟨v0, v1, v2, v3, v4, v5⟩ := R15.out.cells
    obtain ⟨u0, u1, u2, u3, u4, u5⟩ := R25.out.cells
    have hvz := blk_lt R15.out
    have huz := blk_lt R25.out
    simp only [V.null] at v0 v1 v2 u0 u1 u2
    refine (CN.out _).mono ?_
    rintro e w6 ⟨rfl, h1⟩
    have R16 := hidden (R15.out.keeps h1 (fun h => h))
    have R26 := hidden (R25.out.keeps h1 (fun h => h))
    have KK6 := hidden (KK5.out.trans h1 (fun _ _ h => h.elim))
    clear h1
    go_wp2_with fail
    refine (CN.out _).mono ?_
    rintro e w7 ⟨rfl, h1⟩
    have R17 := hidden (R16.out.keeps h1 (fun h => h))
    have R27 := hidden (R26.out.keeps h1 (fun h => h))
    have KK7 := hidden (KK6.out.trans h1 (fun _ _ h => h.elim))
    clear h1 v0 v1 v2 v3 v4 v5 u0 u1 u2 u3 u4 u5 hvz huz
    obtain ⟨v0, v1, v2, v3, v4, v5⟩ := R17.out.cells
    obtain ⟨u0, u1, u2, u3, u4, u5⟩ := R27.out.cells
    have hvz := blk_lt R17.out
    have huz := blk_lt R27.out
    simp only [V.null] at v0 v1 v2 u0 u1 u2
    go_wp2_with fail
    have hvz := blk_lt R17.out
    have huz := blk_lt R27.out
    obtain ⟨d0, d1, d2, -⟩ := ((R17.out.set ⟨0, 0, ⟨#[]⟩⟩).far (s := w.heap.size + 3) (by omega) (.int .i64 0) (.int .i64 0) (.string ⟨#[]⟩)).cells
    obtain ⟨d3, d4, d5, -⟩ := ((R27.out.far (s := w.heap.size + 2) (by omega) (.int .i64 0) (.int .i64 0) (.string ⟨#[]⟩)).set ⟨0, 0, ⟨#[]⟩⟩).cells
    simp only at d0 d1 d2 d3 d4 d5
    exact bodyPost_ret (v := .tuple #[V.val ⟨0, 0, ⟨#[]⟩⟩, V.val ⟨0, 0, ⟨#[]⟩⟩, .int .i64 30]) (by simp [results, Try.results23, go_sem, d0, d1, d2, d3, d4, d5, V.val]) rfl (hR.out _ _ ⟨rfl, ((KK7.out.var (r := w.heap.size + 2) (fun _ => Nat.le_refl _) _ _ _).var (r := w.heap.size + 3) (fun _ => Nat.le_succ _) _ _ _).new (by intro k h1 h2; have h3 : w.heap.size + 2 ≤ k := h1; omega)⟩)

set_option maxHeartbeats 8000000 in
theorem meta_Arith_nameless (op an : Int) (at' : ByteArray) (bk bn : Int) (bt : ByteArray) (xk xn : Int) (xt : ByteArray) (hn : (opName op).toList.isEmpty = true) (hF : ∀ W, Keeps (fun _ => False) w W → Calls Try.prog 20 #[.pointer (some ⟨hb, 0, none⟩), V.val ⟨4, an, at'⟩, .string (opName op)] W fun e w' => e = .returned (.tuple #[V.val ⟨xk, xn, xt⟩, .bool true]) ∧ Keeps (fun _ => False) W w') :
    Calls Try.prog 23 #[.pointer (some ⟨hb, 0, none⟩), .int .i64 op, V.val ⟨4, an, at'⟩, V.val ⟨bk, bn, bt⟩] w fun e w' => e = .returned (.tuple #[V.val ⟨0, 0, ⟨#[]⟩⟩, V.val ⟨0, 0, ⟨#[]⟩⟩, .int .i64 30]) ∧ Keeps (fun _ => False) w w' := by
  have CF := hidden hF
  clear hF
  unfold V.val at CF
  have CN := hidden (fun (W : World) => value_Null W)
  unfold V.val V.null at CN
  obtain ⟨w0, hw0, h0, h1, h2, h3, hK0, hs0⟩ := four w ⟨4, an, at'⟩ ⟨bk, bn, bt⟩
  have VA := hidden h0
  have VB := hidden h1
  have R1 := hidden h2
  have R2 := hidden h3
  have K0 := hidden hK0
  have S0 := hidden hs0
  clear h0 h1 h2 h3 hK0 hs0
  refine post_gen fun R hR => ?_
  unfold V.val
  go_enter Try.func23, Try.ntmps23
  go_wp2_with fail
  rw [← hw0]
  clear hw0
  have SK := hidden (fun (W : World) (hk : Keeps (fun k => w0.heap.size ≤ k) w0 W) => show W.cell? ⟨w.heap.size, 0, none⟩ = some (.int .i64 4) ∧ W.cell? ⟨w.heap.size, 1, none⟩ = some (.int .i64 an) ∧ W.cell? ⟨w.heap.size, 2, none⟩ = some (.string at') from (have b := (VA.out.keeps hk (fun h => by have := blk_lt VA.out; omega)).cells; ⟨b.1, b.2.1, b.2.2.1⟩))
  refine wp_region_noPanic ?_
  refine wp_region_held_drew (S := (fun W => W.cell? ⟨w.heap.size, 0, none⟩ = some (.int .i64 4) ∧ W.cell? ⟨w.heap.size, 1, none⟩ = some (.int .i64 an) ∧ W.cell? ⟨w.heap.size, 2, none⟩ = some (.string at'))) (by kernel_rfl) ?_ (fun hHeld => ?_)
  · ((try dsimp only); exact SK.out _ ((Keeps.refl _ w0).drew))
  refine wpAnyH_take (i := 0) (oi := ⟨_, _, _, _, _, _⟩) (v := ?_) rfl (by kernel_rfl) (by kernel_rfl) (by kernel_rfl) (fun _ _ _ h => h) (Or.inl ⟨by rfl, ?_⟩) hHeld ?_
  rotate_left
  · (intro w' hSw; (try dsimp only at hSw); go_simp; (try with_reducible rfl))
  try simp only [Act.put, List.setIfInBounds_toArray, List.set_cons_zero, List.set_cons_succ]
  refine wpAnyH_take (i := 1) (oi := ⟨_, _, _, _, _, _⟩) (v := ?_) rfl (by kernel_rfl) (by kernel_rfl) (by kernel_rfl) (fun _ _ _ h => h) (Or.inl ⟨by rfl, ?_⟩) hHeld ?_
  rotate_left
  · (intro w' hSw; (try dsimp only at hSw); go_simp; (try with_reducible rfl))
  try simp only [Act.put, List.setIfInBounds_toArray, List.set_cons_zero, List.set_cons_succ]
  refine wpAnyH_take (i := 2) (oi := ⟨_, _, _, _, _, _⟩) (v := ?_) rfl (by kernel_rfl) (by kernel_rfl) (by kernel_rfl) (fun _ _ _ h => h) (Or.inl ⟨by rfl, ?_⟩) hHeld ?_
  rotate_left
  · (intro w' hSw; (try dsimp only at hSw); go_simp; (try with_reducible rfl))
  try simp only [Act.put, List.setIfInBounds_toArray, List.set_cons_zero, List.set_cons_succ]
  have KD := hidden ((Keeps.refl (fun _ => False) w0).drew)
  generalize w0.drew = wd at *
  clear hHeld
  refine merge1 ?PP (fun TAIL => ?_) ?_
  rotate_left
  · refine wpAnyH_ready (rs := [3, 8]) (by kernel_rfl) (by simp) ?_
    refine AllReadyH.cons (o := ⟨_, _, _, _, _, _⟩) rfl (fun K hK => ?_) (AllReadyH.cons (o := ⟨_, _, _, _, _, _⟩) rfl (fun K hK => ?_) AllReadyH.nil)
    · go_simp
      (first | (go_at_call 22; refine (meta_Operator _ op).mono ?_; rintro e wc1 ⟨rfl, h0⟩; have h1 : Keeps (fun _ => False) wd wc1 := (h0 ▸ Keeps.refl _ _); clear h0))
      go_wp2_with fail
      have KC1 := hidden (KD.out.trans h1 (fun _ _ h => h))
      refine hK.out _ _ ?_ (fun hH2 => ?_)
      · ((try dsimp only); exact SK.out _ (KC1.out.mono (fun _ _ h => h.elim)))
      clear hK K hH2
      try simp only [Act.put, List.setIfInBounds_toArray, List.set_cons_zero, List.set_cons_succ]
      clear h1 
      refine wpAnyH_ready (rs := [4, 8]) (by kernel_rfl) (by simp) ?_
      refine AllReadyH.cons (o := ⟨_, _, _, _, _, _⟩) rfl (fun K hK => ?_) (AllReadyH.cons (o := ⟨_, _, _, _, _, _⟩) rfl (fun K hK => ?_) AllReadyH.nil)
      · go_simp
        (first | (go_at_call 20; refine (CF.out wc1 (K0.out.trans KC1.out (fun _ _ h => h))).mono ?_; rintro e wc2 ⟨rfl, h1⟩))
        go_wp2_with fail
        have KC2 := hidden (KC1.out.trans h1 (fun _ _ h => h))
        refine hK.out _ _ ?_ (fun hH2 => ?_)
        · ((try dsimp only); exact SK.out _ (KC2.out.mono (fun _ _ h => h.elim)))
        clear hK K hH2
        try simp only [Act.put, List.setIfInBounds_toArray, List.set_cons_zero, List.set_cons_succ]
        clear h1 KC1
        have hHeld := SK.out _ (KC2.out.mono (fun _ _ h => h.elim))
        (try dsimp only at hHeld)
        refine wpAnyH_take (i := 5) (oi := ⟨_, _, _, _, _, _⟩) (v := ?_) rfl (by kernel_rfl) (by kernel_rfl) (by kernel_rfl) (fun _ _ _ h => h) (Or.inl ⟨by rfl, ?_⟩) hHeld ?_
        rotate_left
        · (intro w' hSw; (try dsimp only at hSw); go_simp; (try with_reducible rfl))
        try simp only [Act.put, List.setIfInBounds_toArray, List.set_cons_zero, List.set_cons_succ]
        refine wpAnyH_take (i := 6) (oi := ⟨_, _, _, _, _, _⟩) (v := ?_) rfl (by kernel_rfl) (by kernel_rfl) (by kernel_rfl) (fun _ _ _ h => h) (Or.inl ⟨by rfl, ?_⟩) hHeld ?_
        rotate_left
        · (intro w' hSw; (try dsimp only at hSw); go_simp; (try with_reducible rfl))
        try simp only [Act.put, List.setIfInBounds_toArray, List.set_cons_zero, List.set_cons_succ]
        refine wpAnyH_take (i := 7) (oi := ⟨_, _, _, _, _, _⟩) (v := ?_) rfl (by kernel_rfl) (by kernel_rfl) (by kernel_rfl) (fun _ _ _ h => h) (Or.inl ⟨by rfl, ?_⟩) hHeld ?_
        rotate_left
        · (intro w' hSw; (try dsimp only at hSw); go_simp; (try with_reducible rfl))
        try simp only [Act.put, List.setIfInBounds_toArray, List.set_cons_zero, List.set_cons_succ]
        clear hHeld
        refine wpAnyH_ready (rs := [8]) (by kernel_rfl) (by simp) ?_
        refine AllReadyH.cons (o := ⟨_, _, _, _, _, _⟩) rfl (fun K hK => ?_) AllReadyH.nil
        go_simp
        refine hK.out _ _ ?_ (fun hH2 => ?_)
        · ((try dsimp only); exact SK.out _ ((KC2.out.alloc _).mono (fun _ _ h => h.elim)))
        clear hK K hH2
        try simp only [Act.put, List.setIfInBounds_toArray, List.set_cons_zero, List.set_cons_succ]
        have KA3 := hidden (KC2.out.alloc (.cells #[.int .i64 0, .int .i64 0, .string ⟨#[]⟩] 29))
        have XX3 := hidden (show IsVar (wc2.alloc (.cells #[.int .i64 0, .int .i64 0, .string ⟨#[]⟩] 29)) wc2.heap.size V.null from IsVar.new wc2 V.null)
        have GG3 := hidden (show w0.heap.size ≤ wc2.heap.size from KC2.out.size)
        clear KC2
        generalize wc2.heap.size = r0_3 at *
        generalize wc2.alloc (.cells #[.int .i64 0, .int .i64 0, .string ⟨#[]⟩] 29) = wa3 at *
        have ALL := hidden (show Keeps (fun _ => False) w0 wa3 ∧ IsVar wa3 r0_3 V.null ∧ w0.heap.size ≤ r0_3 from ⟨KA3.out, XX3.out, GG3.out⟩)
        revert ALL
        exact TAIL r0_3 wa3
      · go_simp
        refine hK.out _ _ ?_ (fun hH2 => ?_)
        · ((try dsimp only); exact SK.out _ ((KC1.out.alloc _).mono (fun _ _ h => h.elim)))
        clear hK K hH2
        try simp only [Act.put, List.setIfInBounds_toArray, List.set_cons_zero, List.set_cons_succ]
        have KA4 := hidden (KC1.out.alloc (.cells #[.int .i64 0, .int .i64 0, .string ⟨#[]⟩] 29))
        have XX4 := hidden (show IsVar (wc1.alloc (.cells #[.int .i64 0, .int .i64 0, .string ⟨#[]⟩] 29)) wc1.heap.size V.null from IsVar.new wc1 V.null)
        have GG4 := hidden (show w0.heap.size ≤ wc1.heap.size from KC1.out.size)
        clear KC1
        generalize wc1.heap.size = r0_4 at *
        generalize wc1.alloc (.cells #[.int .i64 0, .int .i64 0, .string ⟨#[]⟩] 29) = wa4 at *
        refine wpAnyH_ready (rs := [4]) (by kernel_rfl) (by simp) ?_
        refine AllReadyH.cons (o := ⟨_, _, _, _, _, _⟩) rfl (fun K hK => ?_) AllReadyH.nil
        go_simp
        (first | (go_at_call 20; refine (CF.out wa4 (K0.out.trans KA4.out (fun _ _ h => h))).mono ?_; rintro e wc5 ⟨rfl, h1⟩))
        go_wp2_with fail
        have KC5 := hidden (KA4.out.trans h1 (fun _ _ h => h))
        refine hK.out _ _ ?_ (fun hH2 => ?_)
        · ((try dsimp only); exact SK.out _ (KC5.out.mono (fun _ _ h => h.elim)))
        clear hK K hH2
        try simp only [Act.put, List.setIfInBounds_toArray, List.set_cons_zero, List.set_cons_succ]
        have XX5_0 := hidden (show IsVar wc5 r0_4 V.null from XX4.out.keeps h1 (fun h => h))
        clear h1 KA4
        have hHeld := SK.out _ (KC5.out.mono (fun _ _ h => h.elim))
        (try dsimp only at hHeld)
        refine wpAnyH_take (i := 5) (oi := ⟨_, _, _, _, _, _⟩) (v := ?_) rfl (by kernel_rfl) (by kernel_rfl) (by kernel_rfl) (fun _ _ _ h => h) (Or.inl ⟨by rfl, ?_⟩) hHeld ?_
        rotate_left
        · (intro w' hSw; (try dsimp only at hSw); go_simp; (try with_reducible rfl))
        try simp only [Act.put, List.setIfInBounds_toArray, List.set_cons_zero, List.set_cons_succ]
        refine wpAnyH_take (i := 6) (oi := ⟨_, _, _, _, _, _⟩) (v := ?_) rfl (by kernel_rfl) (by kernel_rfl) (by kernel_rfl) (fun _ _ _ h => h) (Or.inl ⟨by rfl, ?_⟩) hHeld ?_
        rotate_left
        · (intro w' hSw; (try dsimp only at hSw); go_simp; (try with_reducible rfl))
        try simp only [Act.put, List.setIfInBounds_toArray, List.set_cons_zero, List.set_cons_succ]
        refine wpAnyH_take (i := 7) (oi := ⟨_, _, _, _, _, _⟩) (v := ?_) rfl (by kernel_rfl) (by kernel_rfl) (by kernel_rfl) (fun _ _ _ h => h) (Or.inl ⟨by rfl, ?_⟩) hHeld ?_
        rotate_left
        · (intro w' hSw; (try dsimp only at hSw); go_simp; (try with_reducible rfl))
        try simp only [Act.put, List.setIfInBounds_toArray, List.set_cons_zero, List.set_cons_succ]
        clear hHeld
        have ALL := hidden (show Keeps (fun _ => False) w0 wc5 ∧ IsVar wc5 r0_4 V.null ∧ w0.heap.size ≤ r0_4 from ⟨KC5.out, XX5_0.out, GG4.out⟩)
        revert ALL
        exact TAIL r0_4 wc5
    · go_simp
      refine hK.out _ _ ?_ (fun hH2 => ?_)
      · ((try dsimp only); exact SK.out _ ((KD.out.alloc _).mono (fun _ _ h => h.elim)))
      clear hK K hH2
      try simp only [Act.put, List.setIfInBounds_toArray, List.set_cons_zero, List.set_cons_succ]
      have KA6 := hidden (KD.out.alloc (.cells #[.int .i64 0, .int .i64 0, .string ⟨#[]⟩] 29))
      have XX6 := hidden (show IsVar (wd.alloc (.cells #[.int .i64 0, .int .i64 0, .string ⟨#[]⟩] 29)) wd.heap.size V.null from IsVar.new wd V.null)
      have GG6 := hidden (show w0.heap.size ≤ wd.heap.size from KD.out.size)
      generalize wd.heap.size = r0_6 at *
      generalize wd.alloc (.cells #[.int .i64 0, .int .i64 0, .string ⟨#[]⟩] 29) = wa6 at *
      refine wpAnyH_ready (rs := [3]) (by kernel_rfl) (by simp) ?_
      refine AllReadyH.cons (o := ⟨_, _, _, _, _, _⟩) rfl (fun K hK => ?_) AllReadyH.nil
      go_simp
      (first | (go_at_call 22; refine (meta_Operator _ op).mono ?_; rintro e wc7 ⟨rfl, h0⟩; have h1 : Keeps (fun _ => False) wa6 wc7 := (h0 ▸ Keeps.refl _ _); clear h0))
      go_wp2_with fail
      have KC7 := hidden (KA6.out.trans h1 (fun _ _ h => h))
      refine hK.out _ _ ?_ (fun hH2 => ?_)
      · ((try dsimp only); exact SK.out _ (KC7.out.mono (fun _ _ h => h.elim)))
      clear hK K hH2
      try simp only [Act.put, List.setIfInBounds_toArray, List.set_cons_zero, List.set_cons_succ]
      have XX7_0 := hidden (show IsVar wc7 r0_6 V.null from XX6.out.keeps h1 (fun h => h))
      clear h1 KA6
      refine wpAnyH_ready (rs := [4]) (by kernel_rfl) (by simp) ?_
      refine AllReadyH.cons (o := ⟨_, _, _, _, _, _⟩) rfl (fun K hK => ?_) AllReadyH.nil
      go_simp
      (first | (go_at_call 20; refine (CF.out wc7 (K0.out.trans KC7.out (fun _ _ h => h))).mono ?_; rintro e wc8 ⟨rfl, h1⟩))
      go_wp2_with fail
      have KC8 := hidden (KC7.out.trans h1 (fun _ _ h => h))
      refine hK.out _ _ ?_ (fun hH2 => ?_)
      · ((try dsimp only); exact SK.out _ (KC8.out.mono (fun _ _ h => h.elim)))
      clear hK K hH2
      try simp only [Act.put, List.setIfInBounds_toArray, List.set_cons_zero, List.set_cons_succ]
      have XX8_0 := hidden (show IsVar wc8 r0_6 V.null from XX7_0.out.keeps h1 (fun h => h))
      clear h1 KC7
      have hHeld := SK.out _ (KC8.out.mono (fun _ _ h => h.elim))
      (try dsimp only at hHeld)
      refine wpAnyH_take (i := 5) (oi := ⟨_, _, _, _, _, _⟩) (v := ?_) rfl (by kernel_rfl) (by kernel_rfl) (by kernel_rfl) (fun _ _ _ h => h) (Or.inl ⟨by rfl, ?_⟩) hHeld ?_
      rotate_left
      · (intro w' hSw; (try dsimp only at hSw); go_simp; (try with_reducible rfl))
      try simp only [Act.put, List.setIfInBounds_toArray, List.set_cons_zero, List.set_cons_succ]
      refine wpAnyH_take (i := 6) (oi := ⟨_, _, _, _, _, _⟩) (v := ?_) rfl (by kernel_rfl) (by kernel_rfl) (by kernel_rfl) (fun _ _ _ h => h) (Or.inl ⟨by rfl, ?_⟩) hHeld ?_
      rotate_left
      · (intro w' hSw; (try dsimp only at hSw); go_simp; (try with_reducible rfl))
      try simp only [Act.put, List.setIfInBounds_toArray, List.set_cons_zero, List.set_cons_succ]
      refine wpAnyH_take (i := 7) (oi := ⟨_, _, _, _, _, _⟩) (v := ?_) rfl (by kernel_rfl) (by kernel_rfl) (by kernel_rfl) (fun _ _ _ h => h) (Or.inl ⟨by rfl, ?_⟩) hHeld ?_
      rotate_left
      · (intro w' hSw; (try dsimp only at hSw); go_simp; (try with_reducible rfl))
      try simp only [Act.put, List.setIfInBounds_toArray, List.set_cons_zero, List.set_cons_succ]
      clear hHeld
      have ALL := hidden (show Keeps (fun _ => False) w0 wc8 ∧ IsVar wc8 r0_6 V.null ∧ w0.heap.size ≤ r0_6 from ⟨KC8.out, XX8_0.out, GG6.out⟩)
      revert ALL
      exact TAIL r0_6 wc8
  · intro r0 wz ALL
    obtain ⟨hKZ, hXR0, hGR0⟩ := ALL.out
    have KZ := hidden hKZ
    have XR0 := hidden hXR0
    have GR0 := hidden hGR0
    clear ALL hKZ hXR0 hGR0
    have KS := hidden (show Keeps (fun k => w0.heap.size ≤ k) w0 wz from KZ.out.mono (fun _ _ h => h.elim))
    obtain ⟨a0, a1, a2, a3, a4, a5⟩ := XR0.out.cells
    have haz := blk_lt XR0.out
    simp only [V.null] at a0 a1 a2
    have hHeld := SK.out _ KS.out
    (try dsimp only at hHeld)
    refine wpAnyH_ready (rs := [9]) (by kernel_rfl) (by simp) ?_
    refine AllReadyH.cons (o := ⟨_, _, _, _, _, _⟩) rfl (fun K hK => ?_) AllReadyH.nil
    go_simp
    refine hK.out _ _ ?_ (fun hH2 => ?_)
    · ((try dsimp only); refine SK.out _ ?_; (repeat with_reducible (first | exact KS.out | refine Keeps.var ?_ (fun _ => (by first | exact GR0.out)) _ _ _)))
    clear hK K hHeld
    have hHeld := hH2
    clear hH2
    try simp only [Act.put, List.setIfInBounds_toArray, List.set_cons_zero, List.set_cons_succ]
    refine wpAnyH_take (i := 10) (oi := ⟨_, _, _, _, _, _⟩) (v := ?_) rfl (by kernel_rfl) (by kernel_rfl) (by kernel_rfl) (fun _ _ _ h => h) (Or.inl ⟨by rfl, ?_⟩) hHeld ?_
    rotate_left
    · (intro w' hSw; (try dsimp only at hSw); go_simp; (try with_reducible rfl))
    try simp only [Act.put, List.setIfInBounds_toArray, List.set_cons_zero, List.set_cons_succ]
    refine wpAnyH_done (by kernel_rfl) ?_ _
    refine NoPanic.normal ?_
    clear hHeld
    have K5 : Keeps (fun k => w0.heap.size ≤ k) w0 (((wz.setCell ⟨r0, 0, none⟩ (.int .i64 xk)).setCell ⟨r0, 1, none⟩ (.int .i64 xn)).setCell ⟨r0, 2, none⟩ (.string xt)) := KS.out.var (fun _ => GR0.out) _ _ _
    have VX := hidden (show IsVar (((wz.setCell ⟨r0, 0, none⟩ (.int .i64 xk)).setCell ⟨r0, 1, none⟩ (.int .i64 xn)).setCell ⟨r0, 2, none⟩ (.string xt)) r0 ⟨xk, xn, xt⟩ from XR0.out.set ⟨xk, xn, xt⟩)
    have R15 := hidden (R1.out.keeps K5 (fun h => by have := blk_lt R1.out; omega))
    have R25 := hidden (R2.out.keeps K5 (fun h => by have := blk_lt R2.out; omega))
    have KK5 := hidden (show Keeps (fun k => w.heap.size + 2 ≤ k) w (((wz.setCell ⟨r0, 0, none⟩ (.int .i64 xk)).setCell ⟨r0, 1, none⟩ (.int .i64 xn)).setCell ⟨r0, 2, none⟩ (.string xt)) from (K0.out.mono (fun _ _ h => h.elim)).trans K5 (fun k _ h => by have := S0.out; omega))
    have GG := hidden (show w.heap.size + 4 ≤ r0 from by rw [← S0.out]; exact GR0.out)
    clear SK KS KZ XR0 GR0 K0 S0 R1 R2 K5 VA VB a0 a1 a2 a3 a4 a5 haz CF
    go_wp2_with fail
    generalize ((wz.setCell ⟨r0, 0, none⟩ (.int .i64 xk)).setCell ⟨r0, 1, none⟩ (.int .i64 xn)).setCell ⟨r0, 2, none⟩ (.string xt) = w5 at *
    refine (meta_Operator _ op).mono ?_
    rintro e _ ⟨rfl, rfl⟩
    go_wp2_with fail
    obtain ⟨v0, v1, v2, v3, v4, v5⟩ := R15.out.cells
    obtain ⟨u0, u1, u2, u3, u4, u5⟩ := R25.out.cells
    have hvz := blk_lt R15.out
    have huz := blk_lt R25.out
    simp only [V.null] at v0 v1 v2 u0 u1 u2
    refine (CN.out _).mono ?_
    rintro e w6 ⟨rfl, h1⟩
    have R16 := hidden (R15.out.keeps h1 (fun h => h))
    have R26 := hidden (R25.out.keeps h1 (fun h => h))
    have KK6 := hidden (KK5.out.trans h1 (fun _ _ h => h.elim))
    clear h1
    go_wp2_with fail
    refine (CN.out _).mono ?_
    rintro e w7 ⟨rfl, h1⟩
    have R17 := hidden (R16.out.keeps h1 (fun h => h))
    have R27 := hidden (R26.out.keeps h1 (fun h => h))
    have KK7 := hidden (KK6.out.trans h1 (fun _ _ h => h.elim))
    clear h1 v0 v1 v2 v3 v4 v5 u0 u1 u2 u3 u4 u5 hvz huz
    obtain ⟨v0, v1, v2, v3, v4, v5⟩ := R17.out.cells
    obtain ⟨u0, u1, u2, u3, u4, u5⟩ := R27.out.cells
    have hvz := blk_lt R17.out
    have huz := blk_lt R27.out
    simp only [V.null] at v0 v1 v2 u0 u1 u2
    go_wp2_with fail
    have hvz := blk_lt R17.out
    have huz := blk_lt R27.out
    obtain ⟨d0, d1, d2, -⟩ := ((R17.out.set ⟨0, 0, ⟨#[]⟩⟩).far (s := w.heap.size + 3) (by omega) (.int .i64 0) (.int .i64 0) (.string ⟨#[]⟩)).cells
    obtain ⟨d3, d4, d5, -⟩ := ((R27.out.far (s := w.heap.size + 2) (by omega) (.int .i64 0) (.int .i64 0) (.string ⟨#[]⟩)).set ⟨0, 0, ⟨#[]⟩⟩).cells
    simp only at d0 d1 d2 d3 d4 d5
    exact bodyPost_ret (v := .tuple #[V.val ⟨0, 0, ⟨#[]⟩⟩, V.val ⟨0, 0, ⟨#[]⟩⟩, .int .i64 30]) (by simp [results, Try.results23, go_sem, d0, d1, d2, d3, d4, d5, V.val]) rfl (hR.out _ _ ⟨rfl, ((KK7.out.var (r := w.heap.size + 2) (fun _ => Nat.le_refl _) _ _ _).var (r := w.heap.size + 3) (fun _ => Nat.le_succ _) _ _ _).new (by intro k h1 h2; have h3 : w.heap.size + 2 ≤ k := h1; omega)⟩)

end
end Go.Proofs.Ytmefdniocgcckaa
/- Layer 18: meta: Arith, of what is no cell. -/
namespace Go.Proofs.Ytmefdniocgcckaa
open Go.RowKit
set_option maxRecDepth 100000

section
variable {w : World} {hb : Nat}

set_option maxHeartbeats 8000000 in
theorem meta_Arith_add (ak an : Int) (at' : ByteArray) (bk bn : Int) (bt : ByteArray) (ha : ak ≠ 4) (xk xn : Int) (xt : ByteArray) (xe : Int) (hC : ∀ W, Keeps (fun _ => False) w W → Calls Try.prog 27 #[V.val ⟨ak, an, at'⟩, V.val ⟨bk, bn, bt⟩] W fun e w' => e = .returned (.tuple #[V.val ⟨xk, xn, xt⟩, .int .i64 xe]) ∧ Keeps (fun _ => False) W w') :
    Calls Try.prog 23 #[.pointer (some ⟨hb, 0, none⟩), .int .i64 10, V.val ⟨ak, an, at'⟩, V.val ⟨bk, bn, bt⟩] w fun e w' => e = .returned (.tuple #[V.val ⟨xk, xn, xt⟩, V.val ⟨0, 0, ⟨#[]⟩⟩, .int .i64 xe]) ∧ Keeps (fun _ => False) w w' := by
  have CC := hidden hC
  clear hC
  unfold V.val at CC
  have CN := hidden (fun (W : World) => value_Null W)
  unfold V.val V.null at CN
  obtain ⟨w0, hw0, h0, h1, h2, h3, hK0, hs0⟩ := four w ⟨ak, an, at'⟩ ⟨bk, bn, bt⟩
  have VA := hidden h0
  have VB := hidden h1
  have R1 := hidden h2
  have R2 := hidden h3
  have K0 := hidden hK0
  have S0 := hidden hs0
  clear h0 h1 h2 h3 hK0 hs0
  refine post_gen fun R hR => ?_
  unfold V.val
  go_enter Try.func23, Try.ntmps23
  go_wp2_with fail
  rw [← hw0]
  clear hw0
  obtain ⟨q0, q1, q2, -⟩ := VA.out.cells
  obtain ⟨p0, p1, p2, -⟩ := VB.out.cells
  have hqz := blk_lt VA.out
  have hpz := blk_lt VB.out
  simp only at q0 q1 q2 p0 p1 p2
  have VX0 := hidden (show IsVar (w0.alloc (.cells #[.int .i64 0, .int .i64 0, .string ⟨#[]⟩] 29)) (w.heap.size + 4) V.null from newvar_at w0 V.null S0.out)
  refine (CC.out _ (K0.out.alloc _)).mono ?_
  rintro e w4 ⟨rfl, h1⟩
  have k4 := ((Keeps.refl (fun _ => False) w0).alloc (.cells #[.int .i64 0, .int .i64 0, .string ⟨#[]⟩] 29)).trans h1 (fun _ _ h => h)
  have X4 := hidden (show IsVar w4 (w.heap.size + 4) V.null from VX0.out.keeps h1 (fun h => h))
  have R14 := hidden (R1.out.keeps k4 (fun h => h))
  have R24 := hidden (R2.out.keeps k4 (fun h => h))
  have K4 := hidden (K0.out.trans k4 (fun _ _ h => h))
  clear h1 k4 q0 q1 q2 p0 p1 p2 hqz hpz VA VB R1 R2 VX0 CC K0
  clear S0
  obtain ⟨v0, v1, v2, v3, v4, v5⟩ := X4.out.cells
  have hvz := blk_lt X4.out
  simp only [V.null] at v0 v1 v2
  have VX := hidden (X4.out.set ⟨xk, xn, xt⟩)
  have hd1 : w.heap.size + 2 ≠ w.heap.size + 4 := by omega
  have hd2 : w.heap.size + 3 ≠ w.heap.size + 4 := by omega
  have R15 := hidden (R14.out.far hd1 (.int .i64 xk) (.int .i64 xn) (.string xt))
  have R25 := hidden (R24.out.far hd2 (.int .i64 xk) (.int .i64 xn) (.string xt))
  have KK5 := hidden (show Keeps (fun k => w.heap.size + 2 ≤ k) w (((w4.setCell ⟨w.heap.size + 4, 0, none⟩ (.int .i64 xk)).setCell ⟨w.heap.size + 4, 1, none⟩ (.int .i64 xn)).setCell ⟨w.heap.size + 4, 2, none⟩ (.string xt)) from (K4.out.mono (fun _ _ h => h.elim)).var (fun _ => by omega) _ _ _)
  dsimp only at VX
  clear hd1 hd2 X4 R14 R24 K4
  go_wp2_with fail
  generalize ((w4.setCell ⟨w.heap.size + 4, 0, none⟩ (.int .i64 xk)).setCell ⟨w.heap.size + 4, 1, none⟩ (.int .i64 xn)).setCell ⟨w.heap.size + 4, 2, none⟩ (.string xt) = w5 at *
  clear v0 v1 v2 v3 v4 v5 hvz
  have SK := hidden (fun (W : World) (hk : Keeps (fun k => w.heap.size + 2 ≤ k ∧ k ≤ w.heap.size + 3) w5 W) => show W.cell? ⟨w.heap.size + 4, 0, none⟩ = some (.int .i64 xk) ∧ W.cell? ⟨w.heap.size + 4, 1, none⟩ = some (.int .i64 xn) ∧ W.cell? ⟨w.heap.size + 4, 2, none⟩ = some (.string xt) from (have b := (VX.out.keeps hk (fun h => by omega)).cells; ⟨b.1, b.2.1, b.2.2.1⟩))
  clear VX
  refine wp_region_noPanic ?_
  refine wp_region_held_drew (S := (fun W => W.cell? ⟨w.heap.size + 4, 0, none⟩ = some (.int .i64 xk) ∧ W.cell? ⟨w.heap.size + 4, 1, none⟩ = some (.int .i64 xn) ∧ W.cell? ⟨w.heap.size + 4, 2, none⟩ = some (.string xt))) (by kernel_rfl) ?_ (fun hHeld => ?_)
  · ((try dsimp only); ((refine SK.out _ ?_); (repeat with_reducible (first | exact Keeps.refl _ _ | exact KC.out | refine Keeps.drewN ?_ _ | refine Keeps.drew ?_ | refine Keeps.var ?_ (fun _ => ⟨by omega, by omega⟩) _ _ _))))
  refine wpAnyH_take (i := 0) (oi := ⟨_, _, _, _, _, _⟩) (v := ?_) rfl (by kernel_rfl) (by kernel_rfl) (by kernel_rfl) (fun _ _ _ h => h) (Or.inl ⟨by rfl, ?_⟩) hHeld ?_
  rotate_left
  · (intro w' hSw; (try dsimp only at hSw); go_simp; (try with_reducible rfl))
  try simp only [Act.put, List.setIfInBounds_toArray, List.set_cons_zero, List.set_cons_succ]
  refine wpAnyH_take (i := 2) (oi := ⟨_, _, _, _, _, _⟩) (v := ?_) rfl (by kernel_rfl) (by kernel_rfl) (by kernel_rfl) (fun _ _ _ h => h) (Or.inl ⟨by rfl, ?_⟩) hHeld ?_
  rotate_left
  · (intro w' hSw; (try dsimp only at hSw); go_simp; (try with_reducible rfl))
  try simp only [Act.put, List.setIfInBounds_toArray, List.set_cons_zero, List.set_cons_succ]
  refine wpAnyH_ready (rs := [1]) (by kernel_rfl) (by simp) ?_
  refine AllReadyH.cons (o := ⟨_, _, _, _, _, _⟩) rfl (fun K hK => ?_) AllReadyH.nil
  go_simp
  (first | (go_at_call 11; refine (CN.out _).mono ?_; rintro e w6 ⟨rfl, h1⟩; have k6 := (((Keeps.refl (fun _ => False) w5).drewN 1).trans h1 (fun _ _ h => h)); have KC := hidden (show Keeps (fun k => w.heap.size + 2 ≤ k ∧ k ≤ w.heap.size + 3) w5 w6 from k6.mono (fun _ _ h => h.elim)); have R16 := hidden (R15.out.keeps k6 (fun h => h)); have R26 := hidden (R25.out.keeps k6 (fun h => h)); have KK6 := hidden (KK5.out.trans k6 (fun _ _ h => h.elim)); obtain ⟨v0, v1, v2, v3, v4, v5⟩ := R16.out.cells; obtain ⟨u0, u1, u2, u3, u4, u5⟩ := R26.out.cells; have hvz := blk_lt R16.out; have huz := blk_lt R26.out; simp only [V.null] at v0 v1 v2 u0 u1 u2; clear h1 k6))
  go_wp2_with fail
  refine hK.out _ _ ?_ (fun hH2 => ?_)
  · ((try dsimp only); ((refine SK.out _ ?_); (repeat with_reducible (first | exact Keeps.refl _ _ | exact KC.out | refine Keeps.drewN ?_ _ | refine Keeps.drew ?_ | refine Keeps.var ?_ (fun _ => ⟨by omega, by omega⟩) _ _ _))))
  clear hK K hHeld
  have hHeld := hH2
  clear hH2
  try simp only [Act.put, List.setIfInBounds_toArray, List.set_cons_zero, List.set_cons_succ]
  refine wpAnyH_ready (rs := [3]) (by kernel_rfl) (by simp) ?_
  refine AllReadyH.cons (o := ⟨_, _, _, _, _, _⟩) rfl (fun K hK => ?_) AllReadyH.nil
  go_simp
  refine hK.out _ _ ?_ (fun hH2 => ?_)
  · ((try dsimp only); ((refine SK.out _ ?_); (repeat with_reducible (first | exact Keeps.refl _ _ | exact KC.out | refine Keeps.drewN ?_ _ | refine Keeps.drew ?_ | refine Keeps.var ?_ (fun _ => ⟨by omega, by omega⟩) _ _ _))))
  clear hK K hHeld
  have hHeld := hH2
  clear hH2
  try simp only [Act.put, List.setIfInBounds_toArray, List.set_cons_zero, List.set_cons_succ]
  refine wpAnyH_ready (rs := [4]) (by kernel_rfl) (by simp) ?_
  refine AllReadyH.cons (o := ⟨_, _, _, _, _, _⟩) rfl (fun K hK => ?_) AllReadyH.nil
  go_simp
  refine hK.out _ _ ?_ (fun hH2 => ?_)
  · ((try dsimp only); ((refine SK.out _ ?_); (repeat with_reducible (first | exact Keeps.refl _ _ | exact KC.out | refine Keeps.drewN ?_ _ | refine Keeps.drew ?_ | refine Keeps.var ?_ (fun _ => ⟨by omega, by omega⟩) _ _ _))))
  clear hK K hHeld
  have hHeld := hH2
  clear hH2
  try simp only [Act.put, List.setIfInBounds_toArray, List.set_cons_zero, List.set_cons_succ]
  refine wpAnyH_take (i := 5) (oi := ⟨_, _, _, _, _, _⟩) (v := ?_) rfl (by kernel_rfl) (by kernel_rfl) (by kernel_rfl) (fun _ _ _ h => h) (Or.inl ⟨by rfl, ?_⟩) hHeld ?_
  rotate_left
  · (intro w' hSw; (try dsimp only at hSw); go_simp; (try with_reducible rfl))
  try simp only [Act.put, List.setIfInBounds_toArray, List.set_cons_zero, List.set_cons_succ]
  refine wpAnyH_done (by kernel_rfl) ?_ _
  refine NoPanic.normal ?_
  clear hHeld
  go_wp2_with fail
  have hvz := blk_lt R16.out
  have huz := blk_lt R26.out
  obtain ⟨d0, d1, d2, -⟩ := ((R16.out.set ⟨xk, xn, xt⟩).far (s := w.heap.size + 3) (by omega) (.int .i64 0) (.int .i64 0) (.string ⟨#[]⟩)).cells
  obtain ⟨d3, d4, d5, -⟩ := ((R26.out.far (s := w.heap.size + 2) (by omega) (.int .i64 xk) (.int .i64 xn) (.string xt)).set ⟨0, 0, ⟨#[]⟩⟩).cells
  simp only at d0 d1 d2 d3 d4 d5
  exact bodyPost_ret (v := .tuple #[V.val ⟨xk, xn, xt⟩, V.val ⟨0, 0, ⟨#[]⟩⟩, .int .i64 xe]) (by simp [results, Try.results23, go_sem, d0, d1, d2, d3, d4, d5, V.val]) rfl (hR.out _ _ ⟨rfl, ((KK6.out.var (r := w.heap.size + 2) (fun _ => Nat.le_refl _) _ _ _).var (r := w.heap.size + 3) (fun _ => Nat.le_succ _) _ _ _).new (by intro k h1 h2; have h3 : w.heap.size + 2 ≤ k := h1; omega)⟩)

set_option maxHeartbeats 8000000 in
theorem meta_Arith_reckon (op ak an : Int) (at' : ByteArray) (bk bn : Int) (bt : ByteArray) (ha : ak ≠ 4) (hop : op ≠ 10) (xk xn : Int) (xt : ByteArray) (xe : Int) (hC : ∀ W, Keeps (fun _ => False) w W → Calls Try.prog 26 #[.int .i64 op, V.val ⟨ak, an, at'⟩, V.val ⟨bk, bn, bt⟩] W fun e w' => e = .returned (.tuple #[V.val ⟨xk, xn, xt⟩, .int .i64 xe]) ∧ Keeps (fun _ => False) W w') :
    Calls Try.prog 23 #[.pointer (some ⟨hb, 0, none⟩), .int .i64 op, V.val ⟨ak, an, at'⟩, V.val ⟨bk, bn, bt⟩] w fun e w' => e = .returned (.tuple #[V.val ⟨xk, xn, xt⟩, V.val ⟨0, 0, ⟨#[]⟩⟩, .int .i64 xe]) ∧ Keeps (fun _ => False) w w' := by
  have CC := hidden hC
  clear hC
  unfold V.val at CC
  have CN := hidden (fun (W : World) => value_Null W)
  unfold V.val V.null at CN
  obtain ⟨w0, hw0, h0, h1, h2, h3, hK0, hs0⟩ := four w ⟨ak, an, at'⟩ ⟨bk, bn, bt⟩
  have VA := hidden h0
  have VB := hidden h1
  have R1 := hidden h2
  have R2 := hidden h3
  have K0 := hidden hK0
  have S0 := hidden hs0
  clear h0 h1 h2 h3 hK0 hs0
  refine post_gen fun R hR => ?_
  unfold V.val
  go_enter Try.func23, Try.ntmps23
  go_wp2_with fail
  rw [← hw0]
  clear hw0
  obtain ⟨q0, q1, q2, -⟩ := VA.out.cells
  obtain ⟨p0, p1, p2, -⟩ := VB.out.cells
  have hqz := blk_lt VA.out
  have hpz := blk_lt VB.out
  simp only at q0 q1 q2 p0 p1 p2
  have VX0 := hidden (show IsVar (w0.alloc (.cells #[.int .i64 0, .int .i64 0, .string ⟨#[]⟩] 29)) (w.heap.size + 4) V.null from newvar_at w0 V.null S0.out)
  refine (CC.out _ (K0.out.alloc _)).mono ?_
  rintro e w4 ⟨rfl, h1⟩
  have k4 := ((Keeps.refl (fun _ => False) w0).alloc (.cells #[.int .i64 0, .int .i64 0, .string ⟨#[]⟩] 29)).trans h1 (fun _ _ h => h)
  have X4 := hidden (show IsVar w4 (w.heap.size + 4) V.null from VX0.out.keeps h1 (fun h => h))
  have R14 := hidden (R1.out.keeps k4 (fun h => h))
  have R24 := hidden (R2.out.keeps k4 (fun h => h))
  have K4 := hidden (K0.out.trans k4 (fun _ _ h => h))
  clear h1 k4 q0 q1 q2 p0 p1 p2 hqz hpz VA VB R1 R2 VX0 CC K0
  clear S0
  obtain ⟨v0, v1, v2, v3, v4, v5⟩ := X4.out.cells
  have hvz := blk_lt X4.out
  simp only [V.null] at v0 v1 v2
  have VX := hidden (X4.out.set ⟨xk, xn, xt⟩)
  have hd1 : w.heap.size + 2 ≠ w.heap.size + 4 := by omega
  have hd2 : w.heap.size + 3 ≠ w.heap.size + 4 := by omega
  have R15 := hidden (R14.out.far hd1 (.int .i64 xk) (.int .i64 xn) (.string xt))
  have R25 := hidden (R24.out.far hd2 (.int .i64 xk) (.int .i64 xn) (.string xt))
  have KK5 := hidden (show Keeps (fun k => w.heap.size + 2 ≤ k) w (((w4.setCell ⟨w.heap.size + 4, 0, none⟩ (.int .i64 xk)).setCell ⟨w.heap.size + 4, 1, none⟩ (.int .i64 xn)).setCell ⟨w.heap.size + 4, 2, none⟩ (.string xt)) from (K4.out.mono (fun _ _ h => h.elim)).var (fun _ => by omega) _ _ _)
  dsimp only at VX
  clear hd1 hd2 X4 R14 R24 K4
  go_wp2_with fail
  generalize ((w4.setCell ⟨w.heap.size + 4, 0, none⟩ (.int .i64 xk)).setCell ⟨w.heap.size + 4, 1, none⟩ (.int .i64 xn)).setCell ⟨w.heap.size + 4, 2, none⟩ (.string xt) = w5 at *
  clear v0 v1 v2 v3 v4 v5 hvz
  have SK := hidden (fun (W : World) (hk : Keeps (fun k => w.heap.size + 2 ≤ k ∧ k ≤ w.heap.size + 3) w5 W) => show W.cell? ⟨w.heap.size + 4, 0, none⟩ = some (.int .i64 xk) ∧ W.cell? ⟨w.heap.size + 4, 1, none⟩ = some (.int .i64 xn) ∧ W.cell? ⟨w.heap.size + 4, 2, none⟩ = some (.string xt) from (have b := (VX.out.keeps hk (fun h => by omega)).cells; ⟨b.1, b.2.1, b.2.2.1⟩))
  clear VX
  refine wp_region_noPanic ?_
  refine wp_region_held_drew (S := (fun W => W.cell? ⟨w.heap.size + 4, 0, none⟩ = some (.int .i64 xk) ∧ W.cell? ⟨w.heap.size + 4, 1, none⟩ = some (.int .i64 xn) ∧ W.cell? ⟨w.heap.size + 4, 2, none⟩ = some (.string xt))) (by kernel_rfl) ?_ (fun hHeld => ?_)
  · ((try dsimp only); ((refine SK.out _ ?_); (repeat with_reducible (first | exact Keeps.refl _ _ | exact KC.out | refine Keeps.drewN ?_ _ | refine Keeps.drew ?_ | refine Keeps.var ?_ (fun _ => ⟨by omega, by omega⟩) _ _ _))))
  refine wpAnyH_take (i := 0) (oi := ⟨_, _, _, _, _, _⟩) (v := ?_) rfl (by kernel_rfl) (by kernel_rfl) (by kernel_rfl) (fun _ _ _ h => h) (Or.inl ⟨by rfl, ?_⟩) hHeld ?_
  rotate_left
  · (intro w' hSw; (try dsimp only at hSw); go_simp; (try with_reducible rfl))
  try simp only [Act.put, List.setIfInBounds_toArray, List.set_cons_zero, List.set_cons_succ]
  refine wpAnyH_take (i := 2) (oi := ⟨_, _, _, _, _, _⟩) (v := ?_) rfl (by kernel_rfl) (by kernel_rfl) (by kernel_rfl) (fun _ _ _ h => h) (Or.inl ⟨by rfl, ?_⟩) hHeld ?_
  rotate_left
  · (intro w' hSw; (try dsimp only at hSw); go_simp; (try with_reducible rfl))
  try simp only [Act.put, List.setIfInBounds_toArray, List.set_cons_zero, List.set_cons_succ]
  refine wpAnyH_ready (rs := [1]) (by kernel_rfl) (by simp) ?_
  refine AllReadyH.cons (o := ⟨_, _, _, _, _, _⟩) rfl (fun K hK => ?_) AllReadyH.nil
  go_simp
  (first | (go_at_call 11; refine (CN.out _).mono ?_; rintro e w6 ⟨rfl, h1⟩; have k6 := (((Keeps.refl (fun _ => False) w5).drewN 1).trans h1 (fun _ _ h => h)); have KC := hidden (show Keeps (fun k => w.heap.size + 2 ≤ k ∧ k ≤ w.heap.size + 3) w5 w6 from k6.mono (fun _ _ h => h.elim)); have R16 := hidden (R15.out.keeps k6 (fun h => h)); have R26 := hidden (R25.out.keeps k6 (fun h => h)); have KK6 := hidden (KK5.out.trans k6 (fun _ _ h => h.elim)); obtain ⟨v0, v1, v2, v3, v4, v5⟩ := R16.out.cells; obtain ⟨u0, u1, u2, u3, u4, u5⟩ := R26.out.cells; have hvz := blk_lt R16.out; have huz := blk_lt R26.out; simp only [V.null] at v0 v1 v2 u0 u1 u2; clear h1 k6))
  go_wp2_with fail
  refine hK.out _ _ ?_ (fun hH2 => ?_)
  · ((try dsimp only); ((refine SK.out _ ?_); (repeat with_reducible (first | exact Keeps.refl _ _ | exact KC.out | refine Keeps.drewN ?_ _ | refine Keeps.drew ?_ | refine Keeps.var ?_ (fun _ => ⟨by omega, by omega⟩) _ _ _))))
  clear hK K hHeld
  have hHeld := hH2
  clear hH2
  try simp only [Act.put, List.setIfInBounds_toArray, List.set_cons_zero, List.set_cons_succ]
  refine wpAnyH_ready (rs := [3]) (by kernel_rfl) (by simp) ?_
  refine AllReadyH.cons (o := ⟨_, _, _, _, _, _⟩) rfl (fun K hK => ?_) AllReadyH.nil
  go_simp
  refine hK.out _ _ ?_ (fun hH2 => ?_)
  · ((try dsimp only); ((refine SK.out _ ?_); (repeat with_reducible (first | exact Keeps.refl _ _ | exact KC.out | refine Keeps.drewN ?_ _ | refine Keeps.drew ?_ | refine Keeps.var ?_ (fun _ => ⟨by omega, by omega⟩) _ _ _))))
  clear hK K hHeld
  have hHeld := hH2
  clear hH2
  try simp only [Act.put, List.setIfInBounds_toArray, List.set_cons_zero, List.set_cons_succ]
  refine wpAnyH_ready (rs := [4]) (by kernel_rfl) (by simp) ?_
  refine AllReadyH.cons (o := ⟨_, _, _, _, _, _⟩) rfl (fun K hK => ?_) AllReadyH.nil
  go_simp
  refine hK.out _ _ ?_ (fun hH2 => ?_)
  · ((try dsimp only); ((refine SK.out _ ?_); (repeat with_reducible (first | exact Keeps.refl _ _ | exact KC.out | refine Keeps.drewN ?_ _ | refine Keeps.drew ?_ | refine Keeps.var ?_ (fun _ => ⟨by omega, by omega⟩) _ _ _))))
  clear hK K hHeld
  have hHeld := hH2
  clear hH2
  try simp only [Act.put, List.setIfInBounds_toArray, List.set_cons_zero, List.set_cons_succ]
  refine wpAnyH_take (i := 5) (oi := ⟨_, _, _, _, _, _⟩) (v := ?_) rfl (by kernel_rfl) (by kernel_rfl) (by kernel_rfl) (fun _ _ _ h => h) (Or.inl ⟨by rfl, ?_⟩) hHeld ?_
  rotate_left
  · (intro w' hSw; (try dsimp only at hSw); go_simp; (try with_reducible rfl))
  try simp only [Act.put, List.setIfInBounds_toArray, List.set_cons_zero, List.set_cons_succ]
  refine wpAnyH_done (by kernel_rfl) ?_ _
  refine NoPanic.normal ?_
  clear hHeld
  go_wp2_with fail
  have hvz := blk_lt R16.out
  have huz := blk_lt R26.out
  obtain ⟨d0, d1, d2, -⟩ := ((R16.out.set ⟨xk, xn, xt⟩).far (s := w.heap.size + 3) (by omega) (.int .i64 0) (.int .i64 0) (.string ⟨#[]⟩)).cells
  obtain ⟨d3, d4, d5, -⟩ := ((R26.out.far (s := w.heap.size + 2) (by omega) (.int .i64 xk) (.int .i64 xn) (.string xt)).set ⟨0, 0, ⟨#[]⟩⟩).cells
  simp only at d0 d1 d2 d3 d4 d5
  exact bodyPost_ret (v := .tuple #[V.val ⟨xk, xn, xt⟩, V.val ⟨0, 0, ⟨#[]⟩⟩, .int .i64 xe]) (by simp [results, Try.results23, go_sem, d0, d1, d2, d3, d4, d5, V.val]) rfl (hR.out _ _ ⟨rfl, ((KK6.out.var (r := w.heap.size + 2) (fun _ => Nat.le_refl _) _ _ _).var (r := w.heap.size + 3) (fun _ => Nat.le_succ _) _ _ _).new (by intro k h1 h2; have h3 : w.heap.size + 2 ≤ k := h1; omega)⟩)

end
end Go.Proofs.Ytmefdniocgcckaa
/- Layer 18: meta: Order. -/
namespace Go.Proofs.Ytmefdniocgcckaa
open Go.RowKit
set_option maxRecDepth 100000

section
variable {w : World} {hb : Nat}
set_option maxHeartbeats 8000000 in
/-- Of values that are no cells, of the same, and of nothing: as they compare. -/
theorem meta_Order_plain (ak an : Int) (at' : ByteArray) (bk bn : Int) (bt : ByteArray) (hq : ak ≠ 4 ∨ bk = 0 ∨ (⟨ak, an, at'⟩ : V) = ⟨bk, bn, bt⟩) (cc ce : Int)
    (hC : ∀ W, Keeps (fun _ => False) w W → Calls Try.prog 25 #[V.val ⟨ak, an, at'⟩, V.val ⟨bk, bn, bt⟩] W fun e w' => e = .returned (.tuple #[.int .i64 cc, .int .i64 ce]) ∧ Keeps (fun _ => False) W w') :
    Calls Try.prog 24 #[.pointer (some ⟨hb, 0, none⟩), V.val ⟨ak, an, at'⟩, V.val ⟨bk, bn, bt⟩] w fun e w' => e = .returned (.tuple #[.int .i64 cc, V.val ⟨0, 0, ⟨#[]⟩⟩, .int .i64 ce]) ∧ Keeps (fun _ => False) w w' := by
  have CC := hidden hC
  have CSM := hidden (fun (W : World) => value_Same ⟨ak, an, at'⟩ ⟨bk, bn, bt⟩ W)
  have CN := hidden (fun (W : World) => value_Null W)
  unfold V.val at CC CSM CN
  unfold V.null at CN
  clear hC
  obtain ⟨sb, hsb⟩ : ∃ sb : Bool, sb = decide ((⟨ak, an, at'⟩ : V) = ⟨bk, bn, bt⟩) := ⟨_, rfl⟩
  rw [← hsb] at CSM
  have hq' : ak ≠ 4 ∨ bk = 0 ∨ sb = true := hq.imp id (fun h => h.imp id (fun h => by rw [hsb]; exact decide_eq_true h))
  clear hq hsb
  obtain ⟨w0, hw0, h0, h1, h2, hK0, hs0⟩ := three w ⟨ak, an, at'⟩ ⟨bk, bn, bt⟩
  have VA := hidden h0
  have VB := hidden h1
  have R1 := hidden h2
  have K0 := hidden hK0
  clear h0 h1 h2 hK0 hs0
  refine post_gen fun R hR => ?_
  unfold V.val
  go_enter Try.func24, Try.ntmps24
  go_wp2_with fail
  rw [← hw0]
  clear hw0
  refine (CSM.out _).mono ?_
  rintro e w1 ⟨rfl, hK⟩
  have VA1 := hidden (VA.out.keeps hK (fun h => h))
  have VB1 := hidden (VB.out.keeps hK (fun h => h))
  have R11 := hidden (R1.out.keeps hK (fun h => h))
  have K1 := hidden (K0.out.trans hK (fun _ _ h => h))
  clear hK VA VB R1 K0 CSM
  obtain ⟨q0, q1, q2, -⟩ := VA1.out.cells
  obtain ⟨p0, p1, p2, -⟩ := VB1.out.cells
  have hqz := blk_lt VA1.out
  have hpz := blk_lt VB1.out
  simp only at q0 q1 q2 p0 p1 p2
  have hc : sb = true ∨ sb = false ∧ ak ≠ 4 ∨ sb = false ∧ ak = 4 ∧ bk = 0 := by
    cases sb with
    | true => exact .inl rfl
    | false =>
      by_cases h : ak = 4
      · exact .inr (.inr ⟨rfl, h, hq'.elim (fun h1 => absurd h h1) (fun h1 => h1.elim id (fun h2 => by cases h2))⟩)
      · exact .inr (.inl ⟨rfl, h⟩)
  clear hq'
  rcases hc with rfl | ⟨rfl, h4⟩ | ⟨rfl, rfl, rfl⟩
  all_goals
    go_wp2_with fail
    refine (CC.out _ K1.out).mono ?_
    rintro e w2 ⟨rfl, hK⟩
    have R12 := hidden (R11.out.keeps hK (fun h => h))
    have K2 := hidden (K1.out.trans hK (fun _ _ h => h))
    clear hK VA1 VB1 R11 K1 CC q0 q1 q2 p0 p1 p2 hqz hpz
    go_wp2_with fail
    refine (CN.out _).mono ?_
    rintro e w3 ⟨rfl, hK⟩
    have R13 := hidden (R12.out.keeps hK (fun h => h))
    have K3 := hidden (K2.out.trans hK (fun _ _ h => h))
    clear hK R12 K2
    obtain ⟨v0, v1, v2, v3, v4, v5⟩ := R13.out.cells
    have hvz := blk_lt R13.out
    simp only [V.null] at v0 v1 v2
    go_wp2_with fail
    obtain ⟨d0, d1, d2, _⟩ := (R13.out.set V.null).cells
    simp only [V.null] at d0 d1 d2
    exact bodyPost_ret (v := .tuple #[.int .i64 cc, V.val ⟨0, 0, ⟨#[]⟩⟩, .int .i64 ce]) (by simp [results, Try.results24, go_sem, d0, d1, d2, V.val]) rfl (hR.out _ _ ⟨rfl, K3.out.var (r := w.heap.size + 2) (fun h => by omega) _ _ _⟩)
set_option maxHeartbeats 8000000 in
/-- Of a cell on the left: what it has for that. -/
theorem meta_Order_ask (an : Int) (at' : ByteArray) (bk bn : Int) (bt : ByteArray) (hb0 : bk ≠ 0) (hab : (⟨4, an, at'⟩ : V) ≠ ⟨bk, bn, bt⟩) (xk xn : Int) (xt : ByteArray)
    (hF : ∀ W, Keeps (fun _ => False) w W → Calls Try.prog 20 #[.pointer (some ⟨hb, 0, none⟩), V.val ⟨4, an, at'⟩, .string ⟨#[95, 99, 109, 112]⟩] W fun e w' => e = .returned (.tuple #[V.val ⟨xk, xn, xt⟩, .bool true]) ∧ Keeps (fun _ => False) W w') :
    Calls Try.prog 24 #[.pointer (some ⟨hb, 0, none⟩), V.val ⟨4, an, at'⟩, V.val ⟨bk, bn, bt⟩] w fun e w' => e = .returned (.tuple #[.int .i64 0, V.val ⟨xk, xn, xt⟩, .int .i64 0]) ∧ Keeps (fun _ => False) w w' := by
  have CF := hidden hF
  have CSM := hidden (fun (W : World) => value_Same ⟨4, an, at'⟩ ⟨bk, bn, bt⟩ W)
  unfold V.val at CF CSM
  rw [decide_eq_false hab] at CSM
  clear hF hab
  obtain ⟨w0, hw0, h0, h1, h2, hK0, hs0⟩ := three w ⟨4, an, at'⟩ ⟨bk, bn, bt⟩
  have VA := hidden h0
  have VB := hidden h1
  have R1 := hidden h2
  have K0 := hidden hK0
  clear h0 h1 h2 hK0 hs0
  refine post_gen fun R hR => ?_
  unfold V.val
  go_enter Try.func24, Try.ntmps24
  go_wp2_with fail
  rw [← hw0]
  clear hw0
  refine (CSM.out _).mono ?_
  rintro e w1 ⟨rfl, hK⟩
  have VA1 := hidden (VA.out.keeps hK (fun h => h))
  have VB1 := hidden (VB.out.keeps hK (fun h => h))
  have R11 := hidden (R1.out.keeps hK (fun h => h))
  have K1 := hidden (K0.out.trans hK (fun _ _ h => h))
  clear hK VA VB R1 K0 CSM
  obtain ⟨q0, q1, q2, -⟩ := VA1.out.cells
  obtain ⟨p0, p1, p2, -⟩ := VB1.out.cells
  have hqz := blk_lt VA1.out
  have hpz := blk_lt VB1.out
  simp only at q0 q1 q2 p0 p1 p2
  go_wp2_with fail
  refine (CF.out _ K1.out).mono ?_
  rintro e w2 ⟨rfl, hK⟩
  have VX := hidden (IsVar.new w2 ⟨xk, xn, xt⟩)
  have k2 := hK.alloc (.cells #[.int .i64 xk, .int .i64 xn, .string xt] 29)
  have R12 := hidden (R11.out.keeps k2 (fun h => h))
  have K2 := hidden (K1.out.trans k2 (fun _ _ h => h))
  have hne := hidden (show w.heap.size + 2 < w2.heap.size from Nat.lt_of_lt_of_le (blk_lt R11.out) hK.size)
  clear hK VA1 VB1 R11 K1 CF q0 q1 q2 p0 p1 p2 hqz hpz k2
  simp only at VX
  go_wp2_with fail
  generalize w2.heap.size = vx at *
  generalize w2.alloc (.cells #[.int .i64 xk, .int .i64 xn, .string xt] 29) = w3 at *
  have SK := hidden (fun (W : World) (hk : Keeps (fun k => k = w.heap.size + 2) w3 W) => show W.cell? ⟨vx, 0, none⟩ = some (.int .i64 xk) ∧ W.cell? ⟨vx, 1, none⟩ = some (.int .i64 xn) ∧ W.cell? ⟨vx, 2, none⟩ = some (.string xt) from (have b := (VX.out.keeps hk (fun h => by have := hne.out; omega)).cells; ⟨b.1, b.2.1, b.2.2.1⟩))
  obtain ⟨v0, v1, v2, v3, v4, v5⟩ := R12.out.cells
  have hvz := blk_lt R12.out
  simp only [V.null] at v0 v1 v2
  refine wp_region_noPanic ?_
  refine wp_region_held_drew (S := (fun W => W.cell? ⟨vx, 0, none⟩ = some (.int .i64 xk) ∧ W.cell? ⟨vx, 1, none⟩ = some (.int .i64 xn) ∧ W.cell? ⟨vx, 2, none⟩ = some (.string xt))) (by kernel_rfl) ?_ (fun hHeld => ?_)
  · ((try dsimp only); ((refine SK.out _ ?_); (repeat with_reducible (first | exact Keeps.refl _ _ | refine Keeps.drewN ?_ _ | refine Keeps.drew ?_ | refine Keeps.var ?_ (fun _ => by omega) _ _ _))))
  refine wpAnyH_take (i := 0) (oi := ⟨_, _, _, _, _, _⟩) (v := ?_) rfl (by kernel_rfl) (by kernel_rfl) (by kernel_rfl) (fun _ _ _ h => h) (Or.inl ⟨by rfl, ?_⟩) hHeld ?_
  rotate_left
  · (intro w' hSw; (try dsimp only at hSw); go_simp; (try with_reducible rfl))
  try simp only [Act.put, List.setIfInBounds_toArray, List.set_cons_zero, List.set_cons_succ]
  refine wpAnyH_take (i := 1) (oi := ⟨_, _, _, _, _, _⟩) (v := ?_) rfl (by kernel_rfl) (by kernel_rfl) (by kernel_rfl) (fun _ _ _ h => h) (Or.inl ⟨by rfl, ?_⟩) hHeld ?_
  rotate_left
  · (intro w' hSw; (try dsimp only at hSw); go_simp; (try with_reducible rfl))
  try simp only [Act.put, List.setIfInBounds_toArray, List.set_cons_zero, List.set_cons_succ]
  refine wpAnyH_ready (rs := [2]) (by kernel_rfl) (by simp) ?_
  refine AllReadyH.cons (o := ⟨_, _, _, _, _, _⟩) rfl (fun K hK => ?_) AllReadyH.nil
  go_simp
  refine hK.out _ _ ?_ (fun hH2 => ?_)
  · ((try dsimp only); ((refine SK.out _ ?_); (repeat with_reducible (first | exact Keeps.refl _ _ | refine Keeps.drewN ?_ _ | refine Keeps.drew ?_ | refine Keeps.var ?_ (fun _ => by omega) _ _ _))))
  clear hK K hHeld
  have hHeld := hH2
  clear hH2
  try simp only [Act.put, List.setIfInBounds_toArray, List.set_cons_zero, List.set_cons_succ]
  refine wpAnyH_take (i := 3) (oi := ⟨_, _, _, _, _, _⟩) (v := ?_) rfl (by kernel_rfl) (by kernel_rfl) (by kernel_rfl) (fun _ _ _ h => h) (Or.inl ⟨by rfl, ?_⟩) hHeld ?_
  rotate_left
  · (intro w' hSw; (try dsimp only at hSw); go_simp; (try with_reducible rfl))
  try simp only [Act.put, List.setIfInBounds_toArray, List.set_cons_zero, List.set_cons_succ]
  refine wpAnyH_done (by kernel_rfl) ?_ _
  refine NoPanic.normal ?_
  clear hHeld
  go_wp2_with fail
  obtain ⟨d0, d1, d2, _⟩ := ((R12.out.set ⟨xk, xn, xt⟩).keeps ((Keeps.refl (fun _ => False) _).drew) (fun h => h)).cells
  simp only at d0 d1 d2
  exact bodyPost_ret (v := .tuple #[.int .i64 0, V.val ⟨xk, xn, xt⟩, .int .i64 0]) (by simp [results, Try.results24, go_sem, d0, d1, d2, V.val]) rfl (hR.out _ _ ⟨rfl, (K2.out.var (r := w.heap.size + 2) (fun h => by omega) _ _ _).drew⟩)
end
end Go.Proofs.Ytmefdniocgcckaa
/- Layer 18: contracts by what is answered; a cell of a native function. -/
namespace Go.Proofs.Ytmefdniocgcckaa
open Go.RowKit
set_option maxRecDepth 100000

/-- A native function's cell. -/
def natCl (n : Int) (t : ByteArray) : Cl := ⟨6, [V.null], none, none, [n], t⟩
theorem Ints.lit (w : World) (xs : List Int) (t : TypeId) {n : Nat} (hn : n = w.heap.size) : Ints (w.alloc (.cells (xs.map (Value.int .i64)).toArray t)) (some ⟨n, 0, none⟩) xs := fun i x hi => by
  subst hn
  refine ⟨_, _, rfl, ?_⟩
  rw [blk_cell (blk_new w _)]
  simp [hi]
section
variable {w wr : World} {F : Nat → Prop} {hb : Nat} {H : List (Option (Nat × Cl))} {s : HSt} {i p : Nat} {c : Cl}
theorem heap_Alloc_native (n : Int) (text : ByteArray) (h : IsHeap wr F hb H s) (ho : HOk H s) (hf : s.live < s.limit) {a b : Addr} (hv : Vals wr (some a) [V.null]) (hn : Ints wr (some b) [n]) :
    Calls Try.prog 10 #[.pointer (some ⟨hb, 0, none⟩), .agg #[.int .i64 6, .slice (some a) 1 1, .pointer none, .pointer none, .slice (some b) 1 1, .string text]] wr fun e w' => ∃ f p F' H' s', e = .returned (.tuple #[.int .i64 (f : Nat), .int .i64 0]) ∧ Made wr w' F (fun _ => False) hb H s (natCl n text) f p F' H' s' := by
  refine (heap_Alloc_made (c := natCl n text) (Av := some a) (An := some b) (lp := none) (tp := none) (cv := 1) (cn := 1) (Fl := fun _ => False) (Ft := fun _ => False) h ho ⟨hv, fun e => (Option.some_ne_none _ e).elim, hn, fun e => (Option.some_ne_none _ e).elim, rfl, rfl, Apart.no _, Apart.no _, Apart.no _, fun _ h => h.elim, fun _ h => h.elim, ⟨by simp [natCl], by simp [natCl], fun b' ys e => by simp [natCl] at e, fun b' L s e => by simp [natCl] at e⟩⟩ (by simp [natCl]) hf).mono ?_
  rintro e w' ⟨i, p, F', H', s', rfl, hM⟩
  exact ⟨i, p, F', H', s', rfl, hM.heap, hM.ok, hM.new, hM.live, hM.limit, hM.freed, hM.runs, hM.lt, hM.keeps, fun k hk => (hM.fresh k hk).imp (fun h => h.imp id (fun h => h.elim id id)) id⟩
theorem methB_nat {f pf : Nat} {n : Int} {t : ByteArray} (h : H[f]? = some (some (pf, natCl n t))) : methB H ⟨4, (f : Nat), ⟨#[]⟩⟩ = true := by
  unfold methB
  rw [ofR_ok h _ (kind := 6) (.inr rfl)]
  simp
theorem methB_val {v : V} (h : v.k ≠ 4) : methB H v = false := by
  unfold methB
  rw [ofR_type h, ofR_type h]; decide
theorem meta_Find_tableB (h : IsHeap w F hb H s) (hi : H[i]? = some (some (p, c))) (hk : c.kind = 2) {j q : Nat} {cd : Cl} {bs : List V} (hv : c.vals = ⟨4, (j : Nat), ⟨#[]⟩⟩ :: bs) {ls : List (List Ent)} (hj : H[j]? = some (some (q, cd))) (hkj : cd.kind = 2) (hd : Dels H (rV (j : Nat)) ls) (hl : ls.length ≤ 1048576) (name : ByteArray) (hnz : name.size ≤ 140737488351232)
    {x : V} {e0 : Int} {b0 : Bool} (hR : tabR ls ⟨3, 0, name⟩ = (x, e0)) (hb0 : (decide (e0 = 0) && methB H x) = b0) :
    Calls Try.prog 20 #[.pointer (some ⟨hb, 0, none⟩), V.val ⟨4, i, ⟨#[]⟩⟩, .string name] w fun e w' => e = .returned (.tuple #[x.val, .bool b0]) ∧ Keeps (fun _ => False) w w' := by
  have h1 := meta_Find_table h hi hk hv hj hkj hd hl name hnz
  rw [hR] at h1
  simp only [hb0] at h1
  exact h1
theorem meta_Find_instB (h : IsHeap w F hb H s) (hi : H[i]? = some (some (p, c))) (hk : c.kind = 4) {j q : Nat} {cd : Cl} {bs : List V} (hv : c.vals = ⟨4, (j : Nat), ⟨#[]⟩⟩ :: bs) (hj : H[j]? = some (some (q, cd))) (hkj : cd.kind = 3) {tb : Nat} {L : List Ent} {sr : Int} (hc : cd.tab = some (tb, L, sr)) (hs : sr < 1073741824) (name : ByteArray) (hnz : name.size ≤ 140737488351232)
    {x : V} {e0 : Int} {b0 : Bool} (hR : getR L ⟨3, 0, name⟩ = (x, e0)) (hb0 : (decide (e0 = 0) && methB H x) = b0) :
    Calls Try.prog 20 #[.pointer (some ⟨hb, 0, none⟩), V.val ⟨4, i, ⟨#[]⟩⟩, .string name] w fun e w' => e = .returned (.tuple #[x.val, .bool b0]) ∧ Keeps (fun _ => False) w w' := by
  have h1 := meta_Find_instance h hi hk (by rw [ofR_kind hi _ (by decide) (by rw [hk]; decide)]; decide) hv hj hkj hc hs name hnz
  rw [hR] at h1
  simp only [hb0] at h1
  exact h1
/-- Of a class, and of what is no cell. -/
theorem meta_Find_not (h : IsHeap w F hb H s) (v : V) (h2 : (ofR H v 2).2 ≠ 0) (h4 : (ofR H v 4).2 ≠ 0) (name : ByteArray) :
    Calls Try.prog 20 #[.pointer (some ⟨hb, 0, none⟩), v.val, .string name] w fun e w' => e = .returned (.tuple #[V.val V.null, .bool false]) ∧ Keeps (fun _ => False) w w' :=
  meta_Find_none v V.null 30 (.inl (by decide)) (fun _ hk => slot_Delegate_no (h.calm hk) v h2) (fun _ hk => lay_Of_no (h.calm hk) v h4) name
theorem not_class (hi : H[i]? = some (some (p, c))) (hk : c.kind = 3) : (ofR H ⟨4, i, ⟨#[]⟩⟩ 2).2 ≠ 0 ∧ (ofR H ⟨4, i, ⟨#[]⟩⟩ 4).2 ≠ 0 :=
  ⟨by rw [ofR_kind hi _ (by decide) (by rw [hk]; decide)]; decide, by rw [ofR_kind hi _ (by decide) (by rw [hk]; decide)]; decide⟩
theorem not_val {v : V} (h : v.k ≠ 4) (k : Int) : (ofR H v k).2 ≠ 0 := by rw [ofR_type h]; simp
end
end Go.Proofs.Ytmefdniocgcckaa
