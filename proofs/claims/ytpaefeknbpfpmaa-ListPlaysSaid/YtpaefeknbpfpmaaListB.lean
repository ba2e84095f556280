/- Layer 4: lists, what turns them: contracts. -/
import Derived.Test.YtpaefeknbpfpmaaList
namespace Go.Proofs.Ytpaefeknbpfpmaa
open Go.RowKit
set_option linter.unusedVariables false

set_option maxHeartbeats 400000 in
theorem list_Push (w : World) (F : Nat → Prop) (b : Nat) (xs ys : List V) (A : Option Addr) (c : Nat) (h : IsList w F b xs) (hy : Vals w A ys) (hx : xs.length ≤ 1048576) (hl : ys.length ≤ 4398046511104) :
    Calls Try.prog 23 #[.pointer (some ⟨b, 0, none⟩), .slice A ys.length c] w fun e w' => ∃ F', (if 1048576 < xs.length + ys.length then e = .returned (.int .i64 2) ∧ IsList w' F' b xs else e = .returned (.int .i64 0) ∧ IsList w' F' b (xs ++ ys)) ∧ Keeps F w w' ∧ Fresh F F' w := by
  have HY := hidden hy
  obtain ⟨v, hL⟩ := h
  have HL := hidden hL
  obtain ⟨A1, c1, rfl⟩ := hL.row.form
  have l0 : w.cell? ⟨b, 0, none⟩ = some (.slice A1 xs.length c1) := blk_cell hL.blk 0
  clear hL hy
  refine post_gen fun R hR => ?_
  by_cases hbig : 1048576 < xs.length + ys.length
  · have i1 : (1048576 : Int) - xs.length < ys.length := by omega
    go_enter Try.func23, Try.ntmps23
    go_wp2
    exact hR.out _ _ ⟨F, by rw [if_pos hbig]; exact ⟨rfl, _, HL.out⟩, Keeps.refl _ _, Fresh.refl _ _⟩
  · have i1 : ¬ (1048576 : Int) - xs.length < ys.length := by omega
    go_enter Try.func23, Try.ntmps23
    go_wp2_with (at_builtin; refine app_list rfl F _ _ _ _ _ _ 3 32 rfl Try.underlying60 info_val rfl (by decide) _ _ _ rfl HL.out.row _ rfl _ _ (HY.out.src Try.underlying60) (by omega) (by omega) ?_; intro A2 c2 w1 hR2 hK2; have d := hidden (hK2.heap (k := b) HL.out.blk (fun e => HL.out.row.ne HL.out.blk (by decide) b e rfl)); have e0 := blk_cell d.out 0; have f0 := blk_frozen d.out 0; simp only [List.getElem?_toArray, List.getElem?_cons_zero] at e0; have HR2 := hidden hR2; have HK2 := hidden hK2; clear hR2 hK2)
    obtain ⟨F2, g1, g2, g3⟩ := HL.out.put (m := 0) (ys := xs ++ ys) (by simp) (flat_append xs ys).symm HR2.out HK2.out ((SameBut.refl b w1).set 0 _) (blk_set d.out 0 _)
    exact hR.out _ _ ⟨F2, by rw [if_neg hbig]; exact ⟨rfl, _, g1⟩, g2, g3⟩

theorem IsListAt.turn {w : World} {F : Nat → Prop} {b n : Nat} {v v1 : Value} {xs ys : List V} {cs : List Value} (h : IsListAt w F b v xs) (hn : n = ys.length) (hc : cs = flat ys) (hR : Row w F 30 3 v1 n cs) :
    IsListAt (w.setCell ⟨b, 0, none⟩ v1) F b v1 ys ∧ Keeps F w (w.setCell ⟨b, 0, none⟩ v1) := by
  subst hn hc
  have hk : Keeps F w (w.setCell ⟨b, 0, none⟩ v1) := (Keeps.refl F w).setCell (fun _ => h.here) _
  exact ⟨⟨blk_set h.blk 0 v1, h.here, hR.set (hR.ne h.blk (by decide)) _, h.inw.keeps hk⟩, hk⟩
theorem IsList.at {w : World} {F : Nat → Prop} {b : Nat} {v : Value} {xs : List V} (h : IsListAt w F b v xs) : IsList w F b xs := ⟨v, h⟩
theorem take_len (xs ys : List V) : (flat (xs ++ ys)).take (xs.length * 3) = flat xs := by rw [flat_take]; simp
theorem list_Pop_some (w : World) (F : Nat → Prop) (b : Nat) (xs : List V) (x : V) (h : IsList w F b (xs ++ [x])) (hx : xs.length ≤ 1048576) :
    Calls Try.prog 41 #[.pointer (some ⟨b, 0, none⟩)] w fun e w' => e = .returned (.tuple #[V.val x, .int .i64 0]) ∧ IsList w' F b xs ∧ Keeps F w w' := by
  obtain ⟨v, hL⟩ := h
  have hn : (xs ++ [x]).length = xs.length + 1 := by simp
  obtain ⟨A, c, rfl⟩ := hL.row.form
  obtain ⟨rb, ro, rfl, h0, h1, h2⟩ := Vals.own hL.row.1 xs.length x (by simp)
  have l0 := blk_cell hL.blk 0
  have l1 := blk_frozen hL.blk 0
  simp only [List.getElem?_toArray, List.getElem?_cons_zero, hn] at l0
  have hcap : xs.length ≤ c := by have := hL.row.cap; omega
  have hb := blk_lt hL.blk
  have hr : rb < w.heap.size := World.block_lt_of_cell? w _ h0
  have HT := hidden (hL.turn rfl (take_len xs [x]) (hL.row.take (m := xs.length) (by omega)))
  clear hL hn
  refine post_gen fun R hR => ?_
  go_enter Try.func41, Try.ntmps41
  go_wp2
  exact bodyPost_ret (v := .tuple #[V.val x, .int .i64 0]) (by simp [results, Try.results41, go_sem, V.val]) rfl (hR.out _ _ ⟨rfl, (IsList.at HT.out.1).none (((Keeps.refl _ _).alloc _).alloc _), (HT.out.2.alloc _).alloc _⟩)
theorem list_Pop_none (w : World) (F : Nat → Prop) (b : Nat) (h : IsList w F b []) :
    Calls Try.prog 41 #[.pointer (some ⟨b, 0, none⟩)] w fun e w' => e = .returned (.tuple #[V.val V.null, .int .i64 3]) ∧ Keeps (fun _ => False) w w' := by
  obtain ⟨v, hL⟩ := h
  obtain ⟨A, c, rfl⟩ := hL.row.form
  have l0 := blk_cell hL.blk 0
  simp only [List.getElem?_toArray, List.getElem?_cons_zero] at l0
  have hb := blk_lt hL.blk
  clear hL
  refine post_gen fun R hR => ?_
  go_enter Try.func41, Try.ntmps41
  go_wp2_with fail
  refine (value_Null _).mono ?_
  rintro e w1 ⟨rfl, hK⟩
  have HV := hidden ((IsVar.new w V.null).keeps hK (fun h => h))
  obtain ⟨c0, c1, c2, f0, f1, f2⟩ := HV.out.cells
  simp only [V.null] at c0 c1 c2
  unfold V.val V.null
  go_wp2
  obtain ⟨d0, d1, d2, _⟩ := (HV.out.set V.null).cells
  simp only [V.null] at d0 d1 d2
  exact bodyPost_ret (v := .tuple #[V.val V.null, .int .i64 3]) (by simp [results, Try.results41, go_sem, d0, d1, d2, V.val, V.null]) rfl (hR.out _ _ ⟨rfl, (((Keeps.refl _ w).alloc _).trans hK (fun _ _ h => h)).var (fun h => by omega) _ _ _⟩)

theorem list_Set_none (w : World) (F : Nat → Prop) (b : Nat) (xs : List V) (at' : Int) (y : V) (h : IsList w F b xs) (hat : at' < 0 ∨ (xs.length : Int) ≤ at') :
    Calls Try.prog 42 #[.pointer (some ⟨b, 0, none⟩), .int .i64 at', y.val] w fun e w' => e = .returned (.int .i64 1) ∧ Keeps (fun _ => False) w w' := by
  have key := hidden (fun W (h : IsList W F b xs) => list_place W F b xs at' h)
  have H := hidden h
  rw [if_pos hat] at key
  clear h hat
  obtain ⟨k, n, t⟩ := y
  unfold V.val
  refine post_gen fun R hR => ?_
  go_enter Try.func42, Try.ntmps42
  go_wp2_with fail
  refine (key.out _ (H.out.none ((Keeps.refl _ _).alloc _))).mono ?_
  rintro e _ ⟨rfl, rfl⟩
  go_wp2
  exact hR.out _ _ ⟨rfl, (Keeps.refl _ _).alloc _⟩
theorem flat_set (xs : List V) (y : V) : ∀ i, i < xs.length → (((flat xs).set (i * 3) (.int .i64 y.k)).set (i * 3 + 1) (.int .i64 y.n)).set (i * 3 + 2) (.string y.t) = flat (xs.set i y) := by
  induction xs with
  | nil => intro i h; simp at h
  | cons x xs ih =>
    intro i h
    have e : flat (x :: xs) = x.cells ++ flat xs := by simp [flat]
    cases i with
    | zero => simp [flat, V.cells]
    | succ i =>
      have := ih i (by simpa using h)
      have e2 : flat ((x :: xs).set (i + 1) y) = x.cells ++ flat (xs.set i y) := by simp [flat]
      rw [e, e2, ← this]
      simp [V.cells, Nat.succ_mul]
/-- A row of the call's own with something in it: its block, its cells at a place, and a store there. -/
theorem Row.open3 {w : World} {F : Nat → Prop} {n c : Nat} {A : Option Addr} {xs : List V} (h : Row w F 30 3 (.slice A n c) n (flat xs)) {i : Nat} (hi : i < xs.length) : ∃ g, A = some ⟨g, 0, none⟩ ∧ F g ∧ g < w.heap.size ∧
    w.cell? ⟨g, i * 3, none⟩ = some (.int .i64 xs[i].k) ∧ w.cell? ⟨g, i * 3 + 1, none⟩ = some (.int .i64 xs[i].n) ∧ w.cell? ⟨g, i * 3 + 2, none⟩ = some (.string xs[i].t) ∧
    w.frozen? ⟨g, i * 3, none⟩ = false ∧ w.frozen? ⟨g, i * 3 + 1, none⟩ = false ∧ w.frozen? ⟨g, i * 3 + 2, none⟩ = false := by
  obtain ⟨b, o, rfl, h0, h1, h2⟩ := Vals.own h.1 i xs[i] (by simp [hi])
  have ho : o = 0 := by
    rcases h.1.2 with ⟨he, _⟩ | ⟨g, cap, cur, he, _⟩
    · simp at he
    · simp at he; exact he.1.2
  subst ho
  simp only [Nat.zero_add] at h0 h1 h2
  exact ⟨b, rfl, h.2 b rfl, World.block_lt_of_cell? w _ h0, h0, h1, h2, h.1.frozenAt _, h.1.frozenAt _, h.1.frozenAt _⟩
def put3 (w : World) (g i : Nat) (y : V) : World := ((w.setCell ⟨g, i * 3, none⟩ (.int .i64 y.k)).setCell ⟨g, i * 3 + 1, none⟩ (.int .i64 y.n)).setCell ⟨g, i * 3 + 2, none⟩ (.string y.t)
theorem Row.put3 {w : World} {F : Nat → Prop} {n c g : Nat} {xs : List V} (h : Row w F 30 3 (.slice (some ⟨g, 0, none⟩) n c) n (flat xs)) {i : Nat} (hi : i < xs.length) (y : V) :
    Row (put3 w g i y) F 30 3 (.slice (some ⟨g, 0, none⟩) n c) n (flat (xs.set i y)) := by
  have h3 := ((h.1.stored (i * 3) (.int .i64 y.k)).1.stored (i * 3 + 1) (.int .i64 y.n)).1.stored (i * 3 + 2) (.string y.t)
  rw [flat_set xs y i hi] at h3
  exact ⟨h3.1, h.2⟩
theorem SameBut.put3 {b : Nat} {w1 w2 : World} (h : SameBut b w1 w2) (i : Nat) (y : V) : SameBut b w1 (put3 w2 b i y) := ((h.set _ _).set _ _).set _ _
theorem IsListAt.put3 {w : World} {F : Nat → Prop} {b n c g : Nat} {xs : List V} (h : IsListAt w F b (.slice (some ⟨g, 0, none⟩) n c) xs) {i : Nat} (hi : i < xs.length) (y : V) :
    IsListAt (put3 w g i y) F b (.slice (some ⟨g, 0, none⟩) n c) (xs.set i y) ∧ Keeps F w (put3 w g i y) := by
  have hrow := h.row
  obtain ⟨A', c', e⟩ := hrow.form
  simp at e
  obtain ⟨-, rfl, -⟩ := e
  have hs := (SameBut.refl g w).put3 i y
  have hk : Keeps F w (Go.Proofs.Ytpaefeknbpfpmaa.put3 w g i y) := hs.keeps.mono (fun k _ e => e ▸ h.row.2 g rfl)
  have hne : b ≠ g := fun e => h.row.ne h.blk (by decide) g rfl e.symm
  refine ⟨⟨(hs.block b hne).trans h.blk, h.here, ?_, h.inw.keeps hk⟩, hk⟩
  have := hrow.put3 hi y
  simpa using this
theorem list_Set_some (w : World) (F : Nat → Prop) (b : Nat) (xs : List V) (i : Nat) (y : V) (h : IsList w F b xs) (hi : i < xs.length) :
    Calls Try.prog 42 #[.pointer (some ⟨b, 0, none⟩), .int .i64 i, y.val] w fun e w' => e = .returned (.int .i64 0) ∧ IsList w' F b (xs.set i y) ∧ Keeps F w w' := by
  have key := hidden (fun W (h : IsList W F b xs) => list_place W F b xs i h)
  have H := hidden h
  rw [if_neg (by omega)] at key
  obtain ⟨v, hL⟩ := h
  obtain ⟨A, c, rfl⟩ := hL.row.form
  obtain ⟨g, rfl, hg, hgw, h0, h1, h2, f0, f1, f2⟩ := hL.row.open3 hi
  have l0 := blk_cell hL.blk 0
  simp only [List.getElem?_toArray, List.getElem?_cons_zero] at l0
  have hb := blk_lt hL.blk
  have hneg : ¬ ((i : Int) < 0) := by omega
  have HT := hidden (hL.put3 hi y)
  clear hL
  unfold V.val
  refine post_gen fun R hR => ?_
  go_enter Try.func42, Try.ntmps42
  go_wp2_with fail
  refine (key.out _ (H.out.none ((Keeps.refl _ _).alloc _))).mono ?_
  rintro e _ ⟨rfl, rfl⟩
  go_wp2
  go_region
  go_wp2
  exact hR.out _ _ ⟨rfl, (IsList.at HT.out.1).none ((Keeps.refl _ _).alloc _).drew, (HT.out.2.alloc _).drew⟩
end Go.Proofs.Ytpaefeknbpfpmaa
