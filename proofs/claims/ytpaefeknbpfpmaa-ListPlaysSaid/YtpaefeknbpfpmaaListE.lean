/- Layer 4: lists inserted into, cleared, removed from, resized: contracts. -/
import Derived.Test.YtpaefeknbpfpmaaListD
namespace Go.Proofs.Ytpaefeknbpfpmaa
open Go.RowKit

theorem new2 (w : World) (o o' : Obj) : ((w.alloc o).alloc o').heap[w.heap.size + 1]? = some o' := by
  have := blk_new (w.alloc o) o'
  simpa using this
theorem IsVar.new2 (w : World) (o : Obj) (y : V) : IsVar ((w.alloc o).alloc (.cells #[.int .i64 y.k, .int .i64 y.n, .string y.t] 30)).drew (w.heap.size + 1) y := Go.Proofs.Ytpaefeknbpfpmaa.new2 w o _
/-- The list's own cell behind a call that made its row anew. -/
theorem IsListAt.cellKept {w W w1 : World} {F : Nat → Prop} {b : Nat} {v : Value} {xs : List V} (h : IsListAt w F b v xs) (hk : Keeps (fun _ => False) w W) (hk1 : Keeps (fun k => v.ownBlock = some k) W w1) :
    w1.heap[b]? = some (.cells #[v] 124 (0, 0)) := hk1.heap (hk.heap h.blk (fun h => h)) (fun e => h.row.ne h.blk (by decide) b e rfl)
theorem IsListAt.put' {w W w1 w2 : World} {F : Nat → Prop} {b n : Nat} {v v1 : Value} {xs ys : List V} {cs : List Value} (h : IsListAt w F b v xs) (hk : Keeps (fun _ => False) w W) (hn : n = ys.length) (hc : cs = flat ys)
    (hR : Row w1 (fun k => F k ∨ W.heap.size ≤ k) 30 3 v1 n cs) (hk1 : Keeps (fun k => v.ownBlock = some k) W w1) (h2 : SameBut b w1 w2) (hb : w2.heap[b]? = some (.cells #[v1] 124 (0, 0))) :
    ∃ F2, IsListAt w2 F2 b v1 ys ∧ Keeps F w w2 ∧ Fresh F F2 w := by
  have hW : IsListAt W F b v xs := ⟨hk.heap h.blk (fun h => h), h.here, h.row.keeps hk (Apart.no _), h.inw.keeps hk⟩
  obtain ⟨F2, g1, g2, g3⟩ := hW.put (m := 0) hn hc hR hk1 h2 hb
  exact ⟨F2, g1, (hk.mono (fun _ _ h => h.elim)).trans g2 (fun _ _ h => h), fun k hF => (g3 k hF).imp id (fun h => Nat.le_trans hk.size h)⟩
theorem insert_len {xs : List V} {i : Nat} {y : V} (hi : i ≤ xs.length) : xs.length + 1 = (xs.take i ++ y :: xs.drop i).length := by simp; omega
set_option maxHeartbeats 400000 in
theorem list_Insert_ok (w : World) (F : Nat → Prop) (b : Nat) (xs : List V) (i : Nat) (y : V) (h : IsList w F b xs) (hl : xs.length < 1048576) (hi : i ≤ xs.length) :
    Calls Try.prog 43 #[.pointer (some ⟨b, 0, none⟩), .int .i64 i, y.val] w fun e w' => ∃ F', e = .returned (.int .i64 0) ∧ IsList w' F' b (xs.take i ++ y :: xs.drop i) ∧ Keeps F w w' ∧ Fresh F F' w := by
  obtain ⟨v, hL⟩ := h
  have HL := hidden hL
  obtain ⟨A, c, rfl⟩ := hL.row.form
  have l0 : w.cell? ⟨b, 0, none⟩ = some (.slice A xs.length c) := blk_cell hL.blk 0
  have l0f : w.frozen? ⟨b, 0, none⟩ = false := blk_frozen hL.blk 0
  have hb := blk_lt hL.blk
  have key := hidden (fun (W : World) (vb : Nat) (hk : Keeps (fun _ => False) w W) (hv : IsVar W vb y) (hn : w.heap.size ≤ vb) => slices_Insert W F A c xs i y vb (hL.row.keeps hk (Apart.no _)) (by omega) hi hv (fun hF => by have := hL.inw vb hF; omega))
  have i1 : ¬ ((i : Int) < 0) := by omega
  have i2 : ¬ ((xs.length : Int) < i) := by omega
  have i3 : ¬ ((xs.length : Int) = 1048576) := by omega
  clear hL
  unfold V.val
  refine post_gen fun R hR => ?_
  go_enter Try.func43, Try.ntmps43
  go_wp2
  go_region_law (go_simp; go_at_call 85; refine (key.out _ (w.heap.size + 1) (((Keeps.refl _ w).alloc _).alloc _).drew (IsVar.new2 w _ y) (by omega)).mono ?_; rintro e w1 ⟨A2, c2, rfl, hR1, hK1⟩; have d := hidden (HL.out.cellKept (((Keeps.refl _ w).alloc _).alloc _).drew hK1); have e0 := blk_cell d.out 0; have f0 := blk_frozen d.out 0; simp only [List.getElem?_toArray, List.getElem?_cons_zero] at e0; have HR1 := hidden hR1; have HK1 := hidden hK1; clear hR1 hK1)
  all_goals
    go_wp2
    obtain ⟨F2, g1, g2, g3⟩ := HL.out.put' (((Keeps.refl _ w).alloc _).alloc _).drew (insert_len hi) rfl HR1.out HK1.out ((SameBut.refl b w1).set 0 _) (blk_set d.out 0 _)
    exact hR.out _ _ ⟨F2, rfl, IsList.at g1, g2, g3⟩
theorem list_Insert_range (w : World) (F : Nat → Prop) (b : Nat) (xs : List V) (at' : Int) (y : V) (h : IsList w F b xs) (hi : at' < 0 ∨ (xs.length : Int) < at') :
    Calls Try.prog 43 #[.pointer (some ⟨b, 0, none⟩), .int .i64 at', y.val] w fun e w' => e = .returned (.int .i64 1) ∧ Keeps (fun _ => False) w w' := by
  obtain ⟨v, hL⟩ := h
  obtain ⟨A, c, rfl⟩ := hL.row.form
  have l0 : w.cell? ⟨b, 0, none⟩ = some (.slice A xs.length c) := blk_cell hL.blk 0
  have hb := blk_lt hL.blk
  clear hL
  unfold V.val
  refine post_gen fun R hR => ?_
  by_cases h1 : at' < 0
  · go_enter Try.func43, Try.ntmps43
    go_wp2
    exact hR.out _ _ ⟨rfl, (Keeps.refl _ w).alloc _⟩
  · have h2 : (xs.length : Int) < at' := by omega
    go_enter Try.func43, Try.ntmps43
    go_wp2
    exact hR.out _ _ ⟨rfl, (Keeps.refl _ w).alloc _⟩
theorem list_Insert_long (w : World) (F : Nat → Prop) (b : Nat) (xs : List V) (at' : Int) (y : V) (h : IsList w F b xs) (hi : 0 ≤ at' ∧ at' ≤ (xs.length : Int)) (hl : xs.length = 1048576) :
    Calls Try.prog 43 #[.pointer (some ⟨b, 0, none⟩), .int .i64 at', y.val] w fun e w' => e = .returned (.int .i64 2) ∧ Keeps (fun _ => False) w w' := by
  obtain ⟨v, hL⟩ := h
  obtain ⟨A, c, rfl⟩ := hL.row.form
  have l0 : w.cell? ⟨b, 0, none⟩ = some (.slice A xs.length c) := blk_cell hL.blk 0
  have hb := blk_lt hL.blk
  clear hL
  obtain ⟨h1, h2⟩ := hi
  have h1' : ¬ at' < 0 := by omega
  have h2' : ¬ (xs.length : Int) < at' := by omega
  unfold V.val
  refine post_gen fun R hR => ?_
  go_enter Try.func43, Try.ntmps43
  go_wp2
  exact hR.out _ _ ⟨rfl, (Keeps.refl _ w).alloc _⟩

theorem zeros_null (k : Nat) : (Builtin.zeroCells (Value.agg #[.int .i64 0, .int .i64 0, .string ⟨#[]⟩]).cells k).toList.length = k * 3 := by simp [Builtin.zeroCells, Value.cells]
theorem list_Clear (w : World) (F : Nat → Prop) (b : Nat) (xs : List V) (h : IsList w F b xs) :
    Calls Try.prog 47 #[.pointer (some ⟨b, 0, none⟩)] w fun e w' => e = .returned (.tuple #[]) ∧ IsList w' F b [] ∧ Keeps F w w' := by
  obtain ⟨v, hL⟩ := h
  have HL := hidden hL
  obtain ⟨A, c, rfl⟩ := hL.row.form
  have l0 : w.cell? ⟨b, 0, none⟩ = some (.slice A xs.length c) := blk_cell hL.blk 0
  have l0f : w.frozen? ⟨b, 0, none⟩ = false := blk_frozen hL.blk 0
  refine post_gen fun R hR => ?_
  by_cases hx : xs = []
  · subst hx
    clear hL
    simp only [List.length_nil] at l0
    have hrun : ∀ (W : World) ty, (Builtin.clear_ #[60] ty #[.slice A 0 c]).run Try.prog W = .ok (.tuple #[]) W := fun W ty => by
      cases A <;> simp [Builtin.clear_, run_underlying Try.underlying60]
    go_enter Try.func47, Try.ntmps47
    go_wp2
    go_end0
    have ht := HL.out.turn (ys := []) (n := 0) (cs := []) rfl (by simp [flat]) (by simpa [flat] using HL.out.row.take (m := 0) (by simp))
    exact hR.out _ _ ⟨rfl, IsList.at ht.1, ht.2⟩
  · have hpos : 0 < xs.length := List.length_pos_iff.2 hx
    obtain ⟨g, cur, rfl, hFg, hg, hnc, hcm, hcs, htk⟩ := hL.row.blk hpos
    have hgb : g ≠ b := hL.row.ne hL.blk (by decide) g rfl
    have HG := hidden hg
    have hfit : 0 + xs.length * 3 ≤ cur.size := by rw [hcs]; omega
    clear hL hg htk
    go_enter Try.func47, Try.ntmps47
    go_wp2_with (refine clear_list rfl _ _ _ rfl _ 3 32 Try.underlying60 info_val rfl (by decide) (g := g) (go' := 0) (n := xs.length) (c := c) rfl 0 xs.length rfl rfl hpos cur _ HG.out hfit ?_; intro w1 hg1 hk1; have HG1 := hidden hg1; have HK1 := hidden hk1; have d := hidden (hk1.heap HL.out.blk (fun e => hgb e.symm)); have e0 := blk_cell d.out 0; have f0 := blk_frozen d.out 0; simp only [List.getElem?_toArray, List.getElem?_cons_zero] at e0; clear hg1 hk1)
    go_end0
    have hrow : Row w1 F 30 3 (.slice (some ⟨g, 0, none⟩) 0 c) 0 (flat []) := Row.ofBlk HG1.out hFg (Nat.zero_le _) hcm (by rw [laid_size (by rw [zeros_null]; simpa using hfit)]; simpa using hcs) (by simp [flat])
    have hk : Keeps F w w1 := HK1.out.mono (fun k _ e => e ▸ hFg)
    have hk2 := hk.setCell (p := ⟨b, 0, none⟩) (fun _ => HL.out.here) (.slice (some ⟨g, 0, none⟩) 0 c)
    exact hR.out _ _ ⟨rfl, ⟨_, blk_set d.out 0 _, HL.out.here, hrow.set (p := ⟨b, 0, none⟩) (fun k hk => by simp [Value.ownBlock] at hk; exact hk ▸ hgb) _, HL.out.inw.keeps hk2⟩, hk2⟩
end Go.Proofs.Ytpaefeknbpfpmaa
