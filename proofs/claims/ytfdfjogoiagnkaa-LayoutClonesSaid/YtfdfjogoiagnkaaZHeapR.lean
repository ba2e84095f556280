/- Layer 6: the heap: the values of a cell, read and turned where they lie. -/
import Derived.Test.YtfdfjogoiagnkaaGrpE
namespace Go.Proofs.Ytfdfjogoiagnkaa
open Go.RowKit
set_option maxRecDepth 100000

def iV (n : Int) : V := ⟨2, n, ⟨#[]⟩⟩
def rV (n : Int) : V := ⟨4, n, ⟨#[]⟩⟩
section
variable {w : World} {F : Nat → Prop} {hb : Nat} {H : List (Option (Nat × Cl))} {s : HSt} {i p : Nat} {c : Cl}
/-- What a cell's values become, where they lie. -/
theorem CellX.setVals {w1 : World} {G : Nat → Nat → Prop} {vv vn : Value} {lp tp : Option Addr} {ys : List V} (h : CellX w p F c G vv vn lp tp) (hk : Keeps (G 0) w w1) (hl : ys.length = c.vals.length) (hr : Row w1 (G 0) 26 3 vv ys.length (flat ys)) :
    CellX w1 p F { c with vals := ys } G vv vn lp tp :=
  ⟨hk.heap h.blk (h.off 0), h.here, h.sub, h.off, h.ap, hr, h.list.keeps hk (h.ap 1 0 (by decide)), h.tab.keeps hk (h.ap 2 0 (by decide)), h.nums.keeps hk (h.ap 3 0 (by decide)), h.inw.keeps hk, ⟨by rw [show ({ c with vals := ys } : Cl).vals.length = ys.length from rfl, hl]; exact h.small.vals, h.small.nums, h.small.list, h.small.tab⟩⟩
theorem held_vals (h : IsHeap w F hb H s) (hi : H[i]? = some (some (p, c))) :
    ∃ (Fv : Nat → Prop) (A : Option Addr) (cap : Nat) (lp tp An : Option Addr) (cn : Nat), w.heap[p]? = some (.cells #[.int .i64 c.kind, .slice A c.vals.length cap, .pointer lp, .pointer tp, .slice An c.nums.length cn, .string c.text] 41 (0, 0)) ∧ F p ∧ ¬ Fv p ∧ (∀ k, Fv k → F k) ∧
      Row w Fv 26 3 (.slice A c.vals.length cap) c.vals.length (flat c.vals) ∧ Row w F 2 1 (.slice An c.nums.length cn) c.nums.length (intCells c.nums) ∧
      ∀ (w1 : World) (ys : List V), Keeps Fv w w1 → ys.length = c.vals.length → Row w1 Fv 26 3 (.slice A c.vals.length cap) c.vals.length (flat ys) →
        ∃ F2, IsHeap w1 F2 hb (H.set i (some (p, { c with vals := ys }))) s ∧ Keeps F w w1 ∧ Fresh F F2 w := by
  obtain ⟨Fam, vc, vf, hX⟩ := h
  obtain ⟨G, vv, vn, lp, tp, hC⟩ := hX.each i p c hi
  obtain ⟨A, cap, rfl⟩ := hC.vals.form
  obtain ⟨An, cn, rfl⟩ := hC.nums.form
  refine ⟨G 0, A, cap, lp, tp, An, cn, hC.blk, hX.sub _ p hC.here, hC.off 0, fun k hk => hX.sub _ k (hC.sub 0 k hk), hC.vals, hC.nums.mono (fun k _ hk => hX.sub _ k (hC.sub 3 k hk)), fun w1 ys hk hl hr => ?_⟩
  have g1 := hC.setVals hk hl (by rw [hl]; exact hr)
  obtain ⟨r1, r2, r3⟩ := hX.setCell hi (hk.mono (T := Fam (i + 3)) (fun k _ hg => hC.sub 0 k hg)) ⟨G, _, _, lp, tp, g1⟩ (Fresh.refl _ _)
  exact ⟨_, ⟨_, _, _, r1⟩, r2, r3⟩
end
/-- A heap within a statement. -/
structure Hd (w : World) (hb : Nat) (F : Nat → Prop) (H : Hp) (s : HSt) (wr : World) : Prop where
  heap : IsHeap wr F hb H s
  ok : HOk H s
  hF : ∀ k, F k → w.heap.size ≤ k
  K : Keeps (fun k => w.heap.size ≤ k) w wr
section
variable {w wr wj : World} {hb : Nat} {F F' F0 : Nat → Prop} {H H' : Hp} {s s' : HSt}
theorem Hd.calm (h : Hd w hb F H s wr) (hk : Keeps (fun _ => False) wr wj) : Hd w hb F H s wj := ⟨h.heap.calm hk, h.ok, h.hF, h.K.trans hk (fun _ _ h => h.elim)⟩
theorem Hd.other {S : Nat → Prop} (h : Hd w hb F H s wr) (hk : Keeps S wr wj) (hn : Apart F S) (hS : ∀ k, S k → w.heap.size ≤ k) : Hd w hb F H s wj := ⟨h.heap.keeps hk hn, h.ok, h.hF, h.K.trans hk (fun k _ h => hS k h)⟩
theorem Hd.made {i p : Nat} {c : Cl} (h : Hd w hb F H s wr) (hm : Made wr wj F F0 hb H s c i p F' H' s') (h0 : ∀ k, F0 k → w.heap.size ≤ k) : Hd w hb F' H' s' wj :=
  ⟨hm.heap, hm.ok, fun k hk => (hm.fresh k hk).elim (fun h1 => h1.elim (h.hF k) (h0 k)) (fun h1 => Nat.le_trans h.K.size h1), h.K.trans hm.keeps (fun k _ h1 => h.hF k h1)⟩
theorem Hd.coll {rs fr : List Int} {ms : List Bool} (h : Hd w hb F H s wr) (hc : Coll H s rs H' s' fr ms) (hh : IsHeap wj F' hb H' s') (hk : Keeps F wr wj) (hf : Fresh F F' wr) : Hd w hb F' H' s' wj :=
  ⟨hh, hc.ok, fun k hk => (hf k hk).elim (h.hF k) (fun h1 => Nat.le_trans h.K.size h1), h.K.trans hk (fun k _ h1 => h.hF k h1)⟩
end
/-- A variable that lies beside the heap. -/
structure Vr (F : Nat → Prop) (w : World) (v : Nat) (x : V) : Prop where
  var : IsVar w v x
  off : ¬ F v
theorem Vr.calm {F : Nat → Prop} {w w1 : World} {v : Nat} {x : V} (h : Vr F w v x) (hk : Keeps (fun _ => False) w w1) : Vr F w1 v x := ⟨h.var.keeps hk (fun h => h), h.off⟩
theorem Vr.step {F F' : Nat → Prop} {w w1 : World} {v : Nat} {x : V} (h : Vr F w v x) (hk : Keeps F w w1) (hf : Fresh F F' w) : Vr F' w1 v x :=
  ⟨h.var.keeps hk h.off, fun h1 => (hf v h1).elim h.off (fun h2 => Nat.lt_irrefl _ (Nat.lt_of_lt_of_le (blk_lt h.var) h2))⟩
theorem Vr.new {F : Nat → Prop} {w : World} (x : V) (hF : In F w) : Vr F (w.alloc (.cells #[.int .i64 x.k, .int .i64 x.n, .string x.t] 26)) w.heap.size x := ⟨IsVar.new w x, fun h => Nat.lt_irrefl _ (hF _ h)⟩
theorem Vr.cells {F : Nat → Prop} {w : World} {v : Nat} {x : V} (h : Vr F w v x) : w.cell? ⟨v, 0, none⟩ = some (.int .i64 x.k) ∧ w.cell? ⟨v, 1, none⟩ = some (.int .i64 x.n) ∧ w.cell? ⟨v, 2, none⟩ = some (.string x.t) ∧ v < w.heap.size :=
  ⟨h.var.cells.1, h.var.cells.2.1, h.var.cells.2.2.1, blk_lt h.var⟩
section
variable {H H' : Hp} {i j : Nat} {x y : Nat × Cl}
theorem NewAt.at_ (h : NewAt H H' i x) : H'[i]? = some (some x) := atH_some.1 h.here
theorem NewAt.ne (h : NewAt H H' i x) (hj : H[j]? = some (some y)) : j ≠ i := fun e => by
  have h1 := atH_some.2 hj
  rw [e, h.was] at h1; cases h1
theorem NewAt.old (h : NewAt H H' i x) (hj : H[j]? = some (some y)) : H'[j]? = some (some y) := atH_some.1 ((h.else_ j (h.ne hj)).trans (atH_some.2 hj))
end
theorem Made.fr {w w' : World} {F : Nat → Prop} {hb : Nat} {H : List (Option (Nat × Cl))} {s : HSt} {c : Cl} {i p : Nat} {F' : Nat → Prop} {H' : List (Option (Nat × Cl))} {s' : HSt} (h : Made w w' F (fun _ => False) hb H s c i p F' H' s') : Fresh F F' w := fun k hk => (h.fresh k hk).imp (fun h => h.elim id (fun h => h.elim)) id
def tabH (H : Hp) (i p : Nat) (c : Cl) (tb : Nat) (q : List Ent × Int) : Hp := H.set i (some (p, { c with tab := some (tb, q.1, q.2) }))
section
variable {H : Hp} {i j p tb : Nat} {c : Cl} {q : List Ent × Int} {y : Nat × Cl}
theorem tabH_at (hi : H[i]? = some (some (p, c))) : (tabH H i p c tb q)[i]? = some (some (p, { c with tab := some (tb, q.1, q.2) })) := by
  have hil := (List.getElem?_eq_some_iff.1 hi).1
  unfold tabH
  rw [List.getElem?_set_self hil]
theorem tabH_old (hj : H[j]? = some (some y)) (hne : j ≠ i) : (tabH H i p c tb q)[j]? = some (some y) := by
  unfold tabH
  rw [List.getElem?_set_ne (Ne.symm hne)]; exact hj
theorem Hd.turn {w wr wj : World} {hb : Nat} {F F' : Nat → Prop} {s : HSt} (h : Hd w hb F H s wr) (hi : H[i]? = some (some (p, c))) (hh : IsHeap wj F' hb (tabH H i p c tb q) s) (hk : Keeps F wr wj) (hf : Fresh F F' wr) : Hd w hb F' (tabH H i p c tb q) s wj :=
  ⟨hh, h.ok.turn hi _, fun k hk' => (hf k hk').elim (h.hF k) (fun h1 => Nat.le_trans h.K.size h1), h.K.trans hk (fun k _ h1 => h.hF k h1)⟩
end
end Go.Proofs.Ytfdfjogoiagnkaa
