/- dreylaw06.HeapCells: how all lies within the walk. -/
import Derived.Test.YtpaefeknbpfpmaaZHeapR
import Derived.Test.YtpaefeknbpfpmaaZKeeps6
namespace Go.Proofs.Ytpaefeknbpfpmaa
open Go.RowKit
set_option maxRecDepth 100000

theorem kindName_none {k : Int} (h : ¬ (1 ≤ k ∧ k < 11)) : kindName k = ⟨#[]⟩ := by unfold kindName; rw [if_neg h]
theorem Vals.far {w wi : World} {A : Option Addr} {xs : List V} (h : Vals w A xs) (hk : Keeps (fun k => w.heap.size ≤ k) w wi) : Vals wi A xs := h.keeps hk (fun h0 b o hA hS => by have := h.lt h0 b o hA; omega)
/-- The variable c: a cell of its own. -/
structure SC (w wr : World) (a0 a1 a2 a3 a4 a5 : Value) : Prop where
  K : Keeps (fun k => w.heap.size ≤ k) w wr
  cb : wr.heap[w.heap.size]? = some (.cells #[a0, a1, a2, a3, a4, a5] 64 (0, 0))
theorem SC.calm {w wr wj : World} {a0 a1 a2 a3 a4 a5 : Value} (h : SC w wr a0 a1 a2 a3 a4 a5) (hk : Keeps (fun _ => False) wr wj) : SC w wj a0 a1 a2 a3 a4 a5 :=
  ⟨h.K.trans hk (fun _ _ h => h.elim), hk.heap h.cb (fun h => h)⟩
theorem SC.other {w wr wj : World} {S : Nat → Prop} {a0 a1 a2 a3 a4 a5 : Value} (h : SC w wr a0 a1 a2 a3 a4 a5) (hk : Keeps S wr wj) (hS : ∀ k, S k → w.heap.size ≤ k) (hn : ¬ S w.heap.size) : SC w wj a0 a1 a2 a3 a4 a5 :=
  ⟨h.K.trans hk (fun k _ h => hS k h), hk.heap h.cb hn⟩
theorem SC.facts {w wr : World} {a0 a1 a2 a3 a4 a5 : Value} (h : SC w wr a0 a1 a2 a3 a4 a5) : wr.cell? ⟨w.heap.size, 0, none⟩ = some a0 ∧ wr.cell? ⟨w.heap.size, 1, none⟩ = some a1 ∧ wr.cell? ⟨w.heap.size, 2, none⟩ = some a2 ∧ wr.cell? ⟨w.heap.size, 3, none⟩ = some a3 ∧ wr.cell? ⟨w.heap.size, 4, none⟩ = some a4 ∧ wr.cell? ⟨w.heap.size, 5, none⟩ = some a5 ∧ wr.frozen? ⟨w.heap.size, 2, none⟩ = false ∧ wr.frozen? ⟨w.heap.size, 3, none⟩ = false ∧ w.heap.size < wr.heap.size :=
  ⟨blk_cell h.cb 0, blk_cell h.cb 1, blk_cell h.cb 2, blk_cell h.cb 3, blk_cell h.cb 4, blk_cell h.cb 5, blk_frozen h.cb 2, blk_frozen h.cb 3, blk_lt h.cb⟩
theorem SC.put {w wr : World} {a0 a1 a2 a3 a4 a5 : Value} (h : SC w wr a0 a1 a2 a3 a4 a5) (u v : Value) : SC w ((wr.setCell ⟨w.heap.size, 2, none⟩ u).setCell ⟨w.heap.size, 3, none⟩ v) a0 a1 u v a4 a5 :=
  ⟨(h.K.setCell (p := ⟨w.heap.size, 2, none⟩) (fun _ => Nat.le_refl _) u).setCell (p := ⟨w.heap.size, 3, none⟩) (fun _ => Nat.le_refl _) v, blk_set (blk_set h.cb 2 u) 3 v⟩
/-- How all lies while the cell's values turn. -/
structure V3 (w wr : World) (hb i p : Nat) (c : Cl) (a0 a1 a2 a3 a4 a5 : Value) (ys : List V) : Prop where
  lie : ∃ F H s, Hd w hb F H s wr ∧ H[i]? = some (some (p, { c with vals := ys })) ∧ ¬ F w.heap.size
  box : SC w wr a0 a1 a2 a3 a4 a5
theorem V3.calm {w wr wj : World} {hb i p : Nat} {c : Cl} {a0 a1 a2 a3 a4 a5 : Value} {ys : List V} (h : V3 w wr hb i p c a0 a1 a2 a3 a4 a5 ys) (hk : Keeps (fun _ => False) wr wj) : V3 w wj hb i p c a0 a1 a2 a3 a4 a5 ys := by
  obtain ⟨⟨F, H, s, h1, h2, h3⟩, hb⟩ := h
  exact ⟨⟨F, H, s, h1.calm hk, h2, h3⟩, hb.calm hk⟩
/-- The cell's place, its values' row; a store there. -/
theorem V3.held {w wr : World} {hb i p : Nat} {c : Cl} {a0 a1 a2 a3 a4 a5 : Value} {ys : List V} (h : V3 w wr hb i p c a0 a1 a2 a3 a4 a5 ys) :
    ∃ (Fv : Nat → Prop) (A : Option Addr) (cap : Nat) (lp tp An : Option Addr) (cn : Nat), wr.heap[p]? = some (.cells #[.int .i64 c.kind, .slice A ys.length cap, .pointer lp, .pointer tp, .slice An c.nums.length cn, .string c.text] 64 (0, 0)) ∧
      Row wr Fv 30 3 (.slice A ys.length cap) ys.length (flat ys) ∧ (∀ k, Fv k → w.heap.size ≤ k ∧ k ≠ w.heap.size ∧ k ≠ p) ∧
      ∀ (wj wk : World) (g q : Nat) (y : V), Keeps (fun _ => False) wr wj → A = some ⟨g, 0, none⟩ → q < ys.length → wk = put3 wj g q y → V3 w wk hb i p c a0 a1 a2 a3 a4 a5 (ys.set q y) := by
  obtain ⟨⟨F, H, s, h1, h2, h3⟩, hb⟩ := h
  obtain ⟨Fv, A, cap, lp, tp, An, cn, g1, g2, g3, g4, g5, g6, g7⟩ := held_vals h1.heap h2
  refine ⟨Fv, A, cap, lp, tp, An, cn, g1, g5, fun k hk => ⟨h1.hF k (g4 k hk), fun e => h3 (e ▸ g4 k hk), fun e => g3 (e ▸ hk)⟩, ?_⟩
  rintro wj wk g q y hk rfl hq rfl
  have hr := g5.keeps hk (Apart.no _)
  have hg : Fv g := hr.2 g rfl
  have hr2 := hr.put3 hq y
  have hK : Keeps Fv wr (put3 wj g q y) := (hk.mono (T := Fv) (fun _ _ h => h.elim)).trans ((SameBut.refl g wj).put3 q y).keeps (fun k _ e => by rw [e]; exact hg)
  obtain ⟨F2, r1, r2, r3⟩ := g7 _ (ys.set q y) hK (by simp) hr2
  exact ⟨⟨F2, _, s, ⟨r1, h1.ok.turn h2 _, fun k h => (r3 k h).elim (h1.hF k) (fun h => Nat.le_trans h1.K.size h), h1.K.trans r2 (fun k _ h => h1.hF k h)⟩, by
    have hil := (List.getElem?_eq_some_iff.1 h2).1
    rw [List.getElem?_set_self hil], fun h => (r3 _ h).elim h3 (fun h => by have := blk_lt hb.cb; omega)⟩, hb.other r2 (fun k h => h1.hF k h) h3⟩
def five : V := ⟨2, 5, ⟨#[]⟩⟩
def swapTo (xs : List V) (k : Nat) : List V := List.replicate k five ++ xs.drop k
theorem swapTo_zero (xs : List V) : swapTo xs 0 = xs := by simp [swapTo]
theorem swapTo_length {xs : List V} {k : Nat} (h : k ≤ xs.length) : (swapTo xs k).length = xs.length := by simp [swapTo]; omega
theorem swapTo_at {xs : List V} {k : Nat} (h : k < xs.length) : (swapTo xs k)[k]'(by rw [swapTo_length (by omega)]; exact h) = xs[k] := by
  unfold swapTo
  rw [List.getElem_append_right (by simp)]
  simp
theorem swapTo_set {xs : List V} {k : Nat} (h : k < xs.length) : (swapTo xs k).set k five = swapTo xs (k + 1) := by
  unfold swapTo
  rw [List.set_append_right _ _ (by simp), List.replicate_succ', List.append_assoc]
  congr 1
  rw [List.length_replicate, Nat.sub_self, List.drop_eq_getElem_cons h]
  rfl
end Go.Proofs.Ytpaefeknbpfpmaa
