/- Layer 6: the heap: the values of a cell, read and turned where they lie. -/
import Derived.Test.YtpaefeknbpfpmaaGrpE
namespace Go.Proofs.Ytpaefeknbpfpmaa
open Go.RowKit
set_option maxRecDepth 100000

section
variable {w : World} {F : Nat → Prop} {hb : Nat} {H : List (Option (Nat × Cl))} {s : HSt} {i p : Nat} {c : Cl}
/-- What a cell's values become, where they lie. -/
theorem CellX.setVals {w1 : World} {G : Nat → Nat → Prop} {vv vn : Value} {lp tp : Option Addr} {ys : List V} (h : CellX w p F c G vv vn lp tp) (hk : Keeps (G 0) w w1) (hl : ys.length = c.vals.length) (hr : Row w1 (G 0) 30 3 vv ys.length (flat ys)) :
    CellX w1 p F { c with vals := ys } G vv vn lp tp :=
  ⟨hk.heap h.blk (h.off 0), h.here, h.sub, h.off, h.ap, hr, h.list.keeps hk (h.ap 1 0 (by decide)), h.tab.keeps hk (h.ap 2 0 (by decide)), h.nums.keeps hk (h.ap 3 0 (by decide)), h.inw.keeps hk, ⟨by rw [show ({ c with vals := ys } : Cl).vals.length = ys.length from rfl, hl]; exact h.small.vals, h.small.nums, h.small.list, h.small.tab⟩⟩
theorem held_vals (h : IsHeap w F hb H s) (hi : H[i]? = some (some (p, c))) :
    ∃ (Fv : Nat → Prop) (A : Option Addr) (cap : Nat) (lp tp An : Option Addr) (cn : Nat), w.heap[p]? = some (.cells #[.int .i64 c.kind, .slice A c.vals.length cap, .pointer lp, .pointer tp, .slice An c.nums.length cn, .string c.text] 64 (0, 0)) ∧ F p ∧ ¬ Fv p ∧ (∀ k, Fv k → F k) ∧
      Row w Fv 30 3 (.slice A c.vals.length cap) c.vals.length (flat c.vals) ∧ Row w F 2 1 (.slice An c.nums.length cn) c.nums.length (intCells c.nums) ∧
      ∀ (w1 : World) (ys : List V), Keeps Fv w w1 → ys.length = c.vals.length → Row w1 Fv 30 3 (.slice A c.vals.length cap) c.vals.length (flat ys) →
        ∃ F2, IsHeap w1 F2 hb (H.set i (some (p, { c with vals := ys }))) s ∧ Keeps F w w1 ∧ Fresh F F2 w := by
  obtain ⟨Fam, vc, vf, hX⟩ := h
  obtain ⟨G, vv, vn, lp, tp, hC⟩ := hX.each i p c hi
  obtain ⟨A, cap, rfl⟩ := hC.vals.form
  obtain ⟨An, cn, rfl⟩ := hC.nums.form
  refine ⟨G 0, A, cap, lp, tp, An, cn, hC.blk, hX.sub _ p hC.here, hC.off 0, fun k hk => hX.sub _ k (hC.sub 0 k hk), hC.vals, hC.nums.mono (fun k _ hk => hX.sub _ k (hC.sub 3 k hk)), fun w1 ys hk hl hr => ?_⟩
  have g1 := hC.setVals hk hl (by rw [hl]; exact hr)
  obtain ⟨r1, r2, r3⟩ := hX.setCell hi (hk.mono (T := Fam (i + 3)) (fun k _ hg => hC.sub 0 k hg)) ⟨G, _, _, lp, tp, g1⟩ (Fresh.refl _ _)
  exact ⟨_, ⟨_, _, _, r1⟩, r2, r3⟩
end
end Go.Proofs.Ytpaefeknbpfpmaa
