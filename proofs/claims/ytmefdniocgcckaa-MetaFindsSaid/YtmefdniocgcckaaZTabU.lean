/- Layer 5: tables: all keys, all values, the cells. -/
import Derived.Test.YtmefdniocgcckaaZTabT
import Derived.Stop.RegionWithIn
set_option linter.unusedSimpArgs false
set_option linter.unusedVariables false
namespace Go.Proofs.Ytmefdniocgcckaa
open Go.RowKit Go.Shelf
set_option maxRecDepth 100000
attribute [local go_sem] Oper.semAt_some

/-- An append in a region of a round that draws its order. -/
theorem appIn_step {P : Program} {Fe : Fence} {nn : Nat} {ops : Array Oper} {o : Oper} {a : Act} {Q : Exit → Act → World → Prop} {w : World} {K : Act → World → Prop} {E : Prop} (hg : o.guard = none) (F : Nat → Prop) (s x : Operand) (t tx e : TypeId) (z : Value) (size bytes : Nat) (ho : o.op = .call { callee := .builtin .append, args := #[s, x], argTypes := #[t, tx] })
    (ht : P.underlying t = some (.slice e)) (hinfo : (P.info? e).map (fun i => (i.zero, i.size, i.bytes)) = some (some z, size, bytes)) (hzs : z.cells.size = size) (hsz : 0 < size)
    (v : Value) (n : Nat) (xs : List Value) (hv : a.eval s = v) (hR : Row w F e size v n xs) (xv : Value) (hx : a.eval x = xv) (m : Nat) (news : List Value) (hs : Src P size tx xv m news w) (hb0 : n + m ≤ 9223372036854775807) (hbytes : (n + m) * bytes ≤ 140737488355328)
    (h : ∀ A c w1, Row w1 (fun k => F k ∨ w.heap.size ≤ k) e size (.slice A (n + m) c) (n + m) (xs ++ news) → Keeps (fun k => v.ownBlock = some k) w w1 → K (a.put o.dst (.slice A (n + m) c)) w1) :
    if Region.wanted o (yielded ops a.tmps) = true then Oper.wpIn Fe nn P o a w K Q else E := by
  have hw : Region.wanted o (yielded ops a.tmps) = true := by simp [Region.wanted, hg]
  rw [if_pos hw]
  obtain ⟨A, c, w1, hr, h1, h2⟩ := app_run w F t tx o.type e z size bytes ht hinfo hzs hsz v n xs hR xv m news hs hb0 hbytes
  unfold Oper.wpIn
  rw [Oper.semAt_eq _ _ _ (by rw [ho]; intro c hc; cases hc)]
  refine ⟨?_, ?_⟩
  · intro f hf
    simp [Oper.about, ho, resolve, Target.leads] at hf
  · unfold execOp
    simp only [ho, resolve, invoke, builtin, Sem.run_bind, Sem.run_pure, Result.andThen_ok, List.map_toArray, List.map_cons, List.map_nil, hv, hx, hr]
    exact h A c w1 h1 h2
theorem lit1 (w : World) (y : V) {m : Nat} (hm : m = w.heap.size) : Src Try.prog 3 35 (.slice (some ⟨m, 0, none⟩) 1 1) 1 (flat [y]) (w.alloc (.cells #[.int .i64 y.k, .int .i64 y.n, .string y.t] 29)) :=
  (show Vals (w.alloc (.cells #[.int .i64 y.k, .int .i64 y.n, .string y.t] 29)) (some ⟨m, 0, none⟩) [y] from Vals.lit w [y] 29 hm).src (c := 1) Try.underlying35
theorem Keeps.undr5 {S : Nat → Prop} {w w1 : World} (h : Keeps S w.drew w1) : Keeps S w w1 := ⟨h.os, h.tape, h.output, h.size, h.block⟩
theorem frozen_boxed {W : World} {B : Nat} {t : TypeId} {v : Value} (h : W.heap[B]? = some (.cells #[v] t (0, 0))) : W.frozen? ⟨B, 0, none⟩ = false := Boxed.frozen h
/-- A row of the call's own abides the turn of a block that is no cells. -/
theorem row_own {W W' : World} {F : Nat → Prop} {e size n : Nat} {v : Value} {xs : List Value} {row : Option Nat} (h : Row W F e size v n xs) (hg : W.grownBy W' row) (hr : ∀ r, row = some r → ∃ o : Obj, W.heap[r]? = some o ∧ o.isCells = false) : Row W' F e size v n xs :=
  ⟨ownsRow_move h.1 (fun k hk => (Keeps.grew hg).block k (h.lt k hk) (fun e => by
    obtain ⟨cs, h1⟩ := own_typed h.1 k hk
    obtain ⟨o, h2, h3⟩ := hr k e
    rw [h1] at h2
    cases h2
    cases h3)), h.2⟩
/-- Behind a call, an append onto the collected row, and its store into the box. -/
theorem each_end {w w1 W W2 w5 : World} {B0 : Nat} {L : List Ent} {A A5 : Option Addr} {c c5 tb tf te : Nat} {fv : Value} {g : Ent → V} {pre : List (LiveE L)} {x : LiveE L} {y : V} {o : Obj} {a : Act} (hR : Row W (fun k => w.heap.size ≤ k) te 3 (.slice A pre.length c) pre.length (flat ((came pre).map g)))
    (hO : Boxed W w1.heap.size tb (.slice A pre.length c)) (hF : Boxed W w.heap.size tf fv) (hB : Below w.heap.size w W) (hK2 : Keeps (fun _ => False) W W2)
    (hR5 : Row w5 (fun k => w.heap.size ≤ k ∨ (W2.alloc o).heap.size ≤ k) te 3 (.slice A5 (pre.length + 1) c5) (pre.length + 1) (flat ((came pre).map g) ++ flat [y])) (hK5 : Keeps (fun k => (Value.slice A pre.length c).ownBlock = some k) (W2.alloc o) w5)
    (hte : te ≠ tb) (hte2 : te ≠ tf) (hn : w.heap.size < w1.heap.size) (hs : came (pre ++ [x]) = came pre ++ [x.1]) (hy : g x.1 = y) :
    ownPostG (α := LiveE L) B0 (Below w.heap.size) (fun pre W => ((∃ A c, Boxed W w1.heap.size tb (.slice A pre.length c) ∧ Row W (fun k => w.heap.size ≤ k) te 3 (.slice A pre.length c) pre.length (flat ((came pre).map g))) ∧ Boxed W w.heap.size tf fv) ∧ Below w.heap.size w W) (fun _ _ _ => False) (pre ++ [x]) W .normal a
      (w5.setCell ⟨w1.heap.size, 0, none⟩ (.slice A5 (pre.length + 1) c5)) := by
  have k5 : Keeps (fun k => (Value.slice A pre.length c).ownBlock = some k) W w5 := (((hK2.mono (fun _ _ h => h.elim)).alloc o).trans hK5 (fun _ _ h => h))
  have hb : Below w.heap.size W w5 := k5.below hB.size (fun k hk => hR.2 k hk)
  have hO5 : Boxed w5 w1.heap.size tb (.slice A pre.length c) := k5.heap hO (fun e => hR.ne hO hte _ e rfl)
  have hF5 : Boxed w5 w.heap.size tf fv := k5.heap hF (fun e => hR.ne hF hte2 _ e rfl)
  have hb6 : Below w.heap.size W (w5.setCell ⟨w1.heap.size, 0, none⟩ (.slice A5 (pre.length + 1) c5)) := hb.setCell (p := ⟨w1.heap.size, 0, none⟩) (Nat.le_of_lt hn) _
  have ho : KeepsOthers W w5 := ⟨k5.size, fun k o' ho hc => k5.heap ho (fun e => by
    obtain ⟨cs, h1⟩ := own_typed hR.1 k e
    rw [ho] at h1
    cases h1
    cases hc)⟩
  refine ⟨(ho.trans (KeepsOthers.setCell _ _ _)).from _, hb6, ⟨⟨A5, c5, ?_, ?_⟩, ?_⟩, hB.trans hb6⟩
  · rw [List.length_append]; exact hO5.set _
  · rw [List.length_append, hs, List.map_append, flat_append]
    have h6 : Row w5 (fun k => w.heap.size ≤ k) te 3 (.slice A5 (pre.length + 1) c5) (pre.length + 1) (flat ((came pre).map g) ++ flat [y]) := hR5.mono (fun k _ h => h.elim id (fun h => by have := hK2.size; have := hB.size; simp at h; omega))
    have h7 := h6.set (p := ⟨w1.heap.size, 0, none⟩) (h6.ne hO5 hte) (.slice A5 (pre.length + 1) c5)
    rw [← hy] at h7
    exact h7
  · exact hF5.other (by omega) _
end Go.Proofs.Ytmefdniocgcckaa
