/- Values (api.Value): their cells; value.Int, Str, Null, Check; rows of values. -/
import Derived.Test.YtpaefeknbpfpmaaRows
import Derived.Test.YtpaefeknbpfpmaaBase
import Derived.Test.YtpaefeknbpfpmaaOpen
namespace Go.Proofs.Ytpaefeknbpfpmaa
open Go.RowKit

/-- A value: its kind, its number, its text. -/
structure V where
  k : Int
  n : Int
  t : ByteArray
  deriving DecidableEq
def V.cells (v : V) : List Value := [.int .i64 v.k, .int .i64 v.n, .string v.t]
def V.val (v : V) : Value := .agg #[.int .i64 v.k, .int .i64 v.n, .string v.t]
def V.null : V := ⟨0, 0, ⟨#[]⟩⟩
def flat (xs : List V) : List Value := xs.flatMap V.cells
theorem flat_length (xs : List V) : (flat xs).length = xs.length * 3 := by
  induction xs with
  | nil => rfl
  | cons x xs ih => simp only [flat, List.flatMap_cons, List.length_append] at ih ⊢; rw [ih]; simp [V.cells]; omega
theorem flat_append (xs ys : List V) : flat (xs ++ ys) = flat xs ++ flat ys := by simp [flat]
theorem flat_one (xs : List V) : ∀ u ∈ flat xs, u.oneCell' = true := by
  intro u hu
  simp only [flat, List.mem_flatMap] at hu
  obtain ⟨v, _, h⟩ := hu
  simp [V.cells] at h
  rcases h with rfl | rfl | rfl <;> rfl
theorem flat_take (xs : List V) : ∀ m, (flat xs).take (m * 3) = flat (xs.take m) := by
  induction xs with
  | nil => intro m; simp [flat]
  | cons x xs ih =>
    intro m
    cases m with
    | zero => simp [flat]
    | succ m =>
      have e : flat (x :: xs) = x.cells ++ flat xs := by simp [flat]
      have e2 : flat ((x :: xs).take (m + 1)) = x.cells ++ flat (xs.take m) := by simp [flat]
      rw [e, e2, ← ih m, List.take_append, List.take_of_length_le (by simp [V.cells]; omega)]
      congr 2
      simp [V.cells]; omega
theorem flat_get (xs : List V) : ∀ (i : Nat) (x : V), xs[i]? = some x → ∀ j, j < 3 → (flat xs)[i * 3 + j]? = x.cells[j]? := by
  induction xs with
  | nil => intro i x h; simp at h
  | cons y xs ih =>
    intro i x h j hj
    have e : flat (y :: xs) = y.cells ++ flat xs := by simp [flat]
    rw [e]
    cases i with
    | zero =>
      simp at h
      subst h
      rw [List.getElem?_append_left (by simp [V.cells]; omega)]
      simp
    | succ i =>
      simp at h
      rw [List.getElem?_append_right (by simp [V.cells]; omega)]
      have := ih i x h j hj
      rw [← this]
      congr 1
      simp [V.cells]; omega
theorem info_val : (Try.prog.info? 30).map (fun i => (i.zero, i.size, i.bytes)) = some (some (.agg #[.int .i64 0, .int .i64 0, .string ⟨#[]⟩]), 3, 32) := by kernel_rfl

theorem value_Int (n : Int) (w : World) : Calls Try.prog 35 #[.int .i64 n] w fun e w' => e = .returned (V.val ⟨2, n, ⟨#[]⟩⟩) ∧ Keeps (fun _ => False) w w' := by
  refine post_gen fun R hR => ?_
  go_enter Try.func35, Try.ntmps35
  go_wp2
  exact bodyPost_ret (v := V.val ⟨2, n, ⟨#[]⟩⟩) (by simp [results, Try.results35, go_sem, V.val]) rfl (hR.out _ _ ⟨rfl, (Keeps.refl _ _).alloc _⟩)
theorem value_Str (s : ByteArray) (w : World) : Calls Try.prog 37 #[.string s] w fun e w' => e = .returned (V.val ⟨3, 0, s⟩) ∧ Keeps (fun _ => False) w w' := by
  refine post_gen fun R hR => ?_
  go_enter Try.func37, Try.ntmps37
  go_wp2
  exact bodyPost_ret (v := V.val ⟨3, 0, s⟩) (by simp [results, Try.results37, go_sem, V.val]) rfl (hR.out _ _ ⟨rfl, (Keeps.refl _ _).alloc _⟩)
theorem value_Null (w : World) : Calls Try.prog 50 #[] w fun e w' => e = .returned (V.val V.null) ∧ Keeps (fun _ => False) w w' := by
  refine post_gen fun R hR => ?_
  go_enter Try.func50, Try.ntmps50
  go_wp2
  exact bodyPost_ret (v := V.val V.null) (by simp [results, Try.results50, go_sem, V.val, V.null]) rfl (hR.out _ _ ⟨rfl, (Keeps.refl _ _).alloc _⟩)

/-- May a value be: its error. -/
def V.chk (v : V) : Int :=
  if v.k < 0 ∨ 4 < v.k then 30 else if (v.k ≠ 3 ∧ v.t.toList ≠ []) ∨ ((v.k = 0 ∨ v.k = 3) ∧ v.n ≠ 0) ∨ (v.k = 1 ∧ v.n ≠ 0 ∧ v.n ≠ 1) ∨ (v.k = 4 ∧ v.n < 0) then 5 else 0
theorem value_Check (v : V) (w : World) : Calls Try.prog 27 #[v.val] w fun e w' => e = .returned (.int .i64 v.chk) ∧ Keeps (fun _ => False) w w' := by
  obtain ⟨k, n, t⟩ := v
  unfold V.val
  refine post_gen fun R hR => ?_
  go_enter Try.func27, Try.ntmps27
  go_wp2
  all_goals
    refine hR.out _ _ ⟨show Ending.returned (.int .i64 _) = .returned (.int .i64 _) from ret_int ?_, (Keeps.refl _ _).alloc _⟩
    clear hR
    simp only [V.chk]
    first
      | (simp_all; done)
      | (rw [if_neg (by omega), if_neg (by simp_all; done)]; done)
      | (rw [if_neg (by omega), if_neg (by simp_all; omega)]; done)
      | (rw [if_neg (by omega), if_pos (by simp_all; done)]; done)
      | (rw [if_neg (by omega), if_pos (by simp_all; omega)]; done)
      | (rw [if_pos (by omega)]; done)
/-- A variable of a value's type, at block r: stored into. -/
def IsVar (w : World) (r : Nat) (v : V) : Prop := w.heap[r]? = some (.cells #[.int .i64 v.k, .int .i64 v.n, .string v.t] 30 (0, 0))
theorem IsVar.new (w : World) (v : V) : IsVar (w.alloc (.cells #[.int .i64 v.k, .int .i64 v.n, .string v.t] 30)) w.heap.size v := blk_new _ _
theorem IsVar.keeps {w w1 : World} {r : Nat} {v : V} {S : Nat → Prop} (h : IsVar w r v) (hk : Keeps S w w1) (hn : ¬ S r) : IsVar w1 r v := hk.heap h hn
theorem IsVar.cells {w : World} {r : Nat} {v : V} (h : IsVar w r v) : w.cell? ⟨r, 0, none⟩ = some (.int .i64 v.k) ∧ w.cell? ⟨r, 1, none⟩ = some (.int .i64 v.n) ∧ w.cell? ⟨r, 2, none⟩ = some (.string v.t) ∧ w.frozen? ⟨r, 0, none⟩ = false ∧ w.frozen? ⟨r, 1, none⟩ = false ∧ w.frozen? ⟨r, 2, none⟩ = false :=
  ⟨blk_cell h 0, blk_cell h 1, blk_cell h 2, blk_frozen h 0, blk_frozen h 1, blk_frozen h 2⟩
theorem IsVar.set {w : World} {r : Nat} {v : V} (h : IsVar w r v) (u : V) : IsVar (((w.setCell ⟨r, 0, none⟩ (.int .i64 u.k)).setCell ⟨r, 1, none⟩ (.int .i64 u.n)).setCell ⟨r, 2, none⟩ (.string u.t)) r u := blk_set (blk_set (blk_set h 0 _) 1 _) 2 _
theorem Keeps.var {S : Nat → Prop} {a w : World} (h : Keeps S a w) {r : Nat} (hr : r < a.heap.size → S r) (x y z : Value) : Keeps S a (((w.setCell ⟨r, 0, none⟩ x).setCell ⟨r, 1, none⟩ y).setCell ⟨r, 2, none⟩ z) :=
  ((h.setCell (p := ⟨r, 0, none⟩) hr x).setCell (p := ⟨r, 1, none⟩) hr y).setCell (p := ⟨r, 2, none⟩) hr z
end Go.Proofs.Ytpaefeknbpfpmaa
