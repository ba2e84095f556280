/- Tables: cursors; keys and values alone; copies. -/
import Derived.Test.YtmefdniocgcckaaGrpD
set_option linter.unusedSimpArgs false
set_option linter.unusedVariables false
namespace Go.Proofs.Ytmefdniocgcckaa
open Go.RowKit
set_option maxRecDepth 100000

/-- The cursor behind k keys. -/
def curT (L : List Ent) : Nat → Int
  | 0 => 0
  | k + 1 => (L.getD k (blank 0)).ser
theorem curT_le {L : List Ent} {s : Int} (h : Lok L s) {k : Nat} (hk : k ≤ L.length) {j : Nat} (hj : j < L.length) : (j < k → L[j].ser ≤ curT L k) ∧ (k ≤ j → curT L k < L[j].ser) := by
  cases k with
  | zero => exact ⟨fun h => absurd h (by omega), fun _ => by have := (h.sers L[j] (List.getElem_mem hj)).1; show (0 : Int) < _; omega⟩
  | succ k =>
    have e : (L.getD k (blank 0)) = L[k] := by rw [List.getD_eq_getElem?_getD, List.getElem?_eq_getElem (by omega)]; rfl
    show (j < k + 1 → L[j].ser ≤ (L.getD k (blank 0)).ser) ∧ (k + 1 ≤ j → (L.getD k (blank 0)).ser < L[j].ser)
    rw [e]
    have ha := List.pairwise_iff_getElem.1 h.asc
    refine ⟨fun hjk => ?_, fun hkj => ha k j (by omega) hj (by omega)⟩
    rcases Nat.lt_or_ge j k with h1 | h1
    · exact Int.le_of_lt (ha j k hj (by omega) h1)
    · obtain rfl : j = k := by omega
      exact Int.le_refl _
theorem next_at {L : List Ent} {s : Int} (h : Lok L s) {k : Nat} (hk : k < L.length) : nextT L (curT L k) = some L[k] := by
  rw [nextT, List.find?_eq_some_iff_getElem]
  have h1 := (curT_le h (Nat.le_of_lt hk) hk).2 (Nat.le_refl _)
  refine ⟨by rw [h.live _ (List.getElem_mem hk)]; simpa using h1, k, hk, rfl, fun j hj => ?_⟩
  have := (curT_le h (Nat.le_of_lt hk) (by omega : j < L.length)).1 hj
  simp; exact .inl this
theorem next_end {L : List Ent} {s : Int} (h : Lok L s) : nextT L (curT L L.length) = none := by
  rw [nextT, List.find?_eq_none]
  intro x hx
  obtain ⟨j, hj, rfl⟩ := List.mem_iff_getElem.1 hx
  have := (curT_le h (Nat.le_refl _) hj).1 hj
  simp; intro h2; omega
theorem curT_succ {L : List Ent} {k : Nat} (hk : k < L.length) : curT L (k + 1) = L[k].ser := by
  show (L.getD k (blank 0)).ser = _
  rw [List.getD_eq_getElem?_getD, List.getElem?_eq_getElem hk]; rfl
theorem hasL_at {L : List Ent} {key : V} (h : hasL L key = true) : ∃ q, ∃ hq : q < L.length, L[q].key = key := by
  obtain ⟨x, hx, e⟩ := hasL_iff.1 h
  obtain ⟨q, hq, rfl⟩ := List.mem_iff_getElem.1 hx
  exact ⟨q, hq, e⟩
theorem hasL_no {L : List Ent} {key : V} (h : hasL L key = false) : ∀ x ∈ L, x.key ≠ key := fun x hx e => by
  have := hasL_iff.2 ⟨x, hx, e⟩
  rw [h] at this
  cases this
/-- Keys and values alone. -/
def Ent.kv (e : Ent) : V × V := (e.key, e.val)
theorem cloneE_kv (L : List Ent) (hd : L.Pairwise (fun a b => a.key ≠ b.key)) : (cloneE L).1.map Ent.kv = L.map Ent.kv := by
  suffices h : ∀ n (L : List Ent), L.length = n → L.Pairwise (fun a b => a.key ≠ b.key) → (cloneE L).1.map Ent.kv = L.map Ent.kv from h _ L rfl hd
  intro n
  induction n with
  | zero => intro L h _; obtain rfl := List.eq_nil_of_length_eq_zero h; rfl
  | succ n ih =>
    intro L h hd
    rcases List.eq_nil_or_concat L with rfl | ⟨zs, x, rfl⟩
    · simp at h
    · rw [List.concat_eq_append] at h hd ⊢
      obtain ⟨h1, -, h2⟩ := List.pairwise_append.1 hd
      have hi := ih zs (by simp at h; omega) h1
      have hno : hasL (cloneE zs).1 x.key = false := by
        cases hh : hasL (cloneE zs).1 x.key with
        | false => rfl
        | true =>
          obtain ⟨y, hy, e⟩ := hasL_iff.1 hh
          have hm : Ent.kv y ∈ zs.map Ent.kv := hi ▸ List.mem_map_of_mem hy
          obtain ⟨z, hz, e2⟩ := List.mem_map.1 hm
          have e3 : z.key = y.key := (Prod.mk.inj e2).1
          exact absurd (e3.trans e) (h2 z hz x (List.mem_singleton.2 rfl))
      rw [cloneE_snoc, putE, hno, if_neg (by decide), List.map_append, List.map_append, hi]
      rfl
end Go.Proofs.Ytmefdniocgcckaa
