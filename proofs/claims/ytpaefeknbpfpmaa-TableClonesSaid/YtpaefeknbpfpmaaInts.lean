/- Rows of whole numbers that are read. -/
import Derived.Test.YtpaefeknbpfpmaaVals
namespace Go.Proofs.Ytpaefeknbpfpmaa
open Go.RowKit

def Ints (w : World) (A : Option Addr) (l : List Int) : Prop := ∀ i x, l[i]? = some x → ∃ b o, A = some ⟨b, o, none⟩ ∧ w.cell? ⟨b, o + i, none⟩ = some (.int .i64 x)
theorem Ints.keeps {w w1 : World} {S : Nat → Prop} {A : Option Addr} {l : List Int} (h : Ints w A l) (hk : Keeps S w w1) (hn : 0 < l.length → ∀ b o, A = some ⟨b, o, none⟩ → ¬ S b) : Ints w1 A l := fun i x hi => by
  obtain ⟨b, o, rfl, h1⟩ := h i x hi
  exact ⟨b, o, rfl, hk.cell h1 (hn (by have := (List.getElem?_eq_some_iff.1 hi).1; omega) b o rfl)⟩
theorem Ints.own {w : World} {base e n c : Nat} {A : Option Addr} {l : List Int} (h : w.ownsRow base e 1 (.slice A n c) n (intCells l)) : Ints w A l := fun i x hi => by
  have hil := (List.getElem?_eq_some_iff.1 hi).1
  rcases h.2 with ⟨h1, h2⟩ | ⟨g, cap, cur, h1, _⟩
  · have := h.1
    simp [intCells] at this
    omega
  · simp at h1
    obtain ⟨rfl, rfl⟩ := h1
    have hc := h.cells (g := g) rfl i (.int .i64 x) (by simp [intCells, hi])
    rw [add_at3] at hc
    exact ⟨g, 0, rfl, hc⟩
theorem cellNums_at {xs : List V} {m : Nat} (hm : m < xs.length) (h4 : xs[m].k = 4) : (cellNums xs)[(cellNums (xs.take m)).length]? = some xs[m].n := by
  have e : xs = xs.take (m + 1) ++ xs.drop (m + 1) := (List.take_append_drop _ _).symm
  have e2 : cellNums xs = cellNums (xs.take m) ++ [xs[m].n] ++ cellNums (xs.drop (m + 1)) := by
    conv => lhs; rw [e]
    simp only [cellNums, List.filter_append, List.map_append]
    have := cellNums_succ hm
    rw [if_pos h4] at this
    simp only [cellNums] at this
    rw [this]
  rw [e2, List.append_assoc, List.getElem?_append_right (Nat.le_refl _)]
  simp
end Go.Proofs.Ytpaefeknbpfpmaa
