/- Layer 2: contracts of Name, each, Lower, Upper, Strip. -/
import Derived.Test.YtmjkglmkckofgaaStrC
namespace Go.Proofs.Ytmjkglmkckofgaa
open Go.RowKit
set_option maxRecDepth 100000

theorem letterB_is (c : UInt8) : letterB c = true ↔ ((97 ≤ c.toNat ∧ c.toNat ≤ 122) ∨ (65 ≤ c.toNat ∧ c.toNat ≤ 90) ∨ c.toNat = 95) := by simp [letterB, or_assoc]
theorem digitB_is (c : UInt8) : digitB c = true ↔ (48 ≤ c.toNat ∧ c.toNat ≤ 57) := by simp [digitB]
theorem nameB_iff (l : List UInt8) : nameB l = true ↔ l ≠ [] ∧ ∀ i (h : i < l.length), letterB l[i] = true ∨ (i ≠ 0 ∧ digitB l[i] = true) := by
  cases l with
  | nil => simp [nameB]
  | cons c r =>
    simp only [nameB, Bool.and_eq_true, List.all_eq_true, Bool.or_eq_true]
    constructor
    · rintro ⟨h1, h2⟩
      refine ⟨by simp, fun i hi => ?_⟩
      cases i with
      | zero => exact .inl h1
      | succ i =>
        have hi' : i < r.length := by simpa using hi
        have := h2 r[i] (List.getElem_mem _)
        simp only [List.getElem_cons_succ]
        rcases this with h | h
        · exact .inl h
        · exact .inr ⟨by simp, h⟩
    · rintro ⟨-, h⟩
      refine ⟨?_, fun d hd => ?_⟩
      · rcases h 0 (by simp) with h0 | h0
        · exact h0
        · exact absurd rfl h0.1
      · obtain ⟨i, hi, rfl⟩ := List.mem_iff_getElem.1 hd
        rcases h (i + 1) (by simpa using hi) with h0 | h0
        · exact .inl h0
        · exact .inr h0.2
/-- All the bytes up to a place may stand in a name there. -/
def NameTo (l : List UInt8) (k : Nat) : Prop := ∀ i (h : i < l.length), i < k → letterB l[i] = true ∨ (i ≠ 0 ∧ digitB l[i] = true)
end Go.Proofs.Ytmjkglmkckofgaa
