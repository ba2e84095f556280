/- str.Split: the pieces of a text. -/
import Derived.Test.YtmjkglmkckofgaaTxt
import Derived.Test.YtmjkglmkckofgaaShelf
import Derived.Lib.Bytealg
namespace Go.Proofs.Ytmjkglmkckofgaa
open Go.RowKit

/-- The pieces between bytes of a kind. -/
def pieces (p : UInt8 → Bool) : List UInt8 → List (List UInt8)
  | [] => [[]]
  | c :: l => if p c then [] :: pieces p l else match pieces p l with
    | [] => [[c]]
    | x :: r => (c :: x) :: r
/-- With so many bytes ahead of the first piece. -/
def ahead (x : List UInt8) : List (List UInt8) → List (List UInt8)
  | [] => [x]
  | y :: r => (x ++ y) :: r
theorem pieces_cons (p : UInt8 → Bool) (c : UInt8) (l : List UInt8) : pieces p (c :: l) = if p c then [] :: pieces p l else ahead [c] (pieces p l) := by
  simp only [pieces]
  split
  · rfl
  · cases pieces p l <;> rfl
theorem pieces_ne (p : UInt8 → Bool) (l : List UInt8) : pieces p l ≠ [] := by
  cases l with
  | nil => simp [pieces]
  | cons c l => simp only [pieces]; split; simp; split <;> simp
theorem ahead_nil {r : List (List UInt8)} (h : r ≠ []) : ahead [] r = r := by cases r with | nil => exact absurd rfl h | cons => rfl
theorem ahead_ahead (x y : List UInt8) (r : List (List UInt8)) : ahead x (ahead y r) = ahead (x ++ y) r := by cases r <;> simp [ahead]
theorem pieces_length (p : UInt8 → Bool) (l : List UInt8) : (pieces p l).length ≤ l.length + 1 := by
  induction l with
  | nil => simp [pieces]
  | cons c l ih =>
    simp only [pieces]
    split
    · simp; omega
    · split <;> simp_all <;> omega
theorem pieces_in {p : UInt8 → Bool} {l : List UInt8} {o : List (List UInt8)} {k m : Nat} (hk : k < l.length) (hc : p l[k] = true) (h : pieces p l = o ++ ahead ((l.take k).drop m) (pieces p (l.drop k))) :
    pieces p l = (o ++ [(l.take k).drop m]) ++ ahead ((l.take (k + 1)).drop (k + 1)) (pieces p (l.drop (k + 1))) := by
  have e : (l.take (k + 1)).drop (k + 1) = [] := List.drop_eq_nil_of_le (by simp; omega)
  rw [h, List.drop_eq_getElem_cons hk, pieces_cons, if_pos hc, e, ahead_nil (pieces_ne _ _)]
  simp [ahead]
theorem pieces_out {p : UInt8 → Bool} {l : List UInt8} {o : List (List UInt8)} {k m : Nat} (hk : k < l.length) (hm : m ≤ k) (hc : ¬ p l[k] = true) (h : pieces p l = o ++ ahead ((l.take k).drop m) (pieces p (l.drop k))) :
    pieces p l = o ++ ahead ((l.take (k + 1)).drop m) (pieces p (l.drop (k + 1))) := by
  rw [h, List.drop_eq_getElem_cons hk, pieces_cons, if_neg hc, ahead_ahead, List.take_succ_eq_append_getElem hk, List.drop_append_of_le_length (by simp; omega)]
theorem pieces_end {p : UInt8 → Bool} {l : List UInt8} {o : List (List UInt8)} {m : Nat} (h : pieces p l = o ++ ahead ((l.take l.length).drop m) (pieces p (l.drop l.length))) :
    pieces p l = o ++ [l.drop m] := by
  rw [h]; simp [pieces, ahead]

theorem mkS_extract (s : ByteArray) (m k : Nat) : mkS ((s.data.toList.take k).drop m) = s.extract m k := by
  apply ByteArray.ext
  apply Array.ext'
  simp [mkS, List.drop_take]
theorem mkS_drop (s : ByteArray) (m : Nat) : mkS (s.data.toList.drop m) = s.extract m s.size := by
  have := mkS_extract s m s.size
  have e : s.data.toList.take s.size = s.data.toList := List.take_of_length_le (by simp)
  rwa [e] at this
theorem indexByte_mem (l : List UInt8) (c : UInt8) : 0 ≤ Lib.indexByte l c ↔ c ∈ l := by
  induction l with
  | nil => simp [Lib.indexByte]
  | cons b l ih =>
    have := Lib.indexByte_ge l c
    simp only [Lib.indexByte]
    by_cases hb : b = c
    · simp [hb]
    · have h1 : ¬ c = b := fun h => hb h.symm
      simp only [beq_iff_eq, hb, if_false, List.mem_cons, h1, false_or, ← ih]
      split <;> omega

end Go.Proofs.Ytmjkglmkckofgaa
