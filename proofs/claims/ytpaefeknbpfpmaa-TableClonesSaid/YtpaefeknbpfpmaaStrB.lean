/- Layer 2: contracts of behind, Unescape. -/
import Derived.Test.YtpaefeknbpfpmaaStrA
namespace Go.Proofs.Ytpaefeknbpfpmaa
open Go.RowKit
set_option maxRecDepth 100000

theorem toList_inj {a b : ByteArray} : a.toList = b.toList ↔ a = b := by
  rw [Lib.toList_data, Lib.toList_data]
  refine ⟨fun h => ?_, fun h => by rw [h]⟩
  exact ByteArray.ext (Array.ext' h)
theorem str_some {s : ByteArray} (h : 0 < s.size) : s.toList.isEmpty = false := by
  rw [Lib.toList_data, List.isEmpty_eq_false_iff_exists_mem]
  exact ⟨s[0], by simp [ByteArray.getElem_eq_getElem_data]⟩
theorem str_none {s : ByteArray} (h : ¬ 0 < s.size) : s = ⟨#[]⟩ := by
  apply ByteArray.ext
  apply Array.eq_empty_of_size_eq_zero
  have : s.data.size = s.size := rfl
  omega
theorem at_list (s : ByteArray) {k : Nat} (h : k < s.size) : s.data.toList[k]'(by simpa using h) = s[k] := by rw [Array.getElem_toList]; rfl
theorem list_cons {s : ByteArray} {k : Nat} (h : k < s.size) : s.data.toList.drop k = s[k] :: s.data.toList.drop (k + 1) := by
  rw [List.drop_eq_getElem_cons (by simpa using h), at_list s h]
theorem list_nil {s : ByteArray} {k : Nat} (h : ¬ k < s.size) : s.data.toList.drop k = [] := List.drop_eq_nil_of_le (by have : s.data.size = s.size := rfl; simp; omega)
theorem list_len (s : ByteArray) : s.data.toList.length = s.size := by simp
theorem ret_tup {a b c d : Value} (h1 : a = c) (h2 : b = d) : Ending.returned (.tuple #[a, b]) = .returned (.tuple #[c, d]) := by rw [h1, h2]
theorem beh_is (c : UInt8) (r : List UInt8) : (c.toNat = 34 ∨ c.toNat = 39 ∨ c.toNat = 92 → beh (c :: r) = (c.toNat, 1)) ∧ (c.toNat = 110 → beh (c :: r) = (10, 1)) ∧ (c.toNat = 114 → beh (c :: r) = (13, 1)) ∧ (c.toNat = 116 → beh (c :: r) = (9, 1)) ∧
    (c.toNat = 48 → beh (c :: r) = (0, 1)) ∧ (c.toNat = 120 → beh (c :: r) = hx r) ∧
    (¬ (c.toNat = 34 ∨ c.toNat = 39 ∨ c.toNat = 92) → ¬ (c.toNat = 110 ∨ c.toNat = 114 ∨ c.toNat = 116 ∨ c.toNat = 48 ∨ c.toNat = 120) → beh (c :: r) = (0, 0)) := by
  refine ⟨fun h => ?_, fun h => ?_, fun h => ?_, fun h => ?_, fun h => ?_, fun h => ?_, fun h k => ?_⟩
  · rw [beh, if_pos h]
  · rw [beh, if_neg (by omega), if_pos h]
  · rw [beh, if_neg (by omega), if_neg (by omega), if_pos h]
  · rw [beh, if_neg (by omega), if_neg (by omega), if_neg (by omega), if_pos h]
  · rw [beh, if_neg (by omega), if_neg (by omega), if_neg (by omega), if_neg (by omega), if_pos h]
  · rw [beh, if_neg (by omega), if_neg (by omega), if_neg (by omega), if_neg (by omega), if_neg (by omega), if_pos h]
  · rw [beh, if_neg (by omega), if_neg (by omega), if_neg (by omega), if_neg (by omega), if_neg (by omega), if_neg (by omega)]
theorem or_dig : ∀ a : Nat, a < 16 → ∀ b : Nat, b < 16 → bits BinOp.or .i64 ((a : Int) * 16) (b : Nat) = a * 16 + b := by decide
theorem or_dig0 : ∀ b : Nat, b < 16 → bits BinOp.or .i64 0 (b : Nat) = b := by decide
theorem hx_one (s : ByteArray) (h : ¬ 1 < s.size) : hx (s.data.toList.drop 1) = (0, 0) := by rw [list_nil h]; rfl
theorem hx_bad (s : ByteArray) (h : 1 < s.size) (hd : ¬ dig s[1] < 16) : hx (s.data.toList.drop 1) = (0, 0) := by
  rw [list_cons h]
  cases s.data.toList.drop (1 + 1) <;> simp [hx, hd]
theorem hx_two (s : ByteArray) (h : 1 < s.size) (hd : dig s[1] < 16) (h2 : ¬ 2 < s.size) : hx (s.data.toList.drop 1) = (dig s[1], 2) := by
  rw [list_cons h, list_nil h2]; simp [hx, hd]
theorem hx_two' (s : ByteArray) (h : 2 < s.size) (hd : dig s[1] < 16) (hd2 : ¬ dig s[2] < 16) : hx (s.data.toList.drop 1) = (dig s[1], 2) := by
  rw [list_cons (show 1 < s.size by omega), list_cons (show 1 + 1 < s.size by omega)]; simp [hx, hd, hd2]
theorem hx_three (s : ByteArray) (h : 2 < s.size) (hd : dig s[1] < 16) (hd2 : dig s[2] < 16) : hx (s.data.toList.drop 1) = (dig s[1] * 16 + dig s[2], 3) := by
  rw [list_cons (show 1 < s.size by omega), list_cons (show 1 + 1 < s.size by omega)]; simp [hx, hd, hd2]
/-- The digits behind an x, read so far: at place a the number n. -/
def hxAt (s : ByteArray) (n a : Nat) : Prop := (a = 1 ∧ n = 0) ∨ (a = 2 ∧ ∃ h : 1 < s.size, dig s[1] < 16 ∧ n = dig s[1]) ∨ (a = 3 ∧ ∃ h : 2 < s.size, dig s[1] < 16 ∧ dig s[2] < 16 ∧ n = dig s[1] * 16 + dig s[2])
theorem mkS_snoc (l : List UInt8) (c : UInt8) : mkS l ++ ⟨#[c]⟩ = mkS (l ++ [c]) := by
  apply ByteArray.ext; simp [mkS]
theorem byteCells_snoc (l : List UInt8) (c : UInt8) : byteCells l ++ [.int .u8 c.toNat] = byteCells (l ++ [c]) := by simp [byteCells]
/-- Unescape's answer. -/
def unAns : List UInt8 ⊕ Nat → Value
  | .inl t => .tuple #[.string (mkS t), .agg #[.int .i64 0, .int .i64 0]]
  | .inr k => .tuple #[.string ⟨#[]⟩, .agg #[.int .i64 20, .int .i64 k]]
theorem Keeps.fault {S : Nat → Prop} {a w : World} (h : Keeps S a w) {b : Nat} (hb : b < a.heap.size → S b) (u v : Value) : Keeps S a ((w.setCell ⟨b, 0, none⟩ u).setCell ⟨b, 1, none⟩ v) := (h.setCell (p := ⟨b, 0, none⟩) hb u).setCell (p := ⟨b, 1, none⟩) hb v
theorem drop_list (s : ByteArray) (k : Nat) : (s.extract k s.size).data.toList = s.data.toList.drop k := by
  have e : s.data.toList.length = s.size := by simp
  simp
  rw [List.take_of_length_le (by simp)]
end Go.Proofs.Ytpaefeknbpfpmaa
