/- Layer 2: contracts of Compare, Hash, place, Slice, blank, Front, Back, Strip. -/
import Derived.Test.YtpaefeknbpfpmaaStrB
namespace Go.Proofs.Ytpaefeknbpfpmaa
open Go.RowKit
set_option maxRecDepth 100000

theorem cmpL_more {l m : List UInt8} {k : Nat} (h1 : k < l.length) (h2 : k < m.length) (h : l[k] = m[k]) : cmpL (l.drop k) (m.drop k) = cmpL (l.drop (k + 1)) (m.drop (k + 1)) := by
  rw [List.drop_eq_getElem_cons h1, List.drop_eq_getElem_cons h2]; simp [cmpL, h]
theorem cmpL_here {l m : List UInt8} {k : Nat} (h1 : k < l.length) (h2 : k < m.length) (h : l[k] ≠ m[k]) : cmpL (l.drop k) (m.drop k) = if l[k].toNat < m[k].toNat then -1 else 1 := by
  rw [List.drop_eq_getElem_cons h1, List.drop_eq_getElem_cons h2]; simp only [cmpL, if_neg h]
theorem cmpL_end {l m : List UInt8} {k : Nat} (h : k = min l.length m.length) : cmpL (l.drop k) (m.drop k) = if l.length < m.length then -1 else if m.length < l.length then 1 else 0 := by
  rcases Nat.lt_trichotomy l.length m.length with h1 | h1 | h1
  · obtain rfl : k = l.length := by omega
    rw [if_pos h1, List.drop_length, List.drop_eq_getElem_cons h1]; simp [cmpL]
  · obtain rfl : k = l.length := by omega
    rw [if_neg (by omega), if_neg (by omega), List.drop_length, h1, List.drop_length]; simp [cmpL]
  · obtain rfl : k = m.length := by omega
    rw [if_neg (by omega), if_pos h1, List.drop_length, List.drop_eq_getElem_cons h1]; simp [cmpL]
def hstep (h : Int) (c : UInt8) : Int := IntKind.u64.wrap (bits BinOp.xor .u64 h (IntKind.u64.wrap c.toNat) * 1099511628211)
def hashL (l : List UInt8) : Int := l.foldl hstep 14695981039346656037
theorem hashL_take {l : List UInt8} {k : Nat} (h : k < l.length) : hashL (l.take (k + 1)) = hstep (hashL (l.take k)) l[k] := by
  rw [List.take_succ_eq_append_getElem h, hashL, List.foldl_append]; rfl
set_option maxHeartbeats 400000 in
theorem str_Hash (s : ByteArray) (w : World) (hs : s.size ≤ 140737488351232) : Calls Try.prog 102 #[.string s] w fun e w' => e = .returned (.int .u64 (hashL s.data.toList)) ∧ w = w' := by
  have LA := hidden (list_len s)
  refine post_gen fun R hR => ?_
  go_enter Try.func102, Try.ntmps102
  go_wp2_with fail
  go_loop [3, 7] (fun h i => ∃ k : Nat, k ≤ s.size ∧ i = .int .i64 k ∧ h = .int .u64 (hashL (s.data.toList.take k))) (fun _ i => s.size - (intOf i).toNat)
  case atStart => exact ⟨0, Nat.zero_le _, rfl, by simp only [List.take_zero, hashL, List.foldl_nil]⟩
  case round =>
    obtain ⟨k, hk, rfl, rfl⟩ := hrel
    by_cases hlt : k < s.size
    · have GA := hidden (at_list s hlt)
      have KA := hidden (hashL_take (l := s.data.toList) (k := k) (by rw [LA.out]; exact hlt))
      generalize hashL (s.data.toList.take k) = x at *
      go_wp2
      go_round
      case rel => exact ⟨k + 1, by omega, by go_num, by rw [KA.out, GA.out, hstep]⟩
      case measure => simp [intOf]; omega
    · obtain rfl : k = s.size := by omega
      go_wp2
      refine hR.out _ _ ⟨?_, rfl⟩
      rw [List.take_of_length_le (by rw [LA.out]; exact Nat.le_refl _)]
def plc (n : Int) (long : Nat) : Int := if n < 0 then n + long else n
/-- A piece of a text. -/
def slcAns (s : ByteArray) (a b : Int) : Value :=
  if plc a s.size < 0 ∨ plc b s.size < plc a s.size ∨ (s.size : Int) < plc b s.size then .tuple #[.string ⟨#[]⟩, .int .i64 1]
  else .tuple #[.string (s.extract (plc a s.size).toNat (plc b s.size).toNat), .int .i64 0]
theorem blankB_is (c : UInt8) : blankB c = true ↔ (c.toNat = 32 ∨ (9 ≤ c.toNat ∧ c.toNat ≤ 13)) := by simp [blankB]
def dropB (l : List UInt8) : List UInt8 := l.dropWhile blankB
theorem mkS_list (s : ByteArray) : mkS s.data.toList = s := by apply ByteArray.ext; simp [mkS]
theorem list_of_nil {t : ByteArray} (h : ¬ 0 < t.size) : t.data.toList = [] := by rw [str_none h]
theorem backL_snoc (l : List UInt8) (c : UInt8) : backL (l ++ [c]) = if blankB c = true then backL l else l ++ [c] := by
  simp only [backL, List.reverse_append, List.reverse_cons, List.reverse_nil, List.nil_append, List.cons_append, List.dropWhile_cons]
  split <;> simp
theorem list_snoc {t : ByteArray} (h : 0 < t.size) : t.data.toList = (t.extract 0 (t.size - 1)).data.toList ++ [t[t.size - 1]] := by
  have h1 : t.size - 1 < t.data.toList.length := by rw [list_len]; omega
  have h2 := List.take_succ_eq_append_getElem h1
  rw [at_list t (show t.size - 1 < t.size by omega), List.take_of_length_le (by rw [list_len]; omega)] at h2
  have e : (t.extract 0 (t.size - 1)).data.toList = t.data.toList.take (t.size - 1) := by
    rw [ByteArray.data_extract, Array.toList_extract, List.extract_eq_take_drop]; simp
  rw [e]
  exact h2
end Go.Proofs.Ytpaefeknbpfpmaa
