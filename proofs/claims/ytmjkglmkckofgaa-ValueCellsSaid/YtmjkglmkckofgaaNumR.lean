/- Layer 1, plain: a number as it is written, read, is the number. -/
import Derived.Test.YtmjkglmkckofgaaNumT
namespace Go.Proofs.Ytmjkglmkckofgaa
open Go.RowKit

theorem wrap64_off (n q : Int) : wrap64 (n + 18446744073709551616 * q) = wrap64 n := by
  unfold wrap64
  rw [show n + 18446744073709551616 * q + 9223372036854775808 = n + 9223372036854775808 + 18446744073709551616 * q by omega, Int.add_mul_emod_self_left]
theorem wrap64_is (n : Int) : ∃ q, wrap64 n = n + 18446744073709551616 * q := by
  refine ⟨-((n + 9223372036854775808) / 18446744073709551616), ?_⟩
  unfold wrap64
  have := Int.emod_add_mul_ediv (n + 9223372036854775808) 18446744073709551616
  rw [Int.mul_neg]
  omega
theorem wrap_step (n d : Int) : wrap64 (wrap64 (wrap64 n * 10) + d) = wrap64 (n * 10 + d) := by
  obtain ⟨q1, e1⟩ := wrap64_is n
  obtain ⟨q2, e2⟩ := wrap64_is (wrap64 n * 10)
  rw [e2, e1, show (n + 18446744073709551616 * q1) * 10 + 18446744073709551616 * q2 + d = (n * 10 + d) + 18446744073709551616 * (10 * q1 + q2) by omega, wrap64_off]
theorem wrap_neg (n : Int) : wrap64 (-(wrap64 n)) = wrap64 (-n) := by
  obtain ⟨q1, e1⟩ := wrap64_is n
  rw [e1, show -(n + 18446744073709551616 * q1) = -n + 18446744073709551616 * (-q1) by omega, wrap64_off]
theorem dchar (m : Nat) : (UInt8.ofNat (48 + m % 10)).toNat = 48 + m % 10 := by
  have h : m % 10 < 10 := Nat.mod_lt _ (by decide)
  rw [UInt8.toNat_ofNat']; omega
theorem dec_all (m : Nat) : ∀ acc, (∀ c ∈ acc, digitB c = true) → ∀ c ∈ dec m acc, digitB c = true := by
  induction m using Nat.strongRecOn with
  | ind m ih =>
    intro acc h c hc
    have hd : digitB (UInt8.ofNat (48 + m % 10)) = true := by
      have h9 : m % 10 < 10 := Nat.mod_lt _ (by decide)
      rw [digitB_is, dchar]; omega
    have h2 : ∀ c ∈ UInt8.ofNat (48 + m % 10) :: acc, digitB c = true := by
      intro d hd2
      rcases List.mem_cons.1 hd2 with rfl | h3
      · exact hd
      · exact h d h3
    rw [dec] at hc
    split at hc
    · exact h2 c hc
    · exact ih (m / 10) (by omega) _ h2 c hc
theorem dec_ne (m : Nat) : ∀ acc, dec m acc ≠ [] := by
  induction m using Nat.strongRecOn with
  | ind m ih =>
    intro acc
    rw [dec]
    split
    · simp
    · exact ih (m / 10) (by omega) _
theorem dec_val (m : Nat) : ∀ acc, (dec m acc).foldl dv 0 = acc.foldl dv (wrap64 m) := by
  induction m using Nat.strongRecOn with
  | ind m ih =>
    intro acc
    rw [dec]
    split
    · rw [List.foldl_cons]
      congr 1
      have h0 := wrap_step 0 (((48 + m % 10 : Nat) : Int) - 48)
      rw [IntWalk.wrap64_in 0 (by omega)] at h0
      rw [dv, dchar, h0]
      congr 1
      omega
    · rw [ih (m / 10) (by omega), List.foldl_cons]
      congr 1
      rw [dv, dchar, wrap_step]
      congr 1
      omega
theorem takeWhile_all {q : UInt8 → Bool} {l : List UInt8} (h : ∀ c ∈ l, q c = true) : l.takeWhile q = l := by
  induction l with
  | nil => rfl
  | cons c l ih =>
    rw [List.takeWhile_cons, if_pos (h c (by simp)), ih (fun d hd => h d (by simp [hd]))]
theorem lead_neg (D : List UInt8) (y : Nat) (ha : ∀ c ∈ D, digitB c = true) (hl : D.length ≠ 0) (hv : D.foldl dv 0 = wrap64 y) : leadL (45 :: D) = (wrap64 (-(y : Int)), D.length + 1) := by
  have hs : sgn (45 :: D) = (1, true) := by rw [sgn, if_pos (by decide)]
  rw [leadL, hs]
  simp only [List.drop_succ_cons, List.drop_zero, takeWhile_all ha]
  rw [if_neg hl, if_pos trivial, hv, wrap_neg, Nat.add_comm]
theorem lead_pos (D : List UInt8) (y : Nat) (ha : ∀ c ∈ D, digitB c = true) (hl : D.length ≠ 0) (hv : D.foldl dv 0 = wrap64 y) : leadL D = (wrap64 y, D.length) := by
  have hs : sgn D = (0, false) := by
    cases D with
    | nil => exact absurd rfl hl
    | cons c r =>
      have := ha c (by simp)
      rw [digitB_is] at this
      rw [sgn, if_neg (by omega), if_neg (by omega)]
  rw [leadL, hs]
  simp only [List.drop_zero, takeWhile_all ha]
  rw [if_neg hl, hv, Nat.zero_add]
  simp
theorem lead_text (x : Int) (h1 : -9223372036854775808 ≤ x) (h2 : x ≤ 9223372036854775807) : leadL (textI x) = (x, (textI x).length) := by
  have ha := dec_all x.natAbs [] (by simp)
  have hn := dec_ne x.natAbs []
  have hv := dec_val x.natAbs []
  have hl : (dec x.natAbs []).length ≠ 0 := fun h => hn (List.eq_nil_of_length_eq_zero h)
  rw [List.foldl_nil] at hv
  have hw := IntWalk.wrap64_in x ⟨h1, h2⟩
  by_cases h0 : x < 0
  · have e : textI x = 45 :: dec x.natAbs [] := if_pos h0
    have hx : -((x.natAbs : Nat) : Int) = x := by omega
    rw [e]
    generalize dec x.natAbs [] = D at *
    rw [lead_neg D x.natAbs ha hl hv, hx, hw, List.length_cons]
  · have e : textI x = dec x.natAbs [] := if_neg h0
    have hx : ((x.natAbs : Nat) : Int) = x := by omega
    rw [e]
    generalize dec x.natAbs [] = D at *
    rw [lead_pos D x.natAbs ha hl hv, hx, hw]
end Go.Proofs.Ytmjkglmkckofgaa
