/- Layer 1 (num): contracts of the functions on numbers. -/
import Derived.Test.YtmjkglmkckofgaaStrF
import Derived.IntWalk
namespace Go.Proofs.Ytmjkglmkckofgaa
open Go.RowKit
set_option maxRecDepth 100000

def nAdd (x y : Int) : Int := wrap64 (x + y)
def nSub (x y : Int) : Int := wrap64 (x - y)
def nMul (x y : Int) : Int := wrap64 (x * y)
def nAnd (x y : Int) : Int := bits BinOp.and .i64 x y
def nOr (x y : Int) : Int := bits BinOp.or .i64 x y
def nXor (x y : Int) : Int := bits BinOp.xor .i64 x y
def nDiv (x y : Int) : Int := if y = 0 then 0 else if y = -1 then wrap64 (-x) else wrap64 (x.tdiv y)
def nMod (x y : Int) : Int := if y = 0 then 0 else if y = -1 then 0 else x.tmod y
def nErr (y : Int) : Int := if y = 0 then 10 else 0
theorem num_Add (x y : Int) (w : World) : Calls Try.prog 28 #[.int .i64 x, .int .i64 y] w fun e w' => e = .returned (.int .i64 (nAdd x y)) ∧ w = w' := by
  refine post_gen fun R hR => ?_
  go_enter Try.func28, Try.ntmps28
  go_wp2_with fail
  exact hR.out _ _ ⟨rfl, rfl⟩
theorem num_Sub (x y : Int) (w : World) : Calls Try.prog 32 #[.int .i64 x, .int .i64 y] w fun e w' => e = .returned (.int .i64 (nSub x y)) ∧ w = w' := by
  refine post_gen fun R hR => ?_
  go_enter Try.func32, Try.ntmps32
  go_wp2_with fail
  exact hR.out _ _ ⟨rfl, rfl⟩
theorem num_Mul (x y : Int) (w : World) : Calls Try.prog 33 #[.int .i64 x, .int .i64 y] w fun e w' => e = .returned (.int .i64 (nMul x y)) ∧ w = w' := by
  refine post_gen fun R hR => ?_
  go_enter Try.func33, Try.ntmps33
  go_wp2_with fail
  exact hR.out _ _ ⟨rfl, rfl⟩
theorem num_And (x y : Int) (w : World) : Calls Try.prog 34 #[.int .i64 x, .int .i64 y] w fun e w' => e = .returned (.int .i64 (nAnd x y)) ∧ w = w' := by
  refine post_gen fun R hR => ?_
  go_enter Try.func34, Try.ntmps34
  go_wp2_with fail
  exact hR.out _ _ ⟨rfl, rfl⟩
theorem num_Or (x y : Int) (w : World) : Calls Try.prog 35 #[.int .i64 x, .int .i64 y] w fun e w' => e = .returned (.int .i64 (nOr x y)) ∧ w = w' := by
  refine post_gen fun R hR => ?_
  go_enter Try.func35, Try.ntmps35
  go_wp2_with fail
  exact hR.out _ _ ⟨rfl, rfl⟩
theorem num_Xor (x y : Int) (w : World) : Calls Try.prog 36 #[.int .i64 x, .int .i64 y] w fun e w' => e = .returned (.int .i64 (nXor x y)) ∧ w = w' := by
  refine post_gen fun R hR => ?_
  go_enter Try.func36, Try.ntmps36
  go_wp2_with fail
  exact hR.out _ _ ⟨rfl, rfl⟩
theorem num_Div (x y : Int) (w : World) : Calls Try.prog 30 #[.int .i64 x, .int .i64 y] w fun e w' => e = .returned (.tuple #[.int .i64 (nDiv x y), .int .i64 (nErr y)]) ∧ w = w' := by
  refine post_gen fun R hR => ?_
  by_cases h0 : y = 0
  · subst h0
    go_enter Try.func30, Try.ntmps30
    go_wp2_with fail
    exact hR.out _ _ ⟨rfl, rfl⟩
  · have i0 : (y == 0) = false := by simpa using h0
    rw [nDiv, nErr, if_neg h0, if_neg h0] at hR
    by_cases h1 : y = -1
    · subst h1
      rw [if_pos rfl] at hR
      go_enter Try.func30, Try.ntmps30
      go_wp2_with fail
      exact hR.out _ _ ⟨rfl, rfl⟩
    · have i1 : (y == -1) = false := by simpa using h1
      rw [if_neg h1] at hR
      go_enter Try.func30, Try.ntmps30
      go_wp2_with fail
      exact hR.out _ _ ⟨rfl, rfl⟩
theorem num_Mod (x y : Int) (w : World) : Calls Try.prog 31 #[.int .i64 x, .int .i64 y] w fun e w' => e = .returned (.tuple #[.int .i64 (nMod x y), .int .i64 (nErr y)]) ∧ w = w' := by
  refine post_gen fun R hR => ?_
  by_cases h0 : y = 0
  · subst h0
    go_enter Try.func31, Try.ntmps31
    go_wp2_with fail
    exact hR.out _ _ ⟨rfl, rfl⟩
  · have i0 : (y == 0) = false := by simpa using h0
    rw [nMod, nErr, if_neg h0, if_neg h0] at hR
    by_cases h1 : y = -1
    · subst h1
      rw [if_pos rfl] at hR
      go_enter Try.func31, Try.ntmps31
      go_wp2_with fail
      exact hR.out _ _ ⟨rfl, rfl⟩
    · have i1 : (y == -1) = false := by simpa using h1
      rw [if_neg h1] at hR
      go_enter Try.func31, Try.ntmps31
      go_wp2_with fail
      exact hR.out _ _ ⟨rfl, rfl⟩
def nCount (n : Int) : Int := IntKind.u64.wrap (bits BinOp.and .i64 n 63)
theorem num_count (x : Int) (w : World) : Calls Try.prog 51 #[.int .i64 x] w fun e w' => e = .returned (.int .u64 (nCount x)) ∧ w = w' := by
  refine post_gen fun R hR => ?_
  go_enter Try.func51, Try.ntmps51
  go_wp2_with fail
  exact hR.out _ _ ⟨rfl, rfl⟩
theorem num_Compare (x y : Int) (w : World) : Calls Try.prog 25 #[.int .i64 x, .int .i64 y] w fun e w' => e = .returned (.int .i64 (if x < y then -1 else if y < x then 1 else 0)) ∧ w = w' := by
  refine post_gen fun R hR => ?_
  by_cases h0 : x < y
  · rw [if_pos h0] at hR
    go_enter Try.func25, Try.ntmps25
    go_wp2_with fail
    exact hR.out _ _ ⟨rfl, rfl⟩
  · rw [if_neg h0] at hR
    by_cases h1 : y < x
    · rw [if_pos h1] at hR
      go_enter Try.func25, Try.ntmps25
      go_wp2_with fail
      exact hR.out _ _ ⟨rfl, rfl⟩
    · rw [if_neg h1] at hR
      go_enter Try.func25, Try.ntmps25
      go_wp2_with fail
      exact hR.out _ _ ⟨rfl, rfl⟩
theorem nCount_in (n : Int) : 0 ≤ nCount n ∧ nCount n ≤ 63 := by
  have h : bits BinOp.and .i64 n 63 = ((BitVec.ofInt 64 n).toNat &&& 63 : Nat) := by
    have hx : (BitVec.ofInt 64 n).toNat &&& 63 ≤ 63 := Nat.and_le_right
    show IntKind.i64.wrap ((BitVec.ofInt 64 n &&& BitVec.ofInt 64 63).toNat : Int) = _
    rw [BitVec.toNat_and, show (BitVec.ofInt 64 63).toNat = 63 from rfl]
    exact IntWalk.i64_in _ (by omega)
  have hx : (BitVec.ofInt 64 n).toNat &&& 63 ≤ 63 := Nat.and_le_right
  rw [nCount, h, IntKind.wrap_u64]
  omega
def nLeft (x y : Int) : Int := wrap64 (x * 2 ^ (nCount y).toNat)
def nRight (x y : Int) : Int := x / 2 ^ (nCount y).toNat
def nLogical (x y : Int) : Int := wrap64 (IntKind.u64.wrap x / 2 ^ (nCount y).toNat)
theorem num_Left (x y : Int) (w : World) : Calls Try.prog 37 #[.int .i64 x, .int .i64 y] w fun e w' => e = .returned (.int .i64 (nLeft x y)) ∧ w = w' := by
  have hk := hidden (fun W => num_count y W)
  obtain ⟨h0, h1⟩ := nCount_in y
  unfold nLeft
  generalize nCount y = c at *
  refine post_gen fun R hR => ?_
  go_enter Try.func37, Try.ntmps37
  go_wp2_with fail
  refine (hk.out _).mono ?_
  rintro e _ ⟨rfl, rfl⟩
  go_wp2_with fail
  exact hR.out _ _ ⟨rfl, rfl⟩
theorem num_Right (x y : Int) (w : World) : Calls Try.prog 38 #[.int .i64 x, .int .i64 y] w fun e w' => e = .returned (.int .i64 (nRight x y)) ∧ w = w' := by
  have hk := hidden (fun W => num_count y W)
  obtain ⟨h0, h1⟩ := nCount_in y
  unfold nRight
  generalize nCount y = c at *
  refine post_gen fun R hR => ?_
  go_enter Try.func38, Try.ntmps38
  go_wp2_with fail
  refine (hk.out _).mono ?_
  rintro e _ ⟨rfl, rfl⟩
  go_wp2_with fail
  exact hR.out _ _ ⟨rfl, rfl⟩
theorem num_Logical (x y : Int) (w : World) : Calls Try.prog 39 #[.int .i64 x, .int .i64 y] w fun e w' => e = .returned (.int .i64 (nLogical x y)) ∧ w = w' := by
  have hk := hidden (fun W => num_count y W)
  obtain ⟨h0, h1⟩ := nCount_in y
  unfold nLogical
  generalize nCount y = c at *
  refine post_gen fun R hR => ?_
  go_enter Try.func39, Try.ntmps39
  go_wp2_with fail
  refine (hk.out _).mono ?_
  rintro e _ ⟨rfl, rfl⟩
  go_wp2_with fail
  exact hR.out _ _ ⟨rfl, rfl⟩

/-! a number, mixed -/
theorem shift_zero (z k : Nat) (hk : 0 < k) (h : z = z >>> k) : z = 0 := by
  rw [Nat.shiftRight_eq_div_pow] at h
  have h2 : 2 ≤ 2 ^ k := by
    have := Nat.pow_le_pow_right (show 0 < 2 by decide) (show 1 ≤ k from hk)
    simpa using this
  by_cases h0 : z = 0
  · exact h0
  · have := Nat.div_lt_self (show 0 < z by omega) h2
    omega
theorem mix_inj (k x y : Nat) (hk : 0 < k) (h : x ^^^ (x >>> k) = y ^^^ (y >>> k)) : x = y := by
  have e : x ^^^ y = (x ^^^ y) >>> k := by
    rw [Nat.shiftRight_xor_distrib]
    have h2 := congrArg (fun z => z ^^^ (x >>> k) ^^^ y) h
    rw [Nat.xor_assoc x, Nat.xor_self, Nat.xor_zero] at h2
    rw [h2, Nat.xor_comm y, Nat.xor_assoc, Nat.xor_assoc, Nat.xor_comm y (x >>> k ^^^ y), Nat.xor_assoc, Nat.xor_self, Nat.xor_zero, Nat.xor_comm]
  have := shift_zero _ k hk e
  have h3 := congrArg (fun z => z ^^^ y) this
  rw [Nat.xor_assoc, Nat.xor_self, Nat.xor_zero, Nat.zero_xor] at h3
  exact h3
theorem mul_inj (c d x y : Nat) (hc : (c * d) % 18446744073709551616 = 1) (hx : x < 18446744073709551616) (hy : y < 18446744073709551616) (h : (x * c) % 18446744073709551616 = (y * c) % 18446744073709551616) : x = y := by
  have h2 : (x * c * d) % 18446744073709551616 = (y * c * d) % 18446744073709551616 := by rw [Nat.mul_mod (x * c), h, ← Nat.mul_mod]
  rw [Nat.mul_assoc, Nat.mul_assoc, Nat.mul_mod x, Nat.mul_mod y, hc, Nat.mul_one, Nat.mul_one, Nat.mod_mod, Nat.mod_mod, Nat.mod_eq_of_lt hx, Nat.mod_eq_of_lt hy] at h2
  exact h2
def hash0 (a : Int) : Int :=
  let x0 := IntKind.u64.wrap a
  let x1 := bits BinOp.xor .u64 x0 (x0 / 1073741824)
  let x2 := IntKind.u64.wrap (x1 * 13787848793156543929)
  let x3 := bits BinOp.xor .u64 x2 (x2 / 134217728)
  let x4 := IntKind.u64.wrap (x3 * 10723151780598845931)
  bits BinOp.xor .u64 x4 (x4 / 2147483648)
theorem num_Hash (x : Int) (w : World) : Calls Try.prog 53 #[.int .i64 x] w fun e w' => e = .returned (.int .u64 (hash0 x)) ∧ w = w' := by
  refine post_gen fun R hR => ?_
  go_enter Try.func53, Try.ntmps53
  go_wp2_with fail
  refine hR.out _ _ ⟨show Ending.returned (.int .u64 _) = .returned (.int .u64 _) from ret_int ?_, rfl⟩
  simp only [hash0]
theorem xor_nat (n k : Nat) (d : Int) (p : Nat) (hp : p = 2 ^ k) (hd : d = p) (h : n < 18446744073709551616) : bits BinOp.xor .u64 (n : Int) ((n : Int) / d) = ((n ^^^ (n >>> k) : Nat) : Int) := by
  subst hd hp
  rw [show (n : Int) / ((2 ^ k : Nat) : Int) = ((n / 2 ^ k : Nat) : Int) from by rw [Int.natCast_ediv], bits_xor_u64_nat _ _ h (Nat.lt_of_le_of_lt (Nat.div_le_self _ _) h), Nat.shiftRight_eq_div_pow]
theorem xor_lt (n k : Nat) (h : n < 18446744073709551616) : n ^^^ (n >>> k) < 18446744073709551616 := by
  have h2 : n < 2 ^ 64 := h
  exact Nat.xor_lt_two_pow h2 (Nat.lt_of_le_of_lt (Nat.shiftRight_le _ _) h2)
theorem mul_nat (n c : Nat) (d : Int) (hd : d = c) : IntKind.u64.wrap ((n : Int) * d) = (((n * c) % 18446744073709551616 : Nat) : Int) := by
  subst hd
  rw [IntKind.wrap_u64, ← Int.natCast_mul]
  generalize n * c = m
  omega
def hashN (n : Nat) : Nat :=
  let x1 := n ^^^ (n >>> 30)
  let x2 := (x1 * 13787848793156543929) % 18446744073709551616
  let x3 := x2 ^^^ (x2 >>> 27)
  let x4 := (x3 * 10723151780598845931) % 18446744073709551616
  x4 ^^^ (x4 >>> 31)
theorem hash0_nat (a : Int) : hash0 a = hashN (a % 18446744073709551616).toNat := by
  have hx : IntKind.u64.wrap a = ((a % 18446744073709551616).toNat : Int) := by rw [IntKind.wrap_u64]; omega
  have h0 : (a % 18446744073709551616).toNat < 18446744073709551616 := by omega
  have l3 : ∀ x c, (x * c) % 18446744073709551616 < 18446744073709551616 := fun x c => Nat.mod_lt _ (by decide)
  rw [hash0, hashN, hx]
  generalize (a % 18446744073709551616).toNat = n at *
  rw [xor_nat n 30 1073741824 1073741824 rfl rfl h0, mul_nat _ 13787848793156543929 13787848793156543929 rfl, xor_nat _ 27 134217728 134217728 rfl rfl (l3 _ _), mul_nat _ 10723151780598845931 10723151780598845931 rfl, xor_nat _ 31 2147483648 2147483648 rfl rfl (l3 _ _)]
theorem hashN_inj (n m : Nat) (hn : n < 18446744073709551616) (hm : m < 18446744073709551616) (h : hashN n = hashN m) : n = m := by
  simp only [hashN] at h
  have h1 := mix_inj 31 _ _ (by decide) h
  have l3 : ∀ x, (x * 13787848793156543929) % 18446744073709551616 < 18446744073709551616 := fun x => Nat.mod_lt _ (by decide)
  have h2 := mul_inj 10723151780598845931 3573116690164977347 _ _ (by decide) (xor_lt _ 27 (l3 _)) (xor_lt _ 27 (l3 _)) h1
  have h3 := mix_inj 27 _ _ (by decide) h2
  have h4 := mul_inj 13787848793156543929 10871156337175269513 _ _ (by decide) (xor_lt _ 30 hn) (xor_lt _ 30 hm) h3
  exact mix_inj 30 _ _ (by decide) h4
theorem hash0_inj (a b : Int) (ha : -9223372036854775808 ≤ a ∧ a ≤ 9223372036854775807) (hb : -9223372036854775808 ≤ b ∧ b ≤ 9223372036854775807) (h : hash0 a = hash0 b) : a = b := by
  rw [hash0_nat, hash0_nat] at h
  have := hashN_inj _ _ (by omega) (by omega) (Int.ofNat.inj h)
  omega
end Go.Proofs.Ytmjkglmkckofgaa
