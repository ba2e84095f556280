/- Hashes: num.Hash, value.Hash: contracts; what is plain of them. -/
import Derived.Test.YtpaefeknbpfpmaaStrC
import Derived.Test.YtpaefeknbpfpmaaVal
import Derived.IntWalk
namespace Go.Proofs.Ytpaefeknbpfpmaa
open Go.RowKit
set_option maxRecDepth 100000

theorem shift_zero (z k : Nat) (hk : 0 < k) (h : z = z >>> k) : z = 0 := by
  rw [Nat.shiftRight_eq_div_pow] at h
  have h2 : 2 ≤ 2 ^ k := by
    have := Nat.pow_le_pow_right (show 0 < 2 by decide) (show 1 ≤ k from hk)
    simpa using this
  by_cases h0 : z = 0
  · exact h0
  · have := Nat.div_lt_self (show 0 < z by omega) h2
    omega
theorem mix_inj (k x y : Nat) (hk : 0 < k) (h : x ^^^ (x >>> k) = y ^^^ (y >>> k)) : x = y := by
  have e : x ^^^ y = (x ^^^ y) >>> k := by
    rw [Nat.shiftRight_xor_distrib]
    have h2 := congrArg (fun z => z ^^^ (x >>> k) ^^^ y) h
    rw [Nat.xor_assoc x, Nat.xor_self, Nat.xor_zero] at h2
    rw [h2, Nat.xor_comm y, Nat.xor_assoc, Nat.xor_assoc, Nat.xor_comm y (x >>> k ^^^ y), Nat.xor_assoc, Nat.xor_self, Nat.xor_zero, Nat.xor_comm]
  have := shift_zero _ k hk e
  have h3 := congrArg (fun z => z ^^^ y) this
  rw [Nat.xor_assoc, Nat.xor_self, Nat.xor_zero, Nat.zero_xor] at h3
  exact h3
theorem mul_inj (c d x y : Nat) (hc : (c * d) % 18446744073709551616 = 1) (hx : x < 18446744073709551616) (hy : y < 18446744073709551616) (h : (x * c) % 18446744073709551616 = (y * c) % 18446744073709551616) : x = y := by
  have h2 : (x * c * d) % 18446744073709551616 = (y * c * d) % 18446744073709551616 := by rw [Nat.mul_mod (x * c), h, ← Nat.mul_mod]
  rw [Nat.mul_assoc, Nat.mul_assoc, Nat.mul_mod x, Nat.mul_mod y, hc, Nat.mul_one, Nat.mul_one, Nat.mod_mod, Nat.mod_mod, Nat.mod_eq_of_lt hx, Nat.mod_eq_of_lt hy] at h2
  exact h2
def hash0 (a : Int) : Int :=
  let x0 := IntKind.u64.wrap a
  let x1 := bits BinOp.xor .u64 x0 (x0 / 1073741824)
  let x2 := IntKind.u64.wrap (x1 * 13787848793156543929)
  let x3 := bits BinOp.xor .u64 x2 (x2 / 134217728)
  let x4 := IntKind.u64.wrap (x3 * 10723151780598845931)
  bits BinOp.xor .u64 x4 (x4 / 2147483648)
theorem num_Hash (x : Int) (w : World) : Calls Try.prog 103 #[.int .i64 x] w fun e w' => e = .returned (.int .u64 (hash0 x)) ∧ w = w' := by
  refine post_gen fun R hR => ?_
  go_enter Try.func103, Try.ntmps103
  go_wp2_with fail
  refine hR.out _ _ ⟨show Ending.returned (.int .u64 _) = .returned (.int .u64 _) from ret_int ?_, rfl⟩
  simp only [hash0]
theorem xor_nat (n k : Nat) (d : Int) (p : Nat) (hp : p = 2 ^ k) (hd : d = p) (h : n < 18446744073709551616) : bits BinOp.xor .u64 (n : Int) ((n : Int) / d) = ((n ^^^ (n >>> k) : Nat) : Int) := by
  subst hd hp
  rw [show (n : Int) / ((2 ^ k : Nat) : Int) = ((n / 2 ^ k : Nat) : Int) from by rw [Int.natCast_ediv], bits_xor_u64_nat _ _ h (Nat.lt_of_le_of_lt (Nat.div_le_self _ _) h), Nat.shiftRight_eq_div_pow]
theorem xor_lt (n k : Nat) (h : n < 18446744073709551616) : n ^^^ (n >>> k) < 18446744073709551616 := by
  have h2 : n < 2 ^ 64 := h
  exact Nat.xor_lt_two_pow h2 (Nat.lt_of_le_of_lt (Nat.shiftRight_le _ _) h2)
theorem mul_nat (n c : Nat) (d : Int) (hd : d = c) : IntKind.u64.wrap ((n : Int) * d) = (((n * c) % 18446744073709551616 : Nat) : Int) := by
  subst hd
  rw [IntKind.wrap_u64, ← Int.natCast_mul]
  generalize n * c = m
  omega
def hashN (n : Nat) : Nat :=
  let x1 := n ^^^ (n >>> 30)
  let x2 := (x1 * 13787848793156543929) % 18446744073709551616
  let x3 := x2 ^^^ (x2 >>> 27)
  let x4 := (x3 * 10723151780598845931) % 18446744073709551616
  x4 ^^^ (x4 >>> 31)
theorem hash0_nat (a : Int) : hash0 a = hashN (a % 18446744073709551616).toNat := by
  have hx : IntKind.u64.wrap a = ((a % 18446744073709551616).toNat : Int) := by rw [IntKind.wrap_u64]; omega
  have h0 : (a % 18446744073709551616).toNat < 18446744073709551616 := by omega
  have l3 : ∀ x c, (x * c) % 18446744073709551616 < 18446744073709551616 := fun x c => Nat.mod_lt _ (by decide)
  rw [hash0, hashN, hx]
  generalize (a % 18446744073709551616).toNat = n at *
  rw [xor_nat n 30 1073741824 1073741824 rfl rfl h0, mul_nat _ 13787848793156543929 13787848793156543929 rfl, xor_nat _ 27 134217728 134217728 rfl rfl (l3 _ _), mul_nat _ 10723151780598845931 10723151780598845931 rfl, xor_nat _ 31 2147483648 2147483648 rfl rfl (l3 _ _)]
theorem hashN_inj (n m : Nat) (hn : n < 18446744073709551616) (hm : m < 18446744073709551616) (h : hashN n = hashN m) : n = m := by
  simp only [hashN] at h
  have h1 := mix_inj 31 _ _ (by decide) h
  have l3 : ∀ x, (x * 13787848793156543929) % 18446744073709551616 < 18446744073709551616 := fun x => Nat.mod_lt _ (by decide)
  have h2 := mul_inj 10723151780598845931 3573116690164977347 _ _ (by decide) (xor_lt _ 27 (l3 _)) (xor_lt _ 27 (l3 _)) h1
  have h3 := mix_inj 27 _ _ (by decide) h2
  have h4 := mul_inj 13787848793156543929 10871156337175269513 _ _ (by decide) (xor_lt _ 30 hn) (xor_lt _ 30 hm) h3
  exact mix_inj 30 _ _ (by decide) h4
theorem hash0_inj (a b : Int) (ha : -9223372036854775808 ≤ a ∧ a ≤ 9223372036854775807) (hb : -9223372036854775808 ≤ b ∧ b ≤ 9223372036854775807) (h : hash0 a = hash0 b) : a = b := by
  rw [hash0_nat, hash0_nat] at h
  have := hashN_inj _ _ (by omega) (by omega) (Int.ofNat.inj h)
  omega
def V.hash (v : V) : Int := if v.k = 3 then hashL v.t.data.toList else if v.k = 0 then 0 else IntKind.u64.wrap (hash0 v.n + IntKind.u64.wrap (IntKind.u64.wrap v.k * 11400714819323198485))
theorem value_Hash (v : V) (w : World) (ht : v.t.size ≤ 140737488351232) : Calls Try.prog 98 #[v.val] w fun e w' => e = .returned (.int .u64 v.hash) ∧ Keeps (fun _ => False) w w' := by
  obtain ⟨k, n, t⟩ := v
  have h1 := hidden (fun W => str_Hash t W ht)
  have h2 := hidden (fun W => num_Hash n W)
  unfold V.val
  simp only [V.hash]
  generalize hashL t.data.toList = x at *
  generalize hash0 n = y at *
  refine post_gen fun R hR => ?_
  by_cases g3 : k = 3
  · subst g3
    rw [if_pos rfl] at hR
    go_enter Try.func98, Try.ntmps98
    go_wp2_with (go_at_call 102; refine (h1.out _).mono ?_; rintro e _ ⟨rfl, rfl⟩)
    exact hR.out _ _ ⟨rfl, (Keeps.refl _ _).alloc _⟩
  · have i3 : (k == 3) = false := by simpa using g3
    rw [if_neg g3] at hR
    by_cases g0 : k = 0
    · subst g0
      rw [if_pos rfl] at hR
      go_enter Try.func98, Try.ntmps98
      go_wp2_with fail
      exact hR.out _ _ ⟨rfl, (Keeps.refl _ _).alloc _⟩
    · have i0 : (k == 0) = false := by simpa using g0
      rw [if_neg g0] at hR
      go_enter Try.func98, Try.ntmps98
      go_wp2_with fail
      go_quiet ((go_at_call 103; exact Calls.quiet_of_same ((h2.out _).mono fun _ _ ⟨h1, h2⟩ => ⟨h1, h2.symm⟩)))
      go_wp2_with fail
      exact hR.out _ _ ⟨show Ending.returned (.int .u64 _) = .returned (.int .u64 _) from ret_int rfl, ((Keeps.refl _ _).alloc _).drewN _⟩
theorem u64_in (n : Int) : 0 ≤ IntKind.u64.wrap n ∧ IntKind.u64.wrap n < 18446744073709551616 := by rw [IntKind.wrap_u64]; omega
theorem hashN_lt (n : Nat) : hashN n < 18446744073709551616 := by
  simp only [hashN]
  exact xor_lt _ 31 (Nat.mod_lt _ (by decide))
theorem hash0_in (n : Int) : 0 ≤ hash0 n ∧ hash0 n < 18446744073709551616 := by
  rw [hash0_nat]
  have := hashN_lt (n % 18446744073709551616).toNat
  omega
theorem hstep_in (l : List UInt8) : ∀ a : Int, 0 ≤ a ∧ a < 18446744073709551616 → 0 ≤ l.foldl hstep a ∧ l.foldl hstep a < 18446744073709551616 := by
  induction l with
  | nil => intro a h; exact h
  | cons c l ih => intro a _; exact ih _ (u64_in _)
theorem hashL_in (l : List UInt8) : 0 ≤ hashL l ∧ hashL l < 18446744073709551616 := hstep_in l _ (by omega)
theorem V.hash_in (v : V) : 0 ≤ v.hash ∧ v.hash < 18446744073709551616 := by
  unfold V.hash
  split
  · exact hashL_in _
  · split
    · omega
    · exact u64_in _
end Go.Proofs.Ytpaefeknbpfpmaa
