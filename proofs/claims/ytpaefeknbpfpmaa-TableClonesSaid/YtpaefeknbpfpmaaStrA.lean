/- Layer 2: contracts of the functions on texts that call nothing of Go's library. -/
import Derived.Test.YtpaefeknbpfpmaaStrP
import Derived.Test.YtpaefeknbpfpmaaTxt
namespace Go.Proofs.Ytpaefeknbpfpmaa
open Go.RowKit
set_option maxRecDepth 100000

theorem digI_is (c : UInt8) : (48 ≤ c.toNat ∧ c.toNat ≤ 57 → digI c = c.toNat - 48) ∧ (97 ≤ c.toNat ∧ c.toNat ≤ 102 → digI c = c.toNat - 87) ∧ (65 ≤ c.toNat ∧ c.toNat ≤ 70 → digI c = c.toNat - 55) ∧
    (¬ (48 ≤ c.toNat ∧ c.toNat ≤ 57) ∧ ¬ (97 ≤ c.toNat ∧ c.toNat ≤ 102) ∧ ¬ (65 ≤ c.toNat ∧ c.toNat ≤ 70) → digI c = -1) := by
  have key : ∀ n : Nat, dig c = n → digI c = if n < 16 then (n : Int) else -1 := fun n h => by rw [digI, h]
  refine ⟨fun h => ?_, fun h => ?_, fun h => ?_, fun h => ?_⟩
  · rw [key (c.toNat - 48) (by rw [dig, if_pos h]), if_pos (by omega)]; omega
  · rw [key (c.toNat - 87) (by rw [dig, if_neg (by omega), if_pos h]), if_pos (by omega)]; omega
  · rw [key (c.toNat - 55) (by rw [dig, if_neg (by omega), if_neg (by omega), if_pos h]), if_pos (by omega)]; omega
  · rw [key 16 (by rw [dig, if_neg (by omega), if_neg (by omega), if_neg (by omega)]), if_neg (by omega)]
theorem esc_is (c : UInt8) : (c.toNat = 34 ∨ c.toNat = 39 ∨ c.toNat = 92 → esc c = [92, c]) ∧ (c.toNat = 10 → esc c = [92, 110]) ∧ (c.toNat = 13 → esc c = [92, 114]) ∧ (c.toNat = 9 → esc c = [92, 116]) ∧
    (¬ (c.toNat = 34 ∨ c.toNat = 39 ∨ c.toNat = 92) → 32 ≤ c.toNat ∧ c.toNat < 127 → esc c = [c]) ∧
    (¬ (c.toNat = 10 ∨ c.toNat = 13 ∨ c.toNat = 9) → ¬ (32 ≤ c.toNat ∧ c.toNat < 127) → esc c = [92, 120, hexd (c.toNat / 16), hexd (c.toNat % 16)]) := by
  refine ⟨fun h => ?_, fun h => ?_, fun h => ?_, fun h => ?_, fun h k => ?_, fun h k => ?_⟩
  · rw [esc, if_pos h]
  · rw [esc, if_neg (by omega), if_pos h]
  · rw [esc, if_neg (by omega), if_neg (by omega), if_pos h]
  · rw [esc, if_neg (by omega), if_neg (by omega), if_neg (by omega), if_pos h]
  · rw [esc, if_neg (by omega), if_neg (by omega), if_neg (by omega), if_neg (by omega), if_pos k]
  · rw [esc, if_neg (by omega), if_neg (by omega), if_neg (by omega), if_neg (by omega), if_neg k]
theorem hex_at : ∀ n, n < 16 → (⟨#[48, 49, 50, 51, 52, 53, 54, 55, 56, 57, 97, 98, 99, 100, 101, 102]⟩ : ByteArray).extract n (n + 1) = ⟨#[hexd n]⟩ := by decide
end Go.Proofs.Ytpaefeknbpfpmaa
