/- Layer 2: contracts of the functions on texts that call nothing of Go's library. -/
import Derived.Test.YtmjkglmkckofgaaStrP
import Derived.Test.YtmjkglmkckofgaaTxt
namespace Go.Proofs.Ytmjkglmkckofgaa
open Go.RowKit
set_option maxRecDepth 100000

theorem digI_is (c : UInt8) : (48 ≤ c.toNat ∧ c.toNat ≤ 57 → digI c = c.toNat - 48) ∧ (97 ≤ c.toNat ∧ c.toNat ≤ 102 → digI c = c.toNat - 87) ∧ (65 ≤ c.toNat ∧ c.toNat ≤ 70 → digI c = c.toNat - 55) ∧
    (¬ (48 ≤ c.toNat ∧ c.toNat ≤ 57) ∧ ¬ (97 ≤ c.toNat ∧ c.toNat ≤ 102) ∧ ¬ (65 ≤ c.toNat ∧ c.toNat ≤ 70) → digI c = -1) := by
  have key : ∀ n : Nat, dig c = n → digI c = if n < 16 then (n : Int) else -1 := fun n h => by rw [digI, h]
  refine ⟨fun h => ?_, fun h => ?_, fun h => ?_, fun h => ?_⟩
  · rw [key (c.toNat - 48) (by rw [dig, if_pos h]), if_pos (by omega)]; omega
  · rw [key (c.toNat - 87) (by rw [dig, if_neg (by omega), if_pos h]), if_pos (by omega)]; omega
  · rw [key (c.toNat - 55) (by rw [dig, if_neg (by omega), if_neg (by omega), if_pos h]), if_pos (by omega)]; omega
  · rw [key 16 (by rw [dig, if_neg (by omega), if_neg (by omega), if_neg (by omega)]), if_neg (by omega)]
theorem text1 (c : UInt8) (w : World) : (convert 63 9 (.slice (some ⟨w.heap.size, 0, none⟩) 1 1)).run Try.prog (w.alloc (.cells #[.int .u8 c.toNat] 5)) = .ok (.string ⟨#[c]⟩) (w.alloc (.cells #[.int .u8 c.toNat] 5)) :=
  own_text (P := Try.prog) (base := 0) (e' := 5) (xs := [c]) Try.underlying63 Try.underlying5 Try.underlying9 ⟨rfl, .inr ⟨w.heap.size, 1, #[.int .u8 c.toNat], rfl, Nat.zero_le _, blk_new _ _, Nat.le_refl _, by decide, rfl, rfl⟩⟩
theorem esc_is (c : UInt8) : (c.toNat = 34 ∨ c.toNat = 39 ∨ c.toNat = 92 → esc c = [92, c]) ∧ (c.toNat = 10 → esc c = [92, 110]) ∧ (c.toNat = 13 → esc c = [92, 114]) ∧ (c.toNat = 9 → esc c = [92, 116]) ∧
    (¬ (c.toNat = 34 ∨ c.toNat = 39 ∨ c.toNat = 92) → 32 ≤ c.toNat ∧ c.toNat < 127 → esc c = [c]) ∧
    (¬ (c.toNat = 10 ∨ c.toNat = 13 ∨ c.toNat = 9) → ¬ (32 ≤ c.toNat ∧ c.toNat < 127) → esc c = [92, 120, hexd (c.toNat / 16), hexd (c.toNat % 16)]) := by
  refine ⟨fun h => ?_, fun h => ?_, fun h => ?_, fun h => ?_, fun h k => ?_, fun h k => ?_⟩
  · rw [esc, if_pos h]
  · rw [esc, if_neg (by omega), if_pos h]
  · rw [esc, if_neg (by omega), if_neg (by omega), if_pos h]
  · rw [esc, if_neg (by omega), if_neg (by omega), if_neg (by omega), if_pos h]
  · rw [esc, if_neg (by omega), if_neg (by omega), if_neg (by omega), if_neg (by omega), if_pos k]
  · rw [esc, if_neg (by omega), if_neg (by omega), if_neg (by omega), if_neg (by omega), if_neg k]
theorem hex_at : ∀ n, n < 16 → (⟨#[48, 49, 50, 51, 52, 53, 54, 55, 56, 57, 97, 98, 99, 100, 101, 102]⟩ : ByteArray).extract n (n + 1) = ⟨#[hexd n]⟩ := by decide
theorem str_Escape (c : UInt8) (w : World) : Calls Try.prog 48 #[.int .u8 c.toNat] w fun e w' => e = .returned (.string (mkS (esc c))) ∧ Keeps (fun _ => False) w w' := by
  have hc : c.toNat < 256 := c.toNat_lt
  have kc := text1 c
  have E := hidden (esc_is c)
  refine post_gen fun R hR => ?_
  go_enter Try.func48, Try.ntmps48
  go_wp2
  any_goals
    refine hR.out _ _ ⟨show Ending.returned (.string _) = .returned (.string _) from ret_str ?_, by first | exact Keeps.refl _ _ | exact (Keeps.refl _ _).alloc _⟩
    clear hR kc
    obtain ⟨e1, e2, e3, e4, e5, e6⟩ := E.out
    simp only [beq_iff_eq, beq_eq_false_iff_ne, ne_eq] at *
    first | (rw [e1 (by omega)]; rfl) | (rw [e2 (by omega)]; rfl) | (rw [e3 (by omega)]; rfl) | (rw [e4 (by omega)]; rfl)| (rw [e5 (by omega) (by omega)]; rfl)
  all_goals
    go_quiet (fail)
    go_wp2
    refine hR.out _ _ ⟨show Ending.returned (.string _) = .returned (.string _) from ret_str ?_, (Keeps.refl _ _).drewN _⟩
    clear hR kc
    obtain ⟨e1, e2, e3, e4, e5, e6⟩ := E.out
    simp only [beq_eq_false_iff_ne, ne_eq] at *
    rw [e6 (by omega) (by omega), hex_at (c.toNat / 16) (by omega), hex_at (c.toNat % 16) (by omega)]
    rfl
end Go.Proofs.Ytmjkglmkckofgaa
