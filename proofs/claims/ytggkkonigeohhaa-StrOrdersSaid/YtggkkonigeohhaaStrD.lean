/- Layer 2: contracts of Name, each, Lower, Upper, Strip. -/
import Derived.Test.YtggkkonigeohhaaStrC
namespace Go.Proofs.Ytggkkonigeohhaa
open Go.RowKit
set_option maxRecDepth 100000

theorem letterB_is (c : UInt8) : letterB c = true ↔ ((97 ≤ c.toNat ∧ c.toNat ≤ 122) ∨ (65 ≤ c.toNat ∧ c.toNat ≤ 90) ∨ c.toNat = 95) := by simp [letterB, or_assoc]
theorem digitB_is (c : UInt8) : digitB c = true ↔ (48 ≤ c.toNat ∧ c.toNat ≤ 57) := by simp [digitB]
theorem nameB_iff (l : List UInt8) : nameB l = true ↔ l ≠ [] ∧ ∀ i (h : i < l.length), letterB l[i] = true ∨ (i ≠ 0 ∧ digitB l[i] = true) := by
  cases l with
  | nil => simp [nameB]
  | cons c r =>
    simp only [nameB, Bool.and_eq_true, List.all_eq_true, Bool.or_eq_true]
    constructor
    · rintro ⟨h1, h2⟩
      refine ⟨by simp, fun i hi => ?_⟩
      cases i with
      | zero => exact .inl h1
      | succ i =>
        have hi' : i < r.length := by simpa using hi
        have := h2 r[i] (List.getElem_mem _)
        simp only [List.getElem_cons_succ]
        rcases this with h | h
        · exact .inl h
        · exact .inr ⟨by simp, h⟩
    · rintro ⟨-, h⟩
      refine ⟨?_, fun d hd => ?_⟩
      · rcases h 0 (by simp) with h0 | h0
        · exact h0
        · exact absurd rfl h0.1
      · obtain ⟨i, hi, rfl⟩ := List.mem_iff_getElem.1 hd
        rcases h (i + 1) (by simpa using hi) with h0 | h0
        · exact .inl h0
        · exact .inr h0.2
/-- All the bytes up to a place may stand in a name there. -/
def NameTo (l : List UInt8) (k : Nat) : Prop := ∀ i (h : i < l.length), i < k → letterB l[i] = true ∨ (i ≠ 0 ∧ digitB l[i] = true)
set_option maxHeartbeats 1000000 in
theorem str_Name (s : ByteArray) (w : World) (hs : s.size ≤ 140737488351232) : Calls Try.prog 26 #[.string s] w fun e w' => e = .returned (.bool (nameB s.data.toList)) ∧ w = w' := by
  have LA := hidden (list_len s)
  refine post_gen fun R hR => ?_
  go_enter Try.func26, Try.ntmps26
  go_wp2_with fail
  go_loop [8] (fun i => ∃ k : Nat, k ≤ s.size ∧ i = .int .i64 k ∧ Hid (NameTo s.data.toList k)) (fun i => s.size - (intOf i).toNat)
  case atStart => exact ⟨0, Nat.zero_le _, rfl, hidden (fun i _ h => absurd h (by omega))⟩
  case round =>
    obtain ⟨k, hk, rfl, HN⟩ := hrel
    by_cases hlt : k < s.size
    · have HA := hidden (at_list s hlt)
      have hc : s[k].toNat < 256 := s[k].toNat_lt
      have good : Hid ((letterB s[k] = true ∨ (k ≠ 0 ∧ digitB s[k] = true)) → NameTo s.data.toList (k + 1)) := hidden (fun h i hi hlt => by
        rcases Nat.lt_succ_iff_lt_or_eq.1 hlt with h1 | rfl
        · exact HN.out i hi h1
        · rw [HA.out]; exact h)
      have bad : Hid (¬ (letterB s[k] = true ∨ (k ≠ 0 ∧ digitB s[k] = true)) → nameB s.data.toList = false) := hidden (fun h => by
        rw [← Bool.not_eq_true, nameB_iff]
        rintro ⟨-, h2⟩
        have := h2 k (by rw [LA.out]; exact hlt)
        rw [HA.out] at this
        exact h this)
      have hL := hidden (letterB_is s[k])
      have hD := hidden (digitB_is s[k])
      clear HN HA
      by_cases hk0 : k = 0
      · have i0 : ((k : Int) == 0) = true := by simp; omega
        have HK0 := hidden hk0
        clear hk0
        rcases (show s[k].toNat < 65 ∨ (65 ≤ s[k].toNat ∧ s[k].toNat ≤ 90) ∨ (90 < s[k].toNat ∧ s[k].toNat < 95) ∨ s[k].toNat = 95 ∨ (95 < s[k].toNat ∧ s[k].toNat < 97) ∨ (97 ≤ s[k].toNat ∧ s[k].toNat ≤ 122) ∨ 122 < s[k].toNat by omega) with h | ⟨h, h'⟩ | ⟨h, h'⟩ | h | ⟨h, h'⟩ | ⟨h, h'⟩ | h
        all_goals
          have HH := hidden h
          first | have d1 : decide ((s[k].toNat : Int) ≤ 122) = true := by simp; omega | have d1 : decide ((s[k].toNat : Int) ≤ 122) = false := by simp; omega
          first | have d2 : decide ((s[k].toNat : Int) ≤ 90) = true := by simp; omega | have d2 : decide ((s[k].toNat : Int) ≤ 90) = false := by simp; omega
          try first | have d3 : decide ((s[k].toNat : Int) ≤ 57) = true := by simp; omega | have d3 : decide ((s[k].toNat : Int) ≤ 57) = false := by simp; omega
          first | have i1 : ((s[k].toNat : Int) == 95) = true := by simp; omega | have i1 : ((s[k].toNat : Int) == 95) = false := by simp; omega
          try (have h5 : s[k].toNat = 95 := h; clear h h5)
          go_wp2
        all_goals
          first
            | (refine hR.out _ _ ⟨show Ending.returned (.bool _) = .returned (.bool _) from ret_bool ?_, rfl⟩
               rw [bad.out (by rw [hL.out, hD.out]; have := HK0.out; have := HH.out; omega)])
            | (go_round
               case rel => exact ⟨k + 1, by omega, by go_num, hidden (good.out (by rw [hL.out, hD.out]; have := HK0.out; have := HH.out; omega))⟩
               case measure => simp [intOf]; omega)
      · have i0 : ((k : Int) == 0) = false := by simp; omega
        have HK0 := hidden hk0
        clear hk0
        rcases (show s[k].toNat < 48 ∨ (48 ≤ s[k].toNat ∧ s[k].toNat ≤ 57) ∨ (57 < s[k].toNat ∧ s[k].toNat < 65) ∨ (65 ≤ s[k].toNat ∧ s[k].toNat ≤ 90) ∨ (90 < s[k].toNat ∧ s[k].toNat < 95) ∨ s[k].toNat = 95 ∨ (95 < s[k].toNat ∧ s[k].toNat < 97) ∨ (97 ≤ s[k].toNat ∧ s[k].toNat ≤ 122) ∨ 122 < s[k].toNat by omega) with h | ⟨h, h'⟩ | ⟨h, h'⟩ | ⟨h, h'⟩ | ⟨h, h'⟩ | h | ⟨h, h'⟩ | ⟨h, h'⟩ | h
        all_goals
          have HH := hidden h
          first | have d1 : decide ((s[k].toNat : Int) ≤ 122) = true := by simp; omega | have d1 : decide ((s[k].toNat : Int) ≤ 122) = false := by simp; omega
          first | have d2 : decide ((s[k].toNat : Int) ≤ 90) = true := by simp; omega | have d2 : decide ((s[k].toNat : Int) ≤ 90) = false := by simp; omega
          try first | have d3 : decide ((s[k].toNat : Int) ≤ 57) = true := by simp; omega | have d3 : decide ((s[k].toNat : Int) ≤ 57) = false := by simp; omega
          first | have i1 : ((s[k].toNat : Int) == 95) = true := by simp; omega | have i1 : ((s[k].toNat : Int) == 95) = false := by simp; omega
          try (have h5 : s[k].toNat = 95 := h; clear h h5)
          go_wp2
        all_goals
          first
            | (refine hR.out _ _ ⟨show Ending.returned (.bool _) = .returned (.bool _) from ret_bool ?_, rfl⟩
               rw [bad.out (by rw [hL.out, hD.out]; have := HK0.out; have := HH.out; omega)])
            | (go_round
               case rel => exact ⟨k + 1, by omega, by go_num, hidden (good.out (by rw [hL.out, hD.out]; have := HK0.out; have := HH.out; omega))⟩
               case measure => simp [intOf]; omega)
    · obtain rfl : k = s.size := by omega
      by_cases h0 : 0 < s.size
      · have hne := str_some h0
        go_wp2
        refine hR.out _ _ ⟨show Ending.returned (.bool _) = .returned (.bool _) from ret_bool ?_, rfl⟩
        symm
        rw [nameB_iff]
        exact ⟨fun e => by have := LA.out; rw [e] at this; simp at this; omega, fun i hi => HN.out i hi (by rw [← LA.out]; exact hi)⟩
      · obtain rfl := str_none h0
        go_wp2
        exact hR.out _ _ ⟨rfl, rfl⟩
end Go.Proofs.Ytggkkonigeohhaa
