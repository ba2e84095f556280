/- Layer 2: contracts of Compare, Hash, place, Slice, blank, Front, Back, Strip. -/
import Derived.Test.YtggkkonigeohhaaStrB
namespace Go.Proofs.Ytggkkonigeohhaa
open Go.RowKit
set_option maxRecDepth 100000

theorem cmpL_more {l m : List UInt8} {k : Nat} (h1 : k < l.length) (h2 : k < m.length) (h : l[k] = m[k]) : cmpL (l.drop k) (m.drop k) = cmpL (l.drop (k + 1)) (m.drop (k + 1)) := by
  rw [List.drop_eq_getElem_cons h1, List.drop_eq_getElem_cons h2]; simp [cmpL, h]
theorem cmpL_here {l m : List UInt8} {k : Nat} (h1 : k < l.length) (h2 : k < m.length) (h : l[k] ≠ m[k]) : cmpL (l.drop k) (m.drop k) = if l[k].toNat < m[k].toNat then -1 else 1 := by
  rw [List.drop_eq_getElem_cons h1, List.drop_eq_getElem_cons h2]; simp only [cmpL, if_neg h]
theorem cmpL_end {l m : List UInt8} {k : Nat} (h : k = min l.length m.length) : cmpL (l.drop k) (m.drop k) = if l.length < m.length then -1 else if m.length < l.length then 1 else 0 := by
  rcases Nat.lt_trichotomy l.length m.length with h1 | h1 | h1
  · obtain rfl : k = l.length := by omega
    rw [if_pos h1, List.drop_length, List.drop_eq_getElem_cons h1]; simp [cmpL]
  · obtain rfl : k = l.length := by omega
    rw [if_neg (by omega), if_neg (by omega), List.drop_length, h1, List.drop_length]; simp [cmpL]
  · obtain rfl : k = m.length := by omega
    rw [if_neg (by omega), if_pos h1, List.drop_length, List.drop_eq_getElem_cons h1]; simp [cmpL]
set_option maxHeartbeats 1000000 in
theorem str_Compare (a b : ByteArray) (w : World) (ha : a.size ≤ 140737488351232) (hb : b.size ≤ 140737488351232) : Calls Try.prog 27 #[.string a, .string b] w fun e w' => e = .returned (.int .i64 (cmpL a.data.toList b.data.toList)) ∧ Drew w w' := by
  have LA := hidden (list_len a)
  have LB := hidden (list_len b)
  have H0 := hidden (show cmpL (a.data.toList.drop 0) (b.data.toList.drop 0) = cmpL a.data.toList b.data.toList from rfl)
  generalize cmpL a.data.toList b.data.toList = r at *
  have go : ∀ m : Nat, m = min a.size b.size → ((m : Int) = if (b.size : Int) < a.size then (b.size : Int) else a.size) := by intro m h; split <;> omega
  clear go
  refine post_gen fun R hR => ?_
  go_enter Try.func27, Try.ntmps27
  go_wp2_with fail
  all_goals
    go_loopw [11] (fun i wr => ∃ (k : Nat), k ≤ a.size ∧ k ≤ b.size ∧ i = .int .i64 k ∧ Drew w wr ∧ cmpL (a.data.toList.drop k) (b.data.toList.drop k) = r) (fun i _ => a.size - (intOf i).toNat)
    case atStart => exact ⟨0, Nat.zero_le _, Nat.zero_le _, rfl, Drew.refl _, H0.out⟩
    case round =>
      obtain ⟨k, hk1, hk2, rfl, hD, heq⟩ := hrel
      have HEQ := hidden heq
      clear heq
      by_cases hlt : k < a.size ∧ k < b.size
      · obtain ⟨h1, h2⟩ := hlt
        have GA := hidden (at_list a h1)
        have GB := hidden (at_list b h2)
        have KA := hidden (show k < a.data.toList.length by rw [LA.out]; exact h1)
        have KB := hidden (show k < b.data.toList.length by rw [LB.out]; exact h2)
        by_cases hc : a[k] = b[k]
        · have i1 : ((a[k].toNat : Int) == b[k].toNat) = true := by simp; rw [hc]
          have i2 : ((a[k].toNat : Int) != b[k].toNat) = false := by simp; rw [hc]
          have HC := hidden (cmpL_more KA.out KB.out (by rw [GA.out, GB.out]; exact hc))
          clear hc
          go_wp2
          go_quiet (fail)
          go_wp2
          go_roundw
          case rel => exact ⟨k + 1, by omega, by omega, by go_num, hD.drewN _, by rw [← HC.out]; exact HEQ.out⟩
          case measure => simp [intOf]; omega
        · have hne : ¬ a[k].toNat = b[k].toNat := fun h => hc (UInt8.toNat_inj.1 h)
          have i1 : ((a[k].toNat : Int) == b[k].toNat) = false := by simp; omega
          have i2 : ((a[k].toNat : Int) != b[k].toNat) = true := by simp; omega
          have HC := hidden (cmpL_here KA.out KB.out (by rw [GA.out, GB.out]; exact hc))
          clear hc
          by_cases hlt : a[k].toNat < b[k].toNat
          · go_wp2
            go_quiet (fail)
            go_wp2
            go_quiet (fail)
            go_wp2
            refine hR.out _ _ ⟨show Ending.returned (.int .i64 _) = .returned (.int .i64 _) from ret_int ?_, (hD.drewN _).drewN _⟩
            rw [← HEQ.out, HC.out, if_pos (by rw [GA.out, GB.out]; exact hlt)]
          · go_wp2
            go_quiet (fail)
            go_wp2
            go_quiet (fail)
            go_wp2
            refine hR.out _ _ ⟨show Ending.returned (.int .i64 _) = .returned (.int .i64 _) from ret_int ?_, (hD.drewN _).drewN _⟩
            rw [← HEQ.out, HC.out, if_neg (by rw [GA.out, GB.out]; exact hlt)]
      · have HE := hidden (cmpL_end (l := a.data.toList) (m := b.data.toList) (k := k) (by rw [LA.out, LB.out]; omega))
        go_wp2
        all_goals
          refine hR.out _ _ ⟨show Ending.returned (.int .i64 _) = .returned (.int .i64 _) from ret_int ?_, hD⟩
          have h1 := HEQ.out
          rw [HE.out, LA.out, LB.out] at h1
          rw [← h1]
          first | rw [if_pos (by omega)] | rw [if_neg (by omega), if_pos (by omega)] | rw [if_neg (by omega), if_neg (by omega)]

def hstep (h : Int) (c : UInt8) : Int := IntKind.u64.wrap (bits BinOp.xor .u64 h (IntKind.u64.wrap c.toNat) * 1099511628211)
def hashL (l : List UInt8) : Int := l.foldl hstep 14695981039346656037
theorem hashL_take {l : List UInt8} {k : Nat} (h : k < l.length) : hashL (l.take (k + 1)) = hstep (hashL (l.take k)) l[k] := by
  rw [List.take_succ_eq_append_getElem h, hashL, List.foldl_append]; rfl
set_option maxHeartbeats 400000 in
theorem str_Hash (s : ByteArray) (w : World) (hs : s.size ≤ 140737488351232) : Calls Try.prog 29 #[.string s] w fun e w' => e = .returned (.int .u64 (hashL s.data.toList)) ∧ w = w' := by
  have LA := hidden (list_len s)
  refine post_gen fun R hR => ?_
  go_enter Try.func29, Try.ntmps29
  go_wp2_with fail
  go_loop [3, 7] (fun h i => ∃ k : Nat, k ≤ s.size ∧ i = .int .i64 k ∧ h = .int .u64 (hashL (s.data.toList.take k))) (fun _ i => s.size - (intOf i).toNat)
  case atStart => exact ⟨0, Nat.zero_le _, rfl, by simp only [List.take_zero, hashL, List.foldl_nil]⟩
  case round =>
    obtain ⟨k, hk, rfl, rfl⟩ := hrel
    by_cases hlt : k < s.size
    · have GA := hidden (at_list s hlt)
      have KA := hidden (hashL_take (l := s.data.toList) (k := k) (by rw [LA.out]; exact hlt))
      generalize hashL (s.data.toList.take k) = x at *
      go_wp2
      go_round
      case rel => exact ⟨k + 1, by omega, by go_num, by rw [KA.out, GA.out, hstep]⟩
      case measure => simp [intOf]; omega
    · obtain rfl : k = s.size := by omega
      go_wp2
      refine hR.out _ _ ⟨?_, rfl⟩
      rw [List.take_of_length_le (by rw [LA.out]; exact Nat.le_refl _)]
theorem str_place (n : Int) (long : Nat) (w : World) (h1 : -9223372036854775808 ≤ n) (hl : long ≤ 140737488351232) : Calls Try.prog 35 #[.int .i64 n, .int .i64 long] w fun e w' => e = .returned (.int .i64 (if n < 0 then n + long else n)) ∧ w = w' := by
  refine post_gen fun R hR => ?_
  go_enter Try.func35, Try.ntmps35
  go_wp2
  · refine hR.out _ _ ⟨show Ending.returned (.int .i64 _) = .returned (.int .i64 _) from ret_int ?_, rfl⟩
    rw [if_pos (by assumption)]; omega
  · refine hR.out _ _ ⟨show Ending.returned (.int .i64 _) = .returned (.int .i64 _) from ret_int ?_, rfl⟩
    rw [if_neg (by omega)]
def plc (n : Int) (long : Nat) : Int := if n < 0 then n + long else n
/-- A piece of a text. -/
def slcAns (s : ByteArray) (a b : Int) : Value :=
  if plc a s.size < 0 ∨ plc b s.size < plc a s.size ∨ (s.size : Int) < plc b s.size then .tuple #[.string ⟨#[]⟩, .int .i64 1]
  else .tuple #[.string (s.extract (plc a s.size).toNat (plc b s.size).toNat), .int .i64 0]
theorem str_Slice (s : ByteArray) (a b : Int) (w : World) (hs : s.size ≤ 140737488351232) (ha : -9223372036854775808 ≤ a ∧ a ≤ 9223372036854775807) (hb : -9223372036854775808 ≤ b ∧ b ≤ 9223372036854775807) :
    Calls Try.prog 16 #[.string s, .int .i64 a, .int .i64 b] w fun e w' => e = .returned (slcAns s a b) ∧ w = w' := by
  have pa := str_place a s.size w ha.1 hs
  have pb := str_place b s.size w hb.1 hs
  have A1 : plc a s.size ≤ 9223372036854775807 := by unfold plc; split <;> omega
  have A2 : -9223372036854775808 ≤ plc a s.size := by unfold plc; split <;> omega
  have B1 : plc b s.size ≤ 9223372036854775807 := by unfold plc; split <;> omega
  have B2 : -9223372036854775808 ≤ plc b s.size := by unfold plc; split <;> omega
  unfold slcAns
  change Calls _ _ _ _ (fun e w' => e = .returned (.int .i64 (plc a s.size)) ∧ w = w') at pa
  change Calls _ _ _ _ (fun e w' => e = .returned (.int .i64 (plc b s.size)) ∧ w = w') at pb
  have PA := hidden pa
  have PB := hidden pb
  clear pa pb
  generalize plc a s.size = x at *
  generalize plc b s.size = y at *
  refine post_gen fun R hR => ?_
  by_cases h0 : x < 0
  · rw [if_pos (.inl h0)] at hR
    go_enter Try.func16, Try.ntmps16
    go_wp2_with fail
    refine PA.out.mono ?_
    rintro e _ ⟨rfl, rfl⟩
    go_wp2_with fail
    refine PB.out.mono ?_
    rintro e _ ⟨rfl, rfl⟩
    go_wp2_with fail
    exact hR.out _ _ ⟨rfl, rfl⟩
  by_cases h1 : y < x
  · rw [if_pos (.inr (.inl h1))] at hR
    go_enter Try.func16, Try.ntmps16
    go_wp2_with fail
    refine PA.out.mono ?_
    rintro e _ ⟨rfl, rfl⟩
    go_wp2_with fail
    refine PB.out.mono ?_
    rintro e _ ⟨rfl, rfl⟩
    go_wp2_with fail
    exact hR.out _ _ ⟨rfl, rfl⟩
  by_cases h2 : (s.size : Int) < y
  · rw [if_pos (.inr (.inr h2))] at hR
    go_enter Try.func16, Try.ntmps16
    go_wp2_with fail
    refine PA.out.mono ?_
    rintro e _ ⟨rfl, rfl⟩
    go_wp2_with fail
    refine PB.out.mono ?_
    rintro e _ ⟨rfl, rfl⟩
    go_wp2_with fail
    exact hR.out _ _ ⟨rfl, rfl⟩
  · rw [if_neg (by omega)] at hR
    obtain ⟨n, rfl⟩ := Int.eq_ofNat_of_zero_le (show 0 ≤ x by omega)
    obtain ⟨m, rfl⟩ := Int.eq_ofNat_of_zero_le (show 0 ≤ y by omega)
    go_enter Try.func16, Try.ntmps16
    go_wp2_with fail
    refine PA.out.mono ?_
    rintro e _ ⟨rfl, rfl⟩
    go_wp2_with fail
    refine PB.out.mono ?_
    rintro e _ ⟨rfl, rfl⟩
    go_wp2_with fail
    exact hR.out _ _ ⟨rfl, rfl⟩
theorem blankB_is (c : UInt8) : blankB c = true ↔ (c.toNat = 32 ∨ (9 ≤ c.toNat ∧ c.toNat ≤ 13)) := by simp [blankB]
theorem str_blank (c : UInt8) (w : World) : Calls Try.prog 39 #[.int .u8 c.toNat] w fun e w' => e = .returned (.bool (blankB c)) ∧ w = w' := by
  have B := blankB_is c
  have hB : ∀ b : Bool, (b = true ↔ (c.toNat = 32 ∨ (9 ≤ c.toNat ∧ c.toNat ≤ 13))) → b = blankB c := fun b h => by rw [Bool.eq_iff_iff, h, B]
  have HB := hidden hB
  clear B hB
  refine post_gen fun R hR => ?_
  go_enter Try.func39, Try.ntmps39
  go_wp2
  all_goals
    refine hR.out _ _ ⟨show Ending.returned (.bool _) = .returned (.bool _) from ret_bool (HB.out _ ?_), rfl⟩
    clear hR HB
    simp
    omega
def dropB (l : List UInt8) : List UInt8 := l.dropWhile blankB
theorem mkS_list (s : ByteArray) : mkS s.data.toList = s := by apply ByteArray.ext; simp [mkS]
theorem list_of_nil {t : ByteArray} (h : ¬ 0 < t.size) : t.data.toList = [] := by rw [str_none h]
theorem str_Front (s : ByteArray) (w : World) (hs : s.size ≤ 140737488351232) : Calls Try.prog 21 #[.string s] w fun e w' => e = .returned (.string (mkS (s.data.toList.dropWhile blankB))) ∧ w = w' := by
  generalize hr : s.data.toList.dropWhile blankB = r
  have HR0 := hidden hr
  clear hr
  refine post_gen fun R hR => ?_
  go_enter Try.func21, Try.ntmps21
  go_wp2_with fail
  go_loop [0] (fun v => ∃ t : ByteArray, t.size ≤ 140737488351232 ∧ v = .string t ∧ Hid (t.data.toList.dropWhile blankB = r)) (fun v => match v with | .string t => t.size | _ => 0)
  case atStart => exact ⟨s, hs, rfl, HR0⟩
  case round =>
    obtain ⟨t, ht, rfl, HT⟩ := hrel
    by_cases h0 : 0 < t.size
    · have hne := str_some h0
      have HL := hidden (list_cons h0)
      by_cases hb : blankB t[0] = true
      · have HB := hidden hb
        clear hb
        go_wp2_with (go_at_call 39; refine (str_blank t[0] _).mono ?_; rintro e _ ⟨rfl, rfl⟩; rw [HB.out])
        go_round
        case rel =>
          refine ⟨_, ?_, rfl, hidden ?_⟩
          · simp; omega
          · rw [drop_list, ← HT.out]
            have := HL.out
            rw [List.drop_zero] at this
            rw [this, List.dropWhile_cons, if_pos HB.out]; rfl
        case measure => simp; omega
      · have HB := hidden hb
        clear hb
        rw [Bool.not_eq_true] at HB
        go_wp2_with (go_at_call 39; refine (str_blank t[0] _).mono ?_; rintro e _ ⟨rfl, rfl⟩; rw [HB.out])
        refine hR.out _ _ ⟨show Ending.returned (.string _) = .returned (.string _) from ret_str ?_, rfl⟩
        have := HL.out
        rw [List.drop_zero] at this
        rw [← HT.out, this, List.dropWhile_cons, if_neg (by rw [HB.out]; simp), ← this, mkS_list]
    · obtain rfl := str_none h0
      go_wp2_with fail
      refine hR.out _ _ ⟨?_, rfl⟩
      rw [← HT.out]; rfl
theorem backL_snoc (l : List UInt8) (c : UInt8) : backL (l ++ [c]) = if blankB c = true then backL l else l ++ [c] := by
  simp only [backL, List.reverse_append, List.reverse_cons, List.reverse_nil, List.nil_append, List.cons_append, List.dropWhile_cons]
  split <;> simp
theorem list_snoc {t : ByteArray} (h : 0 < t.size) : t.data.toList = (t.extract 0 (t.size - 1)).data.toList ++ [t[t.size - 1]] := by
  have h1 : t.size - 1 < t.data.toList.length := by rw [list_len]; omega
  have h2 := List.take_succ_eq_append_getElem h1
  rw [at_list t (show t.size - 1 < t.size by omega), List.take_of_length_le (by rw [list_len]; omega)] at h2
  have e : (t.extract 0 (t.size - 1)).data.toList = t.data.toList.take (t.size - 1) := by
    rw [ByteArray.data_extract, Array.toList_extract, List.extract_eq_take_drop]; simp
  rw [e]
  exact h2
theorem str_Back (s : ByteArray) (w : World) (hs : s.size ≤ 140737488351232) : Calls Try.prog 22 #[.string s] w fun e w' => e = .returned (.string (mkS (backL s.data.toList))) ∧ w = w' := by
  generalize hr : backL s.data.toList = r
  have HR0 := hidden hr
  clear hr
  refine post_gen fun R hR => ?_
  go_enter Try.func22, Try.ntmps22
  go_wp2_with fail
  go_loop [0] (fun v => ∃ t : ByteArray, t.size ≤ 140737488351232 ∧ v = .string t ∧ Hid (backL t.data.toList = r)) (fun v => match v with | .string t => t.size | _ => 0)
  case atStart => exact ⟨s, hs, rfl, HR0⟩
  case round =>
    obtain ⟨t, ht, rfl, HT⟩ := hrel
    by_cases h0 : 0 < t.size
    · have hne := str_some h0
      have HL := hidden (list_snoc h0)
      have hi : (t.size : Int) - 1 = ((t.size - 1 : Nat) : Int) := by omega
      have hlt : t.size - 1 < t.size := by omega
      by_cases hb : blankB t[t.size - 1] = true
      · have HB := hidden hb
        clear hb
        go_wp2_with (go_at_call 39; refine (str_blank (t[t.size - 1]'hlt) _).mono ?_; rintro e _ ⟨rfl, rfl⟩; rw [HB.out])
        go_round
        case rel =>
          refine ⟨_, ?_, rfl, hidden ?_⟩
          · simp; omega
          · rw [← HT.out, HL.out, backL_snoc, if_pos HB.out]
        case measure => simp; omega
      · have HB := hidden hb
        clear hb
        rw [Bool.not_eq_true] at HB
        go_wp2_with (go_at_call 39; refine (str_blank (t[t.size - 1]'hlt) _).mono ?_; rintro e _ ⟨rfl, rfl⟩; rw [HB.out])
        refine hR.out _ _ ⟨show Ending.returned (.string _) = .returned (.string _) from ret_str ?_, rfl⟩
        rw [← HT.out, HL.out, backL_snoc, if_neg (by rw [HB.out]; simp), ← HL.out, mkS_list]
    · obtain rfl := str_none h0
      go_wp2_with fail
      refine hR.out _ _ ⟨?_, rfl⟩
      rw [← HT.out]; rfl
end Go.Proofs.Ytggkkonigeohhaa
