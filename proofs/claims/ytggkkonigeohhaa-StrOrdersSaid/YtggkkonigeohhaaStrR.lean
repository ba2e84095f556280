/- Layer 2's reference (dreyref02): contracts of Hex, At, Find, Less, Unescape. -/
import Derived.Test.YtggkkonigeohhaaStrF
import Derived.IntWalk
namespace Go.Proofs.Ytggkkonigeohhaa
open Go.RowKit
set_option maxRecDepth 100000

def hexs : ByteArray := ⟨#[48, 49, 50, 51, 52, 53, 54, 55, 56, 57, 97, 98, 99, 100, 101, 102]⟩
def hexS : ByteArray := ⟨#[48, 49, 50, 51, 52, 53, 54, 55, 56, 57, 65, 66, 67, 68, 69, 70]⟩
theorem hex_all : ∀ n : Fin 256, ∀ k : Fin 16, (hexs.data.toList.getD k.val 0 = UInt8.ofNat n.val ∨ hexS.data.toList.getD k.val 0 = UInt8.ofNat n.val) ↔ dig (UInt8.ofNat n.val) = k.val := by decide +kernel
theorem hex_is (c : UInt8) (k : Nat) (h : k < hexs.size) (h2 : k < hexS.size) (hk : k < 16) : ((hexs[k]'h) = c ∨ (hexS[k]'h2) = c) ↔ dig c = k := by
  have h256 : c.toNat < 256 := c.toNat_lt
  have := hex_all ⟨c.toNat, h256⟩ ⟨k, hk⟩
  simp only [UInt8.ofNat_toNat] at this
  rw [← this, ← at_list hexs h, ← at_list hexS h2]
  simp only [List.getD_eq_getElem?_getD]
  rw [List.getElem?_eq_getElem (by rw [list_len]; exact h), List.getElem?_eq_getElem (by rw [list_len]; exact h2)]
  rfl
theorem ref_Hex (c : UInt8) (w : World) : Calls Try.prog 34 #[.int .u8 c.toNat] w fun e w' => e = .returned (.int .i64 (digI c)) ∧ w = w' := by
  refine post_gen fun R hR => ?_
  go_enter Try.func34, Try.ntmps34
  go_wp2_with fail
  go_loop [5] (fun i => ∃ k : Nat, k ≤ 16 ∧ i = .int .i64 k ∧ Hid (∀ j, j < k → dig c ≠ j)) (fun i => 16 - (intOf i).toNat)
  case atStart => exact ⟨0, Nat.zero_le _, rfl, hidden (fun j h => absurd h (by omega))⟩
  case round =>
    obtain ⟨k, hk, rfl, HN⟩ := hrel
    by_cases hlt : k < 16
    · have s1 : k < (⟨#[48, 49, 50, 51, 52, 53, 54, 55, 56, 57, 97, 98, 99, 100, 101, 102]⟩ : ByteArray).size := hlt
      have s2 : k < (⟨#[48, 49, 50, 51, 52, 53, 54, 55, 56, 57, 65, 66, 67, 68, 69, 70]⟩ : ByteArray).size := hlt
      have H := hidden (hex_is c k s1 s2 hlt)
      unfold hexs hexS at H
      have next : Hid (dig c ≠ k → ∀ j, j < k + 1 → dig c ≠ j) := hidden (fun h j hj => by
        rcases Nat.lt_succ_iff_lt_or_eq.1 hj with h1 | rfl
        · exact HN.out j h1
        · exact h)
      by_cases e1 : (((⟨#[48, 49, 50, 51, 52, 53, 54, 55, 56, 57, 97, 98, 99, 100, 101, 102]⟩ : ByteArray)[k]'s1).toNat : Int) = c.toNat
      · have i1 : ((((⟨#[48, 49, 50, 51, 52, 53, 54, 55, 56, 57, 97, 98, 99, 100, 101, 102]⟩ : ByteArray)[k]'s1).toNat : Int) == c.toNat) = true := by simpa using e1
        have HD := hidden (H.out.1 (.inl (UInt8.toNat_inj.1 (by omega))))
        clear e1
        go_wp2
        refine hR.out _ _ ⟨?_, rfl⟩
        rw [digI, HD.out, if_pos hlt]
      · have i1 : ((((⟨#[48, 49, 50, 51, 52, 53, 54, 55, 56, 57, 97, 98, 99, 100, 101, 102]⟩ : ByteArray)[k]'s1).toNat : Int) == c.toNat) = false := by simpa using e1
        by_cases e2 : (((⟨#[48, 49, 50, 51, 52, 53, 54, 55, 56, 57, 65, 66, 67, 68, 69, 70]⟩ : ByteArray)[k]'s2).toNat : Int) = c.toNat
        · have HD := hidden (H.out.1 (.inr (UInt8.toNat_inj.1 (by omega))))
          have i2 : ((((⟨#[48, 49, 50, 51, 52, 53, 54, 55, 56, 57, 65, 66, 67, 68, 69, 70]⟩ : ByteArray)[k]'s2).toNat : Int) == c.toNat) = true := by simpa using e2
          clear e1 e2
          go_wp2
          refine hR.out _ _ ⟨?_, rfl⟩
          rw [digI, HD.out, if_pos hlt]
        · have HD := hidden (fun h => by
            rcases H.out.2 h with h1 | h1
            · exact e1 (by rw [h1])
            · exact e2 (by rw [h1]))
          have i2 : ((((⟨#[48, 49, 50, 51, 52, 53, 54, 55, 56, 57, 65, 66, 67, 68, 69, 70]⟩ : ByteArray)[k]'s2).toNat : Int) == c.toNat) = false := by simpa using e2
          clear e1 e2
          go_wp2
          go_round
          case rel => exact ⟨k + 1, by omega, by go_num, hidden (next.out HD.out)⟩
          case measure => simp [intOf]; omega
    · obtain rfl : k = 16 := by omega
      go_wp2
      refine hR.out _ _ ⟨?_, rfl⟩
      rw [digI, if_neg (fun h => HN.out _ h rfl)]

theorem pre_more {l m : List UInt8} {k j : Nat} (h1 : k + j < l.length) (h2 : j < m.length) (h : l[k + j] = m[j]) : (m.drop j).isPrefixOf (l.drop (k + j)) = (m.drop (j + 1)).isPrefixOf (l.drop (k + (j + 1))) := by
  rw [List.drop_eq_getElem_cons h1, List.drop_eq_getElem_cons h2, h]
  simp [List.isPrefixOf, Nat.add_assoc]
theorem pre_bad {l m : List UInt8} {k j : Nat} (h1 : k + j < l.length) (h2 : j < m.length) (h : l[k + j] ≠ m[j]) : (m.drop j).isPrefixOf (l.drop (k + j)) = false := by
  rw [List.drop_eq_getElem_cons h1, List.drop_eq_getElem_cons h2]
  simp [List.isPrefixOf, Ne.symm h]
theorem pre_short {l m : List UInt8} {k : Nat} (h : l.length - k < m.length) : m.isPrefixOf (l.drop k) = false := by
  rw [← Bool.not_eq_true, List.isPrefixOf_iff_prefix]
  intro hp
  have := hp.length_le
  simp at this
  omega
theorem ref_At (s what : ByteArray) (k : Nat) (w : World) (hs : s.size ≤ 140737488351232) (hk : k ≤ s.size) (hw : what.size ≤ 140737488351232) :
    Calls Try.prog 37 #[.string s, .string what, .int .i64 k] w fun e w' => e = .returned (.bool (what.data.toList.isPrefixOf (s.data.toList.drop k))) ∧ Drew w w' := by
  have LA := hidden (list_len s)
  have LB := hidden (list_len what)
  refine post_gen fun R hR => ?_
  by_cases h0 : s.size - k < what.size
  · rw [pre_short (by rw [LA.out, LB.out]; exact h0)] at hR
    have i0 : (s.size : Int) - k < what.size := by omega
    go_enter Try.func37, Try.ntmps37
    go_wp2_with fail
    exact hR.out _ _ ⟨rfl, Drew.refl _⟩
  have i0 : ¬ (s.size : Int) - k < what.size := by omega
  have H0 := hidden (show (what.data.toList.drop 0).isPrefixOf (s.data.toList.drop (k + 0)) = what.data.toList.isPrefixOf (s.data.toList.drop k) from rfl)
  generalize what.data.toList.isPrefixOf (s.data.toList.drop k) = r at *
  go_enter Try.func37, Try.ntmps37
  go_wp2_with fail
  go_loopw [7] (fun i wr => ∃ j : Nat, j ≤ what.size ∧ i = .int .i64 j ∧ Drew w wr ∧ (what.data.toList.drop j).isPrefixOf (s.data.toList.drop (k + j)) = r) (fun i _ => what.size - (intOf i).toNat)
  case atStart => exact ⟨0, Nat.zero_le _, rfl, Drew.refl _, H0.out⟩
  case round =>
    obtain ⟨j, hj, rfl, hD, heq⟩ := hrel
    have HEQ := hidden heq
    clear heq
    by_cases hlt : j < what.size
    · have h1 : k + j < s.size := by omega
      have GA := hidden (at_list s h1)
      have GB := hidden (at_list what hlt)
      have KA := hidden (show k + j < s.data.toList.length by rw [LA.out]; exact h1)
      have KB := hidden (show j < what.data.toList.length by rw [LB.out]; exact hlt)
      by_cases hc : s[k + j]'h1 = what[j]'hlt
      · have i1 : (((s[k + j]'h1).toNat : Int) == (what[j]'hlt).toNat) = true := by simp; rw [hc]
        have i2 : (((s[k + j]'h1).toNat : Int) != (what[j]'hlt).toNat) = false := by simp; rw [hc]
        have HC := hidden (pre_more KA.out KB.out (by rw [GA.out, GB.out]; exact hc))
        clear hc
        have q2 : 0 ≤ (k : Int) + j := by omega
        have q4 : (k : Int) + j < s.size := by omega
        have q5 : (j : Int) < what.size := by omega
        have q3 : ((k : Int) + j).toNat = k + j := by omega
        have q1 : IntKind.i64.wrap ((k : Int) + j) = (k : Int) + j := IntWalk.i64_in _ (by omega)
        go_wp2
        go_quiet (fail)
        clear q1
        go_wp2
        go_roundw
        case rel => exact ⟨j + 1, by omega, by go_num, hD.drewN _, by rw [← HC.out]; exact HEQ.out⟩
        case measure => simp [intOf]; omega
      · have hne : ¬ (s[k + j]'h1).toNat = (what[j]'hlt).toNat := fun h => hc (UInt8.toNat_inj.1 h)
        have i1 : (((s[k + j]'h1).toNat : Int) == (what[j]'hlt).toNat) = false := by simp; omega
        have i2 : (((s[k + j]'h1).toNat : Int) != (what[j]'hlt).toNat) = true := by simp; omega
        have HC := hidden (pre_bad KA.out KB.out (by rw [GA.out, GB.out]; exact hc))
        clear hc
        have q2 : 0 ≤ (k : Int) + j := by omega
        have q4 : (k : Int) + j < s.size := by omega
        have q5 : (j : Int) < what.size := by omega
        have q3 : ((k : Int) + j).toNat = k + j := by omega
        have q1 : IntKind.i64.wrap ((k : Int) + j) = (k : Int) + j := IntWalk.i64_in _ (by omega)
        go_wp2
        go_quiet (fail)
        clear q1
        go_wp2
        refine hR.out _ _ ⟨show Ending.returned (.bool _) = .returned (.bool _) from ret_bool ?_, hD.drewN _⟩
        rw [← HEQ.out, HC.out]
    · obtain rfl : j = what.size := by omega
      go_wp2
      refine hR.out _ _ ⟨?_, hD⟩
      rw [← HEQ.out, List.drop_eq_nil_of_le (by rw [LB.out]; exact Nat.le_refl _)]; rfl

def fi (l m : List UInt8) (n : Nat) : Int := if Lib.index (l.drop n) m < 0 then -1 else n + Lib.index (l.drop n) m
theorem fi_here {l m : List UInt8} {n : Nat} (h : m.isPrefixOf (l.drop n) = true) : fi l m n = n := by
  have e : Lib.index (l.drop n) m = 0 := by
    cases hl : l.drop n with
    | nil => rw [hl] at h; cases m <;> simp_all [Lib.index, List.isPrefixOf]
    | cons b r => rw [hl] at h; simp only [Lib.index, h, if_true]
  rw [fi, e, if_neg (by omega)]; omega
theorem fi_next {l m : List UInt8} {n : Nat} (h : n < l.length) (hp : m.isPrefixOf (l.drop n) = false) : fi l m n = fi l m (n + 1) := by
  have hge := Lib.index_ge (l.drop (n + 1)) m
  rw [List.drop_eq_getElem_cons h] at hp
  rw [fi, fi, List.drop_eq_getElem_cons h]
  simp only [Lib.index, hp]
  generalize Lib.index (l.drop (n + 1)) m = i at *
  by_cases hi : i = -1
  · subst hi; simp
  · have : (i == -1) = false := by simpa using hi
    simp only [this]
    have h0 : ¬ i < 0 := by omega
    have h1 : ¬ i + 1 < 0 := by omega
    simp only [Bool.false_eq_true, if_false, if_neg h0, if_neg h1]
    push_cast; omega
theorem fi_last {l m : List UInt8} {n : Nat} (h : l.length ≤ n) (hp : m.isPrefixOf (l.drop n) = false) : fi l m n = -1 := by
  rw [List.drop_eq_nil_of_le h] at hp
  rw [fi, List.drop_eq_nil_of_le h]
  cases m with
  | nil => simp [List.isPrefixOf] at hp
  | cons a m => simp [Lib.index]
theorem ref_Find (s what : ByteArray) (from' : Int) (w : World) (hs : s.size ≤ 140737488351232) (hw : what.size ≤ 140737488351232) :
    Calls Try.prog 18 #[.string s, .string what, .int .i64 from'] w fun e w' => e = .returned (.int .i64 (findI s.data.toList what.data.toList from')) ∧ Drew w w' := by
  have LA := hidden (list_len s)
  refine post_gen fun R hR => ?_
  by_cases h0 : from' < 0
  · rw [findI, if_pos (.inl h0)] at hR
    go_enter Try.func18, Try.ntmps18
    go_wp2_with fail
    exact hR.out _ _ ⟨rfl, Drew.refl _⟩
  by_cases h1 : (s.size : Int) < from'
  · rw [findI, if_pos (.inr (by rw [LA.out]; exact h1))] at hR
    go_enter Try.func18, Try.ntmps18
    go_wp2_with fail
    exact hR.out _ _ ⟨rfl, Drew.refl _⟩
  obtain ⟨n, rfl⟩ := Int.eq_ofNat_of_zero_le (show 0 ≤ from' by omega)
  have e : findI s.data.toList what.data.toList n = fi s.data.toList what.data.toList n := by
    rw [findI, if_neg (by rw [LA.out]; omega), Int.toNat_natCast, fi]
  rw [e] at hR
  have H0 := hidden (show fi s.data.toList what.data.toList n = fi s.data.toList what.data.toList n from rfl)
  clear e
  generalize hr : fi s.data.toList what.data.toList n = r at *
  have HR0 := hidden hr
  clear hr H0
  go_enter Try.func18, Try.ntmps18
  go_wp2_with fail
  go_loopw [7] (fun i wr => ∃ k : Nat, k ≤ s.size + 1 ∧ i = .int .i64 k ∧ Drew w wr ∧ (k ≤ s.size → fi s.data.toList what.data.toList k = r) ∧ (s.size < k → r = -1)) (fun i _ => s.size + 1 - (intOf i).toNat)
  case atStart => exact ⟨n, by omega, rfl, Drew.refl _, fun _ => HR0.out, fun h => by omega⟩
  case round =>
    obtain ⟨k, hk, rfl, hD, h1, h2⟩ := hrel
    have H1 := hidden h1
    have H2 := hidden h2
    clear h1 h2
    by_cases hlt : k ≤ s.size
    · have hA := hidden (ref_At s what k wr hs hlt hw)
      cases hp : what.data.toList.isPrefixOf (s.data.toList.drop k) with
      | true =>
        rw [hp] at hA
        have HP := hidden hp
        clear hp
        go_wp2_with (go_at_call 37; refine hA.out.mono ?_; rintro e w1 ⟨rfl, hD1⟩)
        refine hR.out _ _ ⟨show Ending.returned (.int .i64 _) = .returned (.int .i64 _) from ret_int ?_, hD.trans hD1⟩
        rw [← H1.out hlt, fi_here HP.out]
      | false =>
        rw [hp] at hA
        have HP := hidden hp
        clear hp
        go_wp2_with (go_at_call 37; refine hA.out.mono ?_; rintro e w1 ⟨rfl, hD1⟩)
        go_roundw
        case rel =>
          refine ⟨k + 1, by omega, by go_num, hD.trans hD1, fun h => ?_, fun h => ?_⟩
          · rw [← H1.out hlt, fi_next (by rw [LA.out]; omega) HP.out]
          · rw [← H1.out hlt, fi_last (by rw [LA.out]; omega) HP.out]
        case measure => simp [intOf]; omega
    · obtain rfl : k = s.size + 1 := by omega
      go_wp2
      exact hR.out _ _ ⟨show Ending.returned (.int .i64 _) = .returned (.int .i64 _) from ret_int (by rw [H2.out (by omega)]), hD⟩
theorem ref_Less (a b : ByteArray) (w : World) (ha : a.size ≤ 140737488351232) : Calls Try.prog 28 #[.string a, .string b] w fun e w' => e = .returned (.bool (decide (cmpL a.data.toList b.data.toList < 0))) ∧ Drew w w' := by
  have LA := hidden (list_len a)
  have LB := hidden (list_len b)
  have H0 := hidden (show cmpL (a.data.toList.drop 0) (b.data.toList.drop 0) = cmpL a.data.toList b.data.toList from rfl)
  generalize cmpL a.data.toList b.data.toList = r at *
  refine post_gen fun R hR => ?_
  go_enter Try.func28, Try.ntmps28
  go_wp2_with fail
  go_loopw [5] (fun i wr => ∃ k : Nat, k ≤ a.size ∧ k ≤ b.size ∧ i = .int .i64 k ∧ Drew w wr ∧ cmpL (a.data.toList.drop k) (b.data.toList.drop k) = r) (fun i _ => a.size - (intOf i).toNat)
  case atStart => exact ⟨0, Nat.zero_le _, Nat.zero_le _, rfl, Drew.refl _, H0.out⟩
  case round =>
    obtain ⟨k, hk1, hk2, rfl, hD, heq⟩ := hrel
    have HEQ := hidden heq
    clear heq
    by_cases h1 : k < a.size
    · have GA := hidden (at_list a h1)
      have KA := hidden (show k < a.data.toList.length by rw [LA.out]; exact h1)
      have d1 : decide ((k : Int) < a.size) = true := by simp; omega
      by_cases h2 : k < b.size
      · have GB := hidden (at_list b h2)
        have KB := hidden (show k < b.data.toList.length by rw [LB.out]; exact h2)
        have d2 : decide ((k : Int) < b.size) = true := by simp; omega
        by_cases hc : a[k] = b[k]
        · have i1 : ((a[k].toNat : Int) == b[k].toNat) = true := by simp; rw [hc]
          have HC := hidden (cmpL_more KA.out KB.out (by rw [GA.out, GB.out]; exact hc))
          clear hc
          go_wp2
          go_quiet (fail)
          go_wp2
          go_roundw
          case rel => exact ⟨k + 1, by omega, by omega, by go_num, hD.drewN _, by rw [← HC.out]; exact HEQ.out⟩
          case measure => simp [intOf]; omega
        · have hne : ¬ a[k].toNat = b[k].toNat := fun h => hc (UInt8.toNat_inj.1 h)
          have i1 : ((a[k].toNat : Int) == b[k].toNat) = false := by simp; omega
          have i3 : ((k : Int) == a.size) = false := by simp; omega
          have i4 : ((k : Int) == b.size) = false := by simp; omega
          have HC := hidden (cmpL_here KA.out KB.out (by rw [GA.out, GB.out]; exact hc))
          clear hc
          go_wp2
          go_quiet (fail)
          go_wp2
          go_quiet (fail)
          go_wp2
          refine hR.out _ _ ⟨show Ending.returned (.bool _) = .returned (.bool _) from ret_bool ?_, (hD.drewN _).drewN _⟩
          rw [← HEQ.out, HC.out, GA.out, GB.out, Bool.eq_iff_iff]
          split <;> simp <;> omega
      · have HE := hidden (cmpL_end (l := a.data.toList) (m := b.data.toList) (k := k) (by rw [LA.out, LB.out]; omega))
        have d2 : decide ((k : Int) < b.size) = false := by simp; omega
        have i3 : ((k : Int) == a.size) = false := by simp; omega
        have i4 : ((k : Int) == b.size) = true := by simp; omega
        go_wp2
        go_quiet (fail)
        go_wp2
        refine hR.out _ _ ⟨show Ending.returned (.bool _) = .returned (.bool _) from ret_bool ?_, hD.drewN _⟩
        have h1 := HEQ.out
        rw [HE.out, LA.out, LB.out] at h1
        rw [← h1, Bool.eq_iff_iff]
        split
        · simp; omega
        · split <;> simp <;> omega
    · have HE := hidden (cmpL_end (l := a.data.toList) (m := b.data.toList) (k := k) (by rw [LA.out, LB.out]; omega))
      have d1 : decide ((k : Int) < a.size) = false := by simp; omega
      have i3 : ((k : Int) == a.size) = true := by simp; omega
      go_wp2
      go_quiet (fail)
      go_wp2
      refine hR.out _ _ ⟨show Ending.returned (.bool _) = .returned (.bool _) from ret_bool ?_, hD.drewN _⟩
      have h1 := HEQ.out
      rw [HE.out, LA.out, LB.out] at h1
      rw [← h1, Bool.eq_iff_iff]
      split
      · simp; omega
      · split <;> simp <;> omega

theorem ref_Hex_some (c : UInt8) (w : World) (h : dig c < 16) : Calls Try.prog 34 #[.int .u8 c.toNat] w fun e w' => e = .returned (.int .i64 (dig c)) ∧ w = w' := by
  have := ref_Hex c w
  rwa [digI, if_pos h] at this
theorem ref_Hex_none (c : UInt8) (w : World) (h : ¬ dig c < 16) : Calls Try.prog 34 #[.int .u8 c.toNat] w fun e w' => e = .returned (.int .i64 (-1)) ∧ w = w' := by
  have := ref_Hex c w
  rwa [digI, if_neg h] at this
theorem hxg_none (s : ByteArray) {m : Nat} (h : ¬ m < s.size) : hx (s.data.toList.drop m) = (0, 0) := by rw [list_nil h]; rfl
theorem hxg_bad (s : ByteArray) {m : Nat} (h : m < s.size) (hd : ¬ dig s[m] < 16) : hx (s.data.toList.drop m) = (0, 0) := by
  rw [list_cons h]
  cases s.data.toList.drop (m + 1) <;> simp [hx, hd]
theorem hxg_one (s : ByteArray) {m : Nat} (h : m < s.size) (hd : dig s[m] < 16) (h2 : ¬ m + 1 < s.size) : hx (s.data.toList.drop m) = (dig s[m], 2) := by
  rw [list_cons h, list_nil h2]; simp [hx, hd]
theorem hxg_one' (s : ByteArray) {m : Nat} (h : m + 1 < s.size) (hd : dig (s[m]'(by omega)) < 16) (hd2 : ¬ dig (s[m + 1]'h) < 16) : hx (s.data.toList.drop m) = (dig (s[m]'(by omega)), 2) := by
  rw [list_cons (show m < s.size by omega), list_cons h]; simp [hx, hd, hd2]
theorem hxg_two (s : ByteArray) {m : Nat} (h : m + 1 < s.size) (hd : dig (s[m]'(by omega)) < 16) (hd2 : dig (s[m + 1]'h) < 16) : hx (s.data.toList.drop m) = (dig (s[m]'(by omega)) * 16 + dig (s[m + 1]'h), 3) := by
  rw [list_cons (show m < s.size by omega), list_cons h]; simp [hx, hd, hd2]
theorem textOf (x : Int) (h0 : 0 ≤ x) (h1 : x < 256) (w : World) : (convert 46 9 (.slice (some ⟨w.heap.size, 0, none⟩) 1 1)).run Try.prog (w.alloc (.cells #[.int .u8 x] 5)) = .ok (.string ⟨#[UInt8.ofNat x.toNat]⟩) (w.alloc (.cells #[.int .u8 x] 5)) := by
  have := text1 (UInt8.ofNat x.toNat) w
  rw [UInt8.toNat_ofNat_of_lt' (by show x.toNat < 256; omega), Int.toNat_of_nonneg h0] at this
  exact this
theorem extract_one (s : ByteArray) {k : Nat} (h : k < s.size) : s.extract k (k + 1) = ⟨#[s[k]]⟩ := by
  apply ByteArray.ext
  apply Array.ext'
  rw [ByteArray.data_extract, Array.toList_extract, List.extract_eq_take_drop, list_cons h]
  simp
/-- The reference's answer. -/
def refAns : List UInt8 ⊕ Nat → Value
  | .inl t => .tuple #[.string (mkS t), .int .i64 (-1)]
  | .inr k => .tuple #[.string ⟨#[]⟩, .int .i64 k]
set_option maxHeartbeats 4000000 in
theorem ref_Unescape (s : ByteArray) (w : World) (hs : s.size ≤ 140737488351232) : Calls Try.prog 15 #[.string s] w fun e w' => e = .returned (refAns (unesc s.data.toList)) ∧ Keeps (fun _ => False) w w' := by
  have Z := hidden (unAt_zero s.data.toList)
  have HL := hidden (list_len s)
  generalize unesc s.data.toList = r at *
  refine post_gen fun R hR => ?_
  go_enter Try.func15, Try.ntmps15
  go_wp2_with fail
  go_loopw [4, 5] (fun o i wr => ∃ (k : Nat) (l : List UInt8), k ≤ s.size ∧ l.length ≤ k ∧ i = .int .i64 k ∧ o = .string (mkS l) ∧ Keeps (fun _ => False) w wr ∧ ahd l (unAt s.data.toList k) = r) (fun _ i _ => s.size - (intOf i).toNat)
  case atStart => exact ⟨0, [], Nat.zero_le _, Nat.zero_le _, rfl, rfl, Keeps.refl _ _, Z.out⟩
  case round =>
    obtain ⟨k, l, hk, hl, rfl, rfl, hK, heq⟩ := hrel
    have HK := hidden hK
    have HEQ := hidden heq
    clear heq hK
    have hml := mkS_size l
    have HML := hidden hml
    clear hml
    have hm2 : (mkS l).size ≤ 140737488351232 := by rw [HML.out]; omega
    by_cases hlt : k < s.size
    · have HG := hidden (at_list s hlt)
      have HKL := hidden (show k < s.data.toList.length by rw [HL.out]; exact hlt)
      by_cases hc : s[k].toNat = 92
      · have hbad := hidden (unAt_bad l HKL.out (by rw [HG.out]; exact hc))
        have hesc := hidden (unAt_esc l HKL.out (by rw [HG.out]; exact hc))
        have i1 : ((s[k].toNat : Int) == 92) = true := by simp; omega
        have i2 : ((s[k].toNat : Int) != 92) = false := by simp; omega
        clear hc
        by_cases h1 : k + 1 < s.size
        · have hcons := list_cons h1
          have B := hidden (beh_is (s[k + 1]'h1) (s.data.toList.drop (k + 1 + 1)))
          rw [hcons] at hbad hesc
          clear hcons
          by_cases hx : (s[k + 1]'h1).toNat = 120
          · have i3 : (((s[k + 1]'h1).toNat : Int) == 120) = true := by simp; omega
            have i5 : (((s[k + 1]'h1).toNat : Int) == 110) = false := by simp; omega
            have i6 : (((s[k + 1]'h1).toNat : Int) == 114) = false := by simp; omega
            have i7 : (((s[k + 1]'h1).toNat : Int) == 116) = false := by simp; omega
            have i8 : (((s[k + 1]'h1).toNat : Int) == 48) = false := by simp; omega
            have i9 : (((s[k + 1]'h1).toNat : Int) == 34) = false := by simp; omega
            have j1 : (((s[k + 1]'h1).toNat : Int) == 39) = false := by simp; omega
            have j2 : (((s[k + 1]'h1).toNat : Int) == 92) = false := by simp; omega
            have hb := B.out.2.2.2.2.2.1 hx
            have hbad := hbad.out
            have hesc := hesc.out
            rw [hb] at hbad hesc
            have BAD := hidden hbad
            have ESC := hidden hesc
            clear hbad hesc hb hx B
            have i4 : ((k : Int) + 1 == s.size) = false := by simp; omega
            by_cases h2 : k + 1 + 1 < s.size
            · have k1 : ((k : Int) + 2 == s.size) = false := by simp; omega
              by_cases hd : dig (s[k + 1 + 1]'h2) < 16
              · have kt := textOf (dig (s[k + 1 + 1]'h2)) (by omega) (by omega)
                by_cases h3 : k + 1 + 1 + 1 < s.size
                · by_cases hd2 : dig (s[k + 1 + 1 + 1]'h3) < 16
                  · have kt2 := textOf ((dig (s[k + 1 + 1]'h2) : Int) * 16 + dig (s[k + 1 + 1 + 1]'h3)) (by omega) (by omega)
                    go_wp2_with fail
                    refine (ref_Hex_some (s[k + 1 + 1]'h2) _ hd).mono ?_
                    rintro e _ ⟨rfl, rfl⟩
                    go_wp2_with fail
                    refine (ref_Hex_some (s[k + 1 + 1]'h2) _ hd).mono ?_
                    rintro e _ ⟨rfl, rfl⟩
                    go_wp2_with fail
                    refine (ref_Hex_some (s[k + 1 + 1 + 1]'h3) _ hd2).mono ?_
                    rintro e _ ⟨rfl, rfl⟩
                    go_wp2_with fail
                    refine (ref_Hex_some (s[k + 1 + 1 + 1]'h3) _ hd2).mono ?_
                    rintro e _ ⟨rfl, rfl⟩
                    go_wp2_with fail
                    have HB := hidden (hxg_two s h3 hd hd2)
                    have E := hidden ESC.out
                    rw [HB.out] at E
                    go_roundw
                    case rel => exact ⟨k + 4, l ++ [UInt8.ofNat (dig (s[k + 1 + 1]'h2) * 16 + dig (s[k + 1 + 1 + 1]'h3))], by omega, by simp; omega, by go_num, by rw [mkS_snoc]; simp, HK.out.alloc _, (E.out (by simp)).symm.trans HEQ.out⟩
                    case measure => simp [intOf]; omega
                  · go_wp2_with fail
                    refine (ref_Hex_some (s[k + 1 + 1]'h2) _ hd).mono ?_
                    rintro e _ ⟨rfl, rfl⟩
                    go_wp2_with fail
                    refine (ref_Hex_some (s[k + 1 + 1]'h2) _ hd).mono ?_
                    rintro e _ ⟨rfl, rfl⟩
                    go_wp2_with fail
                    refine (ref_Hex_none (s[k + 1 + 1 + 1]'h3) _ hd2).mono ?_
                    rintro e _ ⟨rfl, rfl⟩
                    go_wp2_with fail
                    have HB := hidden (hxg_one' s h3 hd hd2)
                    have E := hidden ESC.out
                    rw [HB.out] at E
                    go_roundw
                    case rel => exact ⟨k + 3, l ++ [UInt8.ofNat (dig (s[k + 1 + 1]'h2))], by omega, by simp; omega, by go_num, by rw [mkS_snoc], HK.out.alloc _, (E.out (by simp)).symm.trans HEQ.out⟩
                    case measure => simp [intOf]; omega
                · go_wp2_with (go_at_call 34; refine (ref_Hex_some (s[k + 1 + 1]'h2) _ hd).mono ?_; rintro e _ ⟨rfl, rfl⟩)
                  have HB := hidden (hxg_one s h2 hd h3)
                  have E := hidden ESC.out
                  rw [HB.out] at E
                  go_roundw
                  case rel => exact ⟨k + 3, l ++ [UInt8.ofNat (dig (s[k + 1 + 1]'h2))], by omega, by simp; omega, by go_num, by rw [mkS_snoc], HK.out.alloc _, (E.out (by simp)).symm.trans HEQ.out⟩
                  case measure => simp [intOf]; omega
              · have HB := hidden (hxg_bad s h2 hd)
                go_wp2_with (go_at_call 34; refine (ref_Hex_none (s[k + 1 + 1]'h2) _ hd).mono ?_; rintro e _ ⟨rfl, rfl⟩)
                refine hR.out _ _ ⟨?_, HK.out⟩
                rw [← HEQ.out, BAD.out (by rw [HB.out])]; rfl
            · have k1 : ((k : Int) + 2 == s.size) = true := by simp; omega
              have HB := hidden (hxg_none s h2)
              go_wp2_with fail
              refine hR.out _ _ ⟨?_, HK.out⟩
              rw [← HEQ.out, BAD.out (by rw [HB.out])]; rfl
          · have i3 : (((s[k + 1]'h1).toNat : Int) == 120) = false := by simp; omega
            have i4 : ((k : Int) + 1 == s.size) = false := by simp; omega
            go_wp2_with fail
            all_goals
              first
              | (go_roundw
                 case rel =>
                   obtain ⟨b1, b2, b3, b4, b5, b6, b7⟩ := B.out
                   have hb := b2 (by simp only [beq_iff_eq, beq_eq_false_iff_ne, ne_eq] at *; omega)
                   have h2 := hesc.out
                   rw [hb] at h2
                   exact ⟨k + 2, l ++ [10], by omega, by simp; omega, by go_num, by rw [mkS_snoc], HK.out, (h2 (by simp)).symm.trans HEQ.out⟩
                 case measure => simp [intOf]; omega)
              | (go_roundw
                 case rel =>
                   obtain ⟨b1, b2, b3, b4, b5, b6, b7⟩ := B.out
                   have hb := b3 (by simp only [beq_iff_eq, beq_eq_false_iff_ne, ne_eq] at *; omega)
                   have h2 := hesc.out
                   rw [hb] at h2
                   exact ⟨k + 2, l ++ [13], by omega, by simp; omega, by go_num, by rw [mkS_snoc], HK.out, (h2 (by simp)).symm.trans HEQ.out⟩
                 case measure => simp [intOf]; omega)
              | (go_roundw
                 case rel =>
                   obtain ⟨b1, b2, b3, b4, b5, b6, b7⟩ := B.out
                   have hb := b4 (by simp only [beq_iff_eq, beq_eq_false_iff_ne, ne_eq] at *; omega)
                   have h2 := hesc.out
                   rw [hb] at h2
                   exact ⟨k + 2, l ++ [9], by omega, by simp; omega, by go_num, by rw [mkS_snoc], HK.out, (h2 (by simp)).symm.trans HEQ.out⟩
                 case measure => simp [intOf]; omega)
              | (go_roundw
                 case rel =>
                   obtain ⟨b1, b2, b3, b4, b5, b6, b7⟩ := B.out
                   have hb := b5 (by simp only [beq_iff_eq, beq_eq_false_iff_ne, ne_eq] at *; omega)
                   have h2 := hesc.out
                   rw [hb] at h2
                   exact ⟨k + 2, l ++ [0], by omega, by simp; omega, by go_num, by rw [mkS_snoc], HK.out, (h2 (by simp)).symm.trans HEQ.out⟩
                 case measure => simp [intOf]; omega)
              | (go_roundw
                 case rel =>
                   obtain ⟨b1, b2, b3, b4, b5, b6, b7⟩ := B.out
                   have hb := b1 (by simp only [beq_iff_eq, beq_eq_false_iff_ne, ne_eq] at *; omega)
                   have h2 := hesc.out
                   rw [hb] at h2
                   exact ⟨k + 2, l ++ [UInt8.ofNat (s[k + 1]'h1).toNat], by omega, by simp; omega, by go_num, by rw [extract_one s h1, UInt8.ofNat_toNat, mkS_snoc], HK.out, (h2 (by simp)).symm.trans HEQ.out⟩
                 case measure => simp [intOf]; omega)
              | (refine hR.out _ _ ⟨?_, HK.out⟩
                 obtain ⟨b1, b2, b3, b4, b5, b6, b7⟩ := B.out
                 have hb := b7 (by simp only [beq_iff_eq, beq_eq_false_iff_ne, ne_eq] at *; omega) (by simp only [beq_iff_eq, beq_eq_false_iff_ne, ne_eq] at *; omega)
                 have h2 := hbad.out
                 rw [hb] at h2
                 rw [← HEQ.out, h2 rfl]; rfl)
        · have hnil := list_nil h1
          rw [hnil] at hbad
          have i4 : ((k : Int) + 1 == s.size) = true := by simp; omega
          clear hnil
          go_wp2_with fail
          refine hR.out _ _ ⟨?_, HK.out⟩
          rw [← HEQ.out, hbad.out rfl]; rfl
      · have i1 : ((s[k].toNat : Int) == 92) = false := by simp; omega
        have i2 : ((s[k].toNat : Int) != 92) = true := by simp; omega
        have HC := hidden (unAt_plain l HKL.out (by rw [HG.out]; exact hc))
        clear hc
        go_wp2_with fail
        go_roundw
        case rel => exact ⟨k + 1, l ++ [s[k]'hlt], hlt, by simp; omega, by go_num, by rw [extract_one s hlt, mkS_snoc], HK.out, by rw [← HG.out, ← HC.out]; exact HEQ.out⟩
        case measure => simp [intOf]; omega
    · obtain rfl : k = s.size := by omega
      go_wp2_with fail
      refine hR.out _ _ ⟨?_, HK.out⟩
      rw [← HEQ.out, unAt_end _ _ _ (by rw [HL.out]; exact Nat.le_refl _)]; rfl
end Go.Proofs.Ytggkkonigeohhaa
