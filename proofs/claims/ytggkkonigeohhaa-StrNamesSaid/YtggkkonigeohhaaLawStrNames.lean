/- The walk of the statement StrNames. -/
import Derived.Test.YtggkkonigeohhaaStrT
namespace Go.Proofs.Ytggkkonigeohhaa
open Go.RowKit
set_option maxRecDepth 100000

def wordB (c : UInt8) : Bool := letterB c || digitB c
def good0 (l : List UInt8) : Bool := match l with | [] => false | c :: _ => !digitB c
theorem nameB_good (l : List UInt8) : nameB l = (good0 l && l.all wordB) := by
  cases l with
  | nil => rfl
  | cons c r =>
    simp only [nameB, good0, List.all_cons, wordB]
    have h : letterB c = true → digitB c = false := by
      intro h
      rw [letterB_is] at h
      rw [← Bool.not_eq_true, digitB_is]
      omega
    have e : (r.all fun d => letterB d || digitB d) = r.all wordB := rfl
    rw [e]
    cases hl : letterB c <;> cases hd : digitB c <;> simp_all
set_option maxHeartbeats 1000000 in
theorem strNames_walk (w : World) (s : ByteArray) (m : Int) (hm : w.cell? ⟨0, 0, none⟩ = some (.int .i64 m)) (hs : s.size ≤ 140737488351232) :
    Calls Try.prog 9 #[.string s] w fun e w' => e = .returned (.bool true) ∧ Below w.heap.size w w' := by
  have HT := hidden (texts_true w m hm)
  have LA := hidden (list_len s)
  clear hm
  refine post_gen fun R hR => ?_
  by_cases hbig : 200 < s.size
  · go_enter Try.func9, Try.ntmps9
    go_wp2_with fail
    refine HT.out.mono ?_
    rintro e w1 ⟨rfl, hK⟩
    go_wp2_with fail
    exact hR.out _ _ ⟨rfl, hK.toNew (fun _ h => h.elim)⟩
  by_cases h0 : 0 < s.size
  · have hne := str_some h0
    have hn2 : (!s.toList.isEmpty) = true := by rw [hne]; rfl
    have HL := hidden (list_cons h0)
    have hD := hidden (digitB_is s[0])
    have hc := (s[0]).toNat_lt
    have HG := hidden (nameB_good s.data.toList)
    have hg0 : good0 s.data.toList = !digitB s[0] := by
      have := HL.out
      rw [List.drop_zero] at this
      rw [this]; rfl
    have HG0 := hidden hg0
    clear hg0
    rcases (show s[0].toNat < 48 ∨ (48 ≤ s[0].toNat ∧ s[0].toNat ≤ 57) ∨ 57 < s[0].toNat by omega) with h | ⟨h, h'⟩ | h
    all_goals
      first | have d1 : decide (48 ≤ (s[0].toNat : Int)) = true := by simp; omega | have d1 : decide (48 ≤ (s[0].toNat : Int)) = false := by simp; omega
      try first | have d2 : decide ((s[0].toNat : Int) ≤ 57) = true := by simp; omega | have d2 : decide ((s[0].toNat : Int) ≤ 57) = false := by simp; omega
      go_enter Try.func9, Try.ntmps9
      go_wp2_with fail
      refine HT.out.mono ?_
      rintro e w1 ⟨rfl, hK⟩
      have HK := hidden hK
      clear hK
      go_wp2_with fail
      go_loop [3, 26] (fun g i => ∃ k : Nat, k ≤ s.size ∧ i = .int .i64 k ∧ g = .bool (good0 s.data.toList && (s.data.toList.take k).all wordB)) (fun _ i => s.size - (intOf i).toNat)
      case atStart =>
        refine ⟨0, Nat.zero_le _, rfl, ?_⟩
        rw [HG0.out]
        first
          | (rw [hD.out.2 (by omega)]; rfl)
          | (rw [show digitB s[0] = false from by rw [← Bool.not_eq_true, hD.out]; omega]; rfl)
      case round =>
        obtain ⟨k, hk, rfl, rfl⟩ := hrel
        by_cases hlt : k < s.size
        · have HA := hidden (at_list s hlt)
          have hT := hidden (show (s.data.toList.take (k + 1)).all wordB = ((s.data.toList.take k).all wordB && wordB s[k]) by
            rw [List.take_succ_eq_append_getElem (by rw [LA.out]; exact hlt), List.all_append, HA.out]; simp)
          have hW := hidden (show wordB s[k] = true ↔ ((97 ≤ s[k].toNat ∧ s[k].toNat ≤ 122) ∨ (65 ≤ s[k].toNat ∧ s[k].toNat ≤ 90) ∨ s[k].toNat = 95) ∨ (48 ≤ s[k].toNat ∧ s[k].toNat ≤ 57) by
            rw [wordB, Bool.or_eq_true, letterB_is, digitB_is])
          have hck := (s[k]).toNat_lt
          generalize hgk : (good0 s.data.toList && (s.data.toList.take k).all wordB) = gk
          have HGK := hidden hgk
          clear hgk
          cases gk with
          | false =>
            go_wp2_with fail
            go_round
            case rel =>
              refine ⟨k + 1, by omega, by go_num, ?_⟩
              rw [hT.out, ← Bool.and_assoc, HGK.out]; rfl
            case measure => simp [intOf]; omega
          | true =>
            have hnext := hidden (fun b (h : wordB s[k] = b) => show Value.bool b = .bool (good0 s.data.toList && (s.data.toList.take (k + 1)).all wordB) by
              rw [hT.out, ← Bool.and_assoc, HGK.out, h]; rfl)
            go_wp2_with fail
            all_goals
              go_round
              case rel =>
                refine ⟨k + 1, by omega, by go_num, hnext.out _ ?_⟩
                rw [Bool.eq_iff_iff, hW.out]
                clear HK HT hR hnext
                simp
                try omega
              case measure => simp [intOf]; omega
        · obtain rfl : k = s.size := by omega
          have e1 : s.data.toList.take s.size = s.data.toList := List.take_of_length_le (by rw [LA.out]; exact Nat.le_refl _)
          have hN := hidden (str_Name s w1 hs)
          rw [e1, ← HG.out]
          clear e1 HG HG0 HT
          generalize nameB s.data.toList = q at *
          go_wp2_with fail
          refine hN.out.mono ?_
          rintro e _ ⟨rfl, rfl⟩
          go_wp2_with fail
          refine hR.out _ _ ⟨show Ending.returned (.bool _) = .returned (.bool _) from ret_bool ?_, HK.out.toNew (fun _ h => h.elim)⟩
          simp
  · obtain rfl := str_none h0
    go_enter Try.func9, Try.ntmps9
    go_wp2_with fail
    refine HT.out.mono ?_
    rintro e w1 ⟨rfl, hK⟩
    have HK := hidden hK
    clear hK
    go_wp2_with fail
    go_loop [3, 26] (fun g i => g = .bool false ∧ i = .int .i64 0) (fun _ _ => 0)
    case atStart => exact ⟨rfl, rfl⟩
    case round =>
      obtain ⟨rfl, rfl⟩ := hrel
      go_wp2_with fail
      refine (str_Name _ _ (by decide)).mono ?_
      rintro e _ ⟨rfl, rfl⟩
      rw [show nameB (⟨#[]⟩ : ByteArray).data.toList = false from by decide]
      go_wp2_with fail
      exact hR.out _ _ ⟨rfl, HK.out.toNew (fun _ h => h.elim)⟩
end Go.Proofs.Ytggkkonigeohhaa
