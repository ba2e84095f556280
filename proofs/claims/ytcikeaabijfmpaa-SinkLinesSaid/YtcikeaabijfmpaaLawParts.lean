/- The walk of the statement SinkParts. -/
import Derived.Test.YtcikeaabijfmpaaSmall
import Derived.Test.YtcikeaabijfmpaaLawPrints
namespace Go.Proofs.Ytcikeaabijfmpaa
open Go.RowKit

/-- Pieces, each with a line end behind it. -/
def ends (ls : List (List UInt8)) : List UInt8 := ls.flatMap fun x => x ++ [10]
theorem ends_append (a b : List (List UInt8)) : ends (a ++ b) = ends a ++ ends b := by simp [ends]
theorem ends_ahead (c : UInt8) {r : List (List UInt8)} (h : r ≠ []) : ends (ahead [c] r) = c :: ends r := by
  cases r with
  | nil => exact absurd rfl h
  | cons y r => simp [ends, ahead]
theorem ends_pieces (l : List UInt8) : ends (pieces (· == 10) l) = l ++ [10] := by
  induction l with
  | nil => rfl
  | cons c l ih =>
    rw [pieces_cons]
    by_cases h : c = 10
    · subst h
      rw [if_pos (by rfl)]
      show [10] ++ ends (pieces (· == 10) l) = _
      rw [ih]; rfl
    · rw [if_neg (by simpa using h), ends_ahead _ (pieces_ne _ _), ih]; rfl
theorem pieces_free {p : UInt8 → Bool} (l : List UInt8) : ∀ x ∈ pieces p l, ∀ c ∈ x, p c = false := by
  induction l with
  | nil => intro x hx; simp [pieces] at hx; subst hx; simp
  | cons c l ih =>
    rw [pieces_cons]
    by_cases h : p c = true
    · rw [if_pos h]
      intro x hx
      rcases List.mem_cons.1 hx with rfl | hx
      · simp
      · exact ih x hx
    · rw [if_neg h]
      cases hr : pieces p l with
      | nil => exact absurd hr (pieces_ne _ _)
      | cons y r =>
        intro x hx
        rw [hr] at ih
        rcases List.mem_cons.1 hx with rfl | hx
        · intro d hd
          rcases List.mem_append.1 hd with hd | hd
          · simp at hd; subst hd; simpa using h
          · exact ih y (List.mem_cons_self) d hd
        · exact ih x (List.mem_cons_of_mem _ hx)
theorem lines_free (l : List UInt8) : ∀ x ∈ lines l, ∀ c ∈ x, c ≠ 10 := by
  intro x hx c hc
  have : x ∈ pieces (· == 10) l := by
    unfold lines at hx
    split at hx
    · exact List.dropLast_subset _ hx
    · exact hx
  have := pieces_free l x this c hc
  simpa using this
/-- The lines, with their ends, are the text, or the text and a line end. -/
theorem lines_ends (l : List UInt8) : ends (lines l) = l ∨ (ends (lines l) = l ++ [10] ∧ ∃ a c, l = a ++ [c] ∧ c ≠ 10) := by
  have hj := ends_pieces l
  have hlast := List.dropLast_concat_getLast (pieces_ne (· == 10) l)
  have hmem := List.getLast_mem (pieces_ne (· == 10) l)
  unfold lines
  generalize (pieces (· == 10) l).getLast (pieces_ne _ _) = x at *
  by_cases hx : x = []
  · rw [if_pos hx]
    left
    rw [← hlast, ends_append, hx] at hj
    simpa [ends] using hj
  · rw [if_neg hx]
    refine .inr ⟨hj, ?_⟩
    rw [← hlast, ends_append] at hj
    have e : ends [x] = x ++ [10] := by simp [ends]
    rw [e, ← List.append_assoc] at hj
    have h2 := List.append_cancel_right hj
    obtain ⟨a, c, rfl⟩ : ∃ a c, x = a ++ [c] := ⟨x.dropLast, x.getLast hx, (List.dropLast_concat_getLast hx).symm⟩
    refine ⟨ends (pieces (· == 10) l).dropLast ++ a, c, by rw [List.append_assoc]; exact h2.symm, ?_⟩
    have := pieces_free l _ hmem c (by simp)
    simpa using this
theorem mkS_data (s : ByteArray) : mkS s.data.toList = s := by apply ByteArray.ext; simp [mkS]
theorem contains_one (s : ByteArray) (w : World) : Calls Try.prog 24 #[.string s, .string ⟨#[10]⟩] w fun e w' => e = .returned (.bool (s.data.toList.contains 10)) ∧ w = w' :=
  (Try.strings_Contains_one s 10 w).mono (by
    rintro e w' ⟨rfl, rfl⟩
    refine ⟨ret_bool ?_, rfl⟩
    rw [Bool.eq_iff_iff]
    simp [indexByte_mem])

set_option maxHeartbeats 1000000 in
theorem sinkParts_walk (w : World) (s : ByteArray) :
    Calls Try.prog 5 #[.string s] w fun e w' => e = .returned (.bool true) ∧ Below w.heap.size w w' := by
  refine post_gen fun R hR => ?_
  by_cases h1 : 1000 < s.size
  · go_enter Try.func5, Try.ntmps5
    go_wp2_with (go_at_call 12; refine (prints_true _).mono ?_; rintro e w1 ⟨rfl, hB⟩; have HB := hidden hB; clear hB)
    exact hR.out _ _ ⟨rfl, HB.out⟩
  go_enter Try.func5, Try.ntmps5
  go_wp2_with (first | (go_at_call 12; refine (prints_true _).mono ?_; rintro e w1 ⟨rfl, hB⟩; have HB := hidden hB; clear hB) | (go_at_call 23; refine (sink_Lines _ s (by omega)).mono ?_; rintro e w2 ⟨A, c, F, rfl, hr, hin, hK, hF⟩; have HR := hidden hr; have HK := hidden hK; clear hr hin hK hF))
  have hfree := hidden (lines_free s.data.toList)
  have hcase := hidden (lines_ends s.data.toList)
  have hlen : (lines s.data.toList).length ≤ 1001 := by
    have h2 := pieces_length (· == 10) s.data.toList
    have h3 : (lines s.data.toList).length ≤ (pieces (· == 10) s.data.toList).length := by unfold lines; split <;> simp
    have h4 : s.data.toList.length = s.size := by simp
    omega
  generalize lines s.data.toList = L at *
  have hends := hidden (show ∀ k, (ends (L.take k)).length ≤ 1001 by
    intro k
    have h1 := congrArg List.length (congrArg ends (List.take_append_drop k L))
    rw [ends_append, List.length_append] at h1
    have h4 : s.data.toList.length = s.size := by simp
    rcases hcase.out with h | ⟨h, _⟩
    · rw [h] at h1; omega
    · rw [h, List.length_append] at h1; simp at h1; omega)
  have KK := hidden ((below_keeps HB.out).step (fun _ h => h.elim) HK.out)
  clear HK HB
  go_loopw [3, 14] (fun a j wr => ∃ m : Nat, m ≤ L.length ∧ j = .int .i64 m ∧ a = .string (mkS (ends (L.take m))) ∧ wr = w2) (fun _ j _ => L.length - (intOf j).toNat)
  case atStart => exact ⟨0, Nat.zero_le _, rfl, by simp [ends, mkS], rfl⟩
  case round =>
    obtain ⟨m, hm, rfl, rfl, rfl⟩ := hrel
    by_cases hlt : m < L.length
    · obtain ⟨rb, ro, rfl, hc⟩ := Strs.own HR.out.1 m (mkS L[m]) (by simp [hlt])
      have hno : (mkS L[m]).data.toList.contains 10 = false := by
        rw [show (mkS L[m]).data.toList = L[m] by simp [mkS]]
        simpa using fun h => hfree.out _ (List.getElem_mem hlt) 10 h rfl
      have HT := hidden (List.take_succ_eq_append_getElem hlt)
      have hb1 := hends.out (m + 1)
      rw [List.take_succ_eq_append_getElem hlt, ends_append, List.length_append] at hb1
      have hb2 : (ends [L[m]]).length = L[m].length + 1 := by simp [ends]
      have hb3 := mkS_size L[m]
      have hb4 := mkS_size (ends (L.take m))
      have hb : ¬ 9223372036854775807 < L[m].length + 1 := by omega
      have hb' : ¬ 9223372036854775807 < (ends (L.take m)).length + (L[m].length + 1) := by omega
      clear hb1 hb2
      go_wp2_with (go_at_call 24; refine (contains_one _ _).mono ?_; rintro e _ ⟨rfl, rfl⟩; rw [hno])
      go_roundw
      case rel => exact ⟨m + 1, hlt, by go_num, by rw [HT.out, ends_append, mkS_append]; simp [ends, mkS_append]; rfl, by first | rfl | trivial⟩
      case measure => simp [intOf]; omega
    · obtain rfl : m = L.length := by omega
      have htk := List.take_length (l := L)
      rcases hcase.out with hq | ⟨hq, hend⟩
      · have hq' : mkS (ends L) = s := by rw [hq, mkS_data]
        clear hq
        go_wp2
        exact hR.out _ _ ⟨rfl, KK.out.below (Nat.le_refl _) (fun _ h => h)⟩
      · have hq' : mkS (ends L) = s ++ ⟨#[10]⟩ := by rw [hq, mkS_append, mkS_data]; rfl
        have hne1 : ((s ++ ⟨#[10]⟩ : ByteArray).toList == s.toList) = false := by
          rw [Lib.toList_data, Lib.toList_data, beq_eq_false_iff_ne]
          intro h
          have := congrArg List.length h
          simp at this
        have hne2 : s.toList.isEmpty = false := by
          obtain ⟨a, c, h, _⟩ := hend
          rw [Lib.toList_data, h]; simp
        have hsuf : Lib.hasSuffix s.data.toList [10] = false := by
          obtain ⟨a, c, h, hc⟩ := hend
          rw [h, Lib.hasSuffix, Bool.eq_false_iff]
          intro h2
          obtain ⟨r, hr⟩ := List.isSuffixOf_iff_suffix.1 h2
          have := List.append_inj_right' hr rfl
          simp at this
          exact hc this.symm
        clear hq hend
        go_wp2_with (go_at_call 25; refine (Try.strings_HasSuffix s _ _ (by omega)).mono ?_; rintro e _ ⟨rfl, rfl⟩; rw [hsuf])
        exact hR.out _ _ ⟨rfl, KK.out.below (Nat.le_refl _) (fun _ h => h)⟩
end Go.Proofs.Ytcikeaabijfmpaa
