/- Layer 2: contracts of Quote, Find, Join. -/
import Derived.Test.YtmjkglmkckofgaaStrE
import Derived.Test.YtmjkglmkckofgaaPieces
import Derived.Test.YtmjkglmkckofgaaBldr
import Derived.Lib.Index
import Derived.Lib.Join
namespace Go.Proofs.Ytmjkglmkckofgaa
open Go.RowKit
set_option maxRecDepth 100000

theorem Keeps.ofNew {w w' : World} (h : Below w.heap.size w w') : Keeps (fun _ => False) w w' := (Keeps.of_below h).mono (fun _ hi h => absurd hi (Nat.not_lt_of_le h))
theorem Keeps.toNew {S : Nat → Prop} {w w' : World} (h : Keeps S w w') (hs : ∀ k, S k → w.heap.size ≤ k) : Below w.heap.size w w' := h.below (Nat.le_refl _) hs
theorem builderAt_keeps {T e : TypeId} {B b : Nat} {p : Value} {bs : List Value} {w w1 : World} (h : Lib.BuilderAt T e B b p bs w) (k : Keeps (fun _ => False) w w1) : Lib.BuilderAt T e B b p bs w1 := by
  obtain ⟨h1, v, hb, hr, hn⟩ := h
  exact ⟨h1, v, k.heap hb (fun h => h), ownsRow_move hr (fun j hj => k.block j (hr.lt j hj).2 (fun h => h)), hn⟩
theorem esc_length (c : UInt8) : (esc c).length ≤ 4 := by
  unfold esc
  split
  · simp
  · split
    · simp
    · split
      · simp
      · split
        · simp
        · split <;> simp
theorem flat_esc_length (l : List UInt8) : (l.flatMap esc).length ≤ 4 * l.length := by
  induction l with
  | nil => simp
  | cons c l ih =>
    have := esc_length c
    simp only [List.flatMap_cons, List.length_append, List.length_cons]
    omega
theorem flat_esc_take {l : List UInt8} {k : Nat} (h : k < l.length) : (l.take (k + 1)).flatMap esc = (l.take k).flatMap esc ++ esc l[k] := by
  rw [List.take_succ_eq_append_getElem h, List.flatMap_append]; simp
theorem mkS_size (l : List UInt8) : (mkS l).size = l.length := by show l.toArray.size = _; simp
theorem str_cells (l : List UInt8) : Lib.strCells (mkS l) = byteCells l := rfl
set_option maxHeartbeats 1000000 in
theorem str_Quote (s : ByteArray) (w : World) (hs : s.size ≤ 17592186044416) : Calls Try.prog 18 #[.string s] w fun e w' => e = .returned (.string (mkS (quoteL s.data.toList))) ∧ Keeps (fun _ => False) w w' := by
  have LA := hidden (list_len s)
  refine post_gen fun R hR => ?_
  go_enter Try.func18, Try.ntmps18
  go_wp2_with fail
  refine (builder_WriteByte w.heap.size w.heap.size [] 34 _ (Lib.fresh_isBuilder _ _ w) (by simp) (by simp)).mono ?_
  rintro e w1 ⟨rfl, hB1, hW1⟩
  have HB1 := hidden hB1
  have HW1 := hidden ((Below.refl w.heap.size w).alloc (Nat.le_refl _) (.cells #[.pointer none, .slice none 0 0] 65) |>.trans hW1)
  clear hB1 hW1
  go_wp2_with fail
  go_loopw [8] (fun i wr => ∃ k : Nat, k ≤ s.size ∧ i = .int .i64 k ∧ Lib.BuilderAt 65 5 w.heap.size w.heap.size (.pointer (some ⟨w.heap.size, 0, none⟩)) (byteCells (34 :: (s.data.toList.take k).flatMap esc)) wr ∧ Below w.heap.size w wr) (fun i _ => s.size - (intOf i).toNat)
  case atStart => exact ⟨0, Nat.zero_le _, rfl, HB1.out, HW1.out⟩
  case round =>
    clear HB1 HW1
    obtain ⟨k, hk, rfl, hB, hW⟩ := hrel
    have HB := hidden hB
    have HW := hidden hW
    have hz := hW.size
    clear hB hW
    have hf := flat_esc_length (s.data.toList.take k)
    rw [List.length_take, LA.out] at hf
    by_cases hlt : k < s.size
    · have HA := hidden (at_list s hlt)
      have HT := hidden (flat_esc_take (l := s.data.toList) (k := k) (by rw [LA.out]; exact hlt))
      have he := esc_length s[k]
      have HM := hidden (mkS_size (esc s[k]))
      go_wp2_with (first
        | (go_at_call 48; refine (str_Escape s[k] _).mono ?_; rintro e w2 ⟨rfl, hK2⟩; have HK2 := hidden hK2; have hz2 := hK2.size; clear hK2)
        | (go_at_call 47; refine (builder_WriteString w.heap.size w.heap.size _ (mkS (esc s[k])) _ (Or.inr (builderAt_keeps HB.out HK2.out)) (by rw [HM.out, byteCells_length, List.length_cons]; omega) (by omega)).mono ?_; rintro e w3 ⟨rfl, hB3, hW3⟩; have HB3 := hidden hB3; have HW3 := hidden hW3; clear hB3 hW3))
      go_roundw
      case rel =>
        refine ⟨k + 1, by omega, by go_num, ?_, ?_⟩
        · have := HB3.out
          rw [str_cells, ← byteCells_append, List.cons_append, ← HA.out, ← HT.out] at this
          exact this
        · exact (HW.out.trans ((Keeps.below HK2.out (by omega) (fun _ h => h.elim)))).trans HW3.out
      case measure => simp [intOf]; omega
    · obtain rfl : k = s.size := by omega
      have hl : s.data.toList.take s.size = s.data.toList := List.take_of_length_le (by rw [LA.out]; exact Nat.le_refl _)
      rw [hl] at HB hf
      clear hl
      go_wp2_with fail
      refine (builder_WriteByte w.heap.size w.heap.size _ 34 _ (Or.inr HB.out) (by rw [byteCells_length, List.length_cons]; omega) (by omega)).mono ?_
      rintro e w2 ⟨rfl, hB2, hW2⟩
      have e1 : byteCells (34 :: s.data.toList.flatMap esc) ++ [.int .u8 34] = byteCells (quoteL s.data.toList) := by
        simp [quoteL, byteCells]
      rw [e1] at hB2
      have HB2 := hidden hB2
      have HW2 := hidden (HW.out.trans hW2)
      have hz2 := HW2.out.size
      clear hB2 hW2 e1
      go_wp2_with fail
      refine (Try.Builder_String_any w.heap.size w.heap.size (quoteL s.data.toList) _ (Or.inr HB2.out) hz2).mono ?_
      rintro e w3 ⟨rfl, hW3⟩
      have HW3 := hidden (HW2.out.trans hW3)
      clear hW3
      go_wp2_with fail
      exact hR.out _ _ ⟨rfl, Keeps.ofNew HW3.out⟩

/-- The first place of a text in another one, from one on. -/
def findI (l m : List UInt8) (from' : Int) : Int :=
  if from' < 0 ∨ (l.length : Int) < from' then -1 else if Lib.index (l.drop from'.toNat) m < 0 then -1 else from' + Lib.index (l.drop from'.toNat) m
theorem index_le (l m : List UInt8) : Lib.index l m ≤ l.length := by
  induction l with
  | nil => simp only [Lib.index]; split <;> simp
  | cons b l ih =>
    simp only [Lib.index]
    split
    · simp; omega
    · split
      · simp; omega
      · simp; omega
def joinB (b : ByteArray) (ss : List ByteArray) : List UInt8 := Lib.join (ss.map (·.data.toList)) b.data.toList
def jn (b : ByteArray) (ss : List ByteArray) : Nat := (ss.map ByteArray.size).sum + (ss.length - 1) * b.size
theorem sizes_lens (ss : List ByteArray) : Lib.lens (ss.map (·.data.toList)) = (ss.map ByteArray.size).sum := by
  induction ss with
  | nil => rfl
  | cons s ss ih =>
    have e : s.data.toList.length = s.size := list_len s
    simp only [Lib.lens] at ih ⊢
    rw [List.map_cons, List.map_cons, List.sum_cons, ih, e, List.map_cons, List.sum_cons]
theorem joinB_length (b : ByteArray) (ss : List ByteArray) : (joinB b ss).length = jn b ss := by
  cases ss with
  | nil => simp [joinB, jn, Lib.join_nil]
  | cons s ss =>
    rw [joinB, List.map_cons, Lib.join_length, ← List.map_cons (f := fun x : ByteArray => x.data.toList), sizes_lens, jn, list_len]
    simp [Nat.mul_comm]; omega
theorem jn_take {b : ByteArray} {ss : List ByteArray} {k : Nat} (h : k < ss.length) : jn b (ss.take (k + 1)) = jn b (ss.take k) + ss[k].size + if k = 0 then 0 else b.size := by
  have e1 : (ss.take (k + 1)).length = k + 1 := by simp; omega
  have e2 : (ss.take k).length = k := by simp; omega
  rw [jn, jn, e1, e2, List.take_succ_eq_append_getElem h, List.map_append, List.sum_append]
  cases k with
  | zero => simp
  | succ k =>
    simp [Nat.succ_mul]; omega
theorem jn_mono {b : ByteArray} {ss : List ByteArray} (k : Nat) (h : k ≤ ss.length) : jn b (ss.take k) ≤ jn b ss := by
  have : ∀ d, k + d ≤ ss.length → jn b (ss.take k) ≤ jn b (ss.take (k + d)) := by
    intro d
    induction d with
    | zero => intro _; exact Nat.le_refl _
    | succ d ih =>
      intro hd
      have := ih (by omega)
      have h2 := jn_take (b := b) (show k + d < ss.length by omega)
      rw [← Nat.add_assoc]
      omega
  have := this (ss.length - k) (by omega)
  rwa [show k + (ss.length - k) = ss.length by omega, List.take_length] at this
set_option maxHeartbeats 1000000 in
theorem str_Join (w : World) (A : Option Addr) (c : Nat) (ss : List ByteArray) (b : ByteArray) (hs : Strs w A ss) (hc : ss.length ≤ c) (hN : ss.length ≤ 140737488355328) (hsz : ∀ i (h : i < ss.length), ss[i].size ≤ 140737488351232) (hb : b.size ≤ 140737488351232) :
    Calls Try.prog 50 #[.string b, .slice A ss.length c] w fun e w' => e = .returned (if 1048576 < jn b ss then .tuple #[.string ⟨#[]⟩, .int .i64 2] else .tuple #[.string (mkS (joinB b ss)), .int .i64 0]) ∧ Keeps (fun _ => False) w w' := by
  have HS := hidden hs
  have HZ := hidden hsz
  clear hs hsz
  refine post_gen fun R hR => ?_
  go_enter Try.func50, Try.ntmps50
  go_wp2_with fail
  go_loop [6, 11] (fun n i => ∃ k : Nat, k ≤ ss.length ∧ i = .int .i64 k ∧ n = .int .i64 (jn b (ss.take k)) ∧ jn b (ss.take k) ≤ 1048576) (fun _ i => ss.length - (intOf i).toNat)
  case atStart => exact ⟨0, Nat.zero_le _, rfl, by simp [jn], by simp [jn]⟩
  case round =>
    obtain ⟨k, hk, rfl, rfl, hle⟩ := hrel
    by_cases hlt : k < ss.length
    · obtain ⟨ab, ao, rfl, hc0⟩ := HS.out k _ (List.getElem?_eq_getElem hlt)
      have hz := HZ.out k hlt
      have HT := hidden (jn_take (b := b) hlt)
      have hmo := hidden (jn_mono (b := b) (k + 1) hlt)
      by_cases hk0 : k = 0
      · have i0 : ¬ (0 : Int) < k := by omega
        have ht : jn b (ss.take (k + 1)) = jn b (ss.take k) + ss[k].size := by rw [HT.out, if_pos hk0]; rfl
        have HTT := hidden ht
        have HK0 := hidden hk0
        by_cases hbig : 1048576 < jn b (ss.take k) + ss[k].size
        · rw [if_pos (by have := hmo.out; omega)] at hR
          clear ht hk0
          go_wp2_with fail
          exact hR.out _ _ ⟨rfl, Keeps.refl _ _⟩
        · clear ht hk0
          go_wp2_with fail
          go_round
          case rel => exact ⟨k + 1, hlt, by go_num, by rw [HTT.out]; go_num, by rw [HTT.out]; omega⟩
          case measure => simp [intOf]; omega
      · have i0 : (0 : Int) < k := by omega
        have ht : jn b (ss.take (k + 1)) = jn b (ss.take k) + ss[k].size + b.size := by rw [HT.out, if_neg hk0]
        have HTT := hidden ht
        have HK0 := hidden hk0
        by_cases hbig : 1048576 < jn b (ss.take k) + ss[k].size + b.size
        · rw [if_pos (by have := hmo.out; omega)] at hR
          clear ht hk0
          go_wp2_with fail
          exact hR.out _ _ ⟨rfl, Keeps.refl _ _⟩
        · clear ht hk0
          go_wp2_with fail
          go_round
          case rel => exact ⟨k + 1, hlt, by go_num, by rw [HTT.out]; go_num, by rw [HTT.out]; omega⟩
          case measure => simp [intOf]; omega
    · obtain rfl : k = ss.length := by omega
      rw [List.take_length] at hle
      rw [if_neg (by omega)] at hR
      have hj : Calls Try.prog 56 #[.slice A ss.length c, .string b] w fun e w' => e = .returned (.string (mkS (joinB b ss))) ∧ Keeps (fun _ => False) w w' := by
        cases hx : ss with
        | nil => exact (Try.strings_Join_none A c b w).mono (by rintro e w' ⟨rfl, rfl⟩; exact ⟨rfl, Keeps.refl _ _⟩)
        | cons s r =>
          rw [← hx]
          have h0 : 0 < ss.length := by simp [hx]
          obtain ⟨ab, ao, rfl, h1⟩ := HS.out 0 _ (List.getElem?_eq_getElem h0)
          refine (Try.strings_Join ab ao c ss b w ?_ ?_ hN hc (by have := joinB_length b ss; rw [joinB] at this; omega)).mono ?_
          · intro j x hj
            obtain ⟨b', o', he, hc⟩ := HS.out j x hj
            simp at he
            obtain ⟨rfl, rfl⟩ := he
            exact hc
          · exact World.block_lt_of_cell? w _ h1
          · rintro e w' ⟨rfl, hb⟩
            exact ⟨rfl, Keeps.ofNew hb⟩
      have HJ := hidden hj
      clear hj hle
      go_wp2_with (go_at_call 56; refine HJ.out.mono ?_; rintro e w1 ⟨rfl, hK⟩)
      exact hR.out _ _ ⟨rfl, hK⟩
end Go.Proofs.Ytmjkglmkckofgaa
