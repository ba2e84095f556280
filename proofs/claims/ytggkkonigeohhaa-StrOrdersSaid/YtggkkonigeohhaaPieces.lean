/- str.Split: the pieces of a text. -/
import Derived.Test.YtggkkonigeohhaaTxt
import Derived.Test.YtggkkonigeohhaaShelf
namespace Go.Proofs.Ytggkkonigeohhaa
open Go.RowKit

/-- The pieces between bytes of a kind. -/
def pieces (p : UInt8 → Bool) : List UInt8 → List (List UInt8)
  | [] => [[]]
  | c :: l => if p c then [] :: pieces p l else match pieces p l with
    | [] => [[c]]
    | x :: r => (c :: x) :: r
/-- With so many bytes ahead of the first piece. -/
def ahead (x : List UInt8) : List (List UInt8) → List (List UInt8)
  | [] => [x]
  | y :: r => (x ++ y) :: r
theorem pieces_cons (p : UInt8 → Bool) (c : UInt8) (l : List UInt8) : pieces p (c :: l) = if p c then [] :: pieces p l else ahead [c] (pieces p l) := by
  simp only [pieces]
  split
  · rfl
  · cases pieces p l <;> rfl
theorem pieces_ne (p : UInt8 → Bool) (l : List UInt8) : pieces p l ≠ [] := by
  cases l with
  | nil => simp [pieces]
  | cons c l => simp only [pieces]; split; simp; split <;> simp
theorem ahead_nil {r : List (List UInt8)} (h : r ≠ []) : ahead [] r = r := by cases r with | nil => exact absurd rfl h | cons => rfl
theorem ahead_ahead (x y : List UInt8) (r : List (List UInt8)) : ahead x (ahead y r) = ahead (x ++ y) r := by cases r <;> simp [ahead]
theorem pieces_length (p : UInt8 → Bool) (l : List UInt8) : (pieces p l).length ≤ l.length + 1 := by
  induction l with
  | nil => simp [pieces]
  | cons c l ih =>
    simp only [pieces]
    split
    · simp; omega
    · split <;> simp_all <;> omega
theorem pieces_in {p : UInt8 → Bool} {l : List UInt8} {o : List (List UInt8)} {k m : Nat} (hk : k < l.length) (hc : p l[k] = true) (h : pieces p l = o ++ ahead ((l.take k).drop m) (pieces p (l.drop k))) :
    pieces p l = (o ++ [(l.take k).drop m]) ++ ahead ((l.take (k + 1)).drop (k + 1)) (pieces p (l.drop (k + 1))) := by
  have e : (l.take (k + 1)).drop (k + 1) = [] := List.drop_eq_nil_of_le (by simp; omega)
  rw [h, List.drop_eq_getElem_cons hk, pieces_cons, if_pos hc, e, ahead_nil (pieces_ne _ _)]
  simp [ahead]
theorem pieces_out {p : UInt8 → Bool} {l : List UInt8} {o : List (List UInt8)} {k m : Nat} (hk : k < l.length) (hm : m ≤ k) (hc : ¬ p l[k] = true) (h : pieces p l = o ++ ahead ((l.take k).drop m) (pieces p (l.drop k))) :
    pieces p l = o ++ ahead ((l.take (k + 1)).drop m) (pieces p (l.drop (k + 1))) := by
  rw [h, List.drop_eq_getElem_cons hk, pieces_cons, if_neg hc, ahead_ahead, List.take_succ_eq_append_getElem hk, List.drop_append_of_le_length (by simp; omega)]
theorem pieces_end {p : UInt8 → Bool} {l : List UInt8} {o : List (List UInt8)} {m : Nat} (h : pieces p l = o ++ ahead ((l.take l.length).drop m) (pieces p (l.drop l.length))) :
    pieces p l = o ++ [l.drop m] := by
  rw [h]; simp [pieces, ahead]

theorem mkS_extract (s : ByteArray) (m k : Nat) : mkS ((s.data.toList.take k).drop m) = s.extract m k := by
  apply ByteArray.ext
  apply Array.ext'
  simp [mkS, List.drop_take]
theorem mkS_drop (s : ByteArray) (m : Nat) : mkS (s.data.toList.drop m) = s.extract m s.size := by
  have := mkS_extract s m s.size
  have e : s.data.toList.take s.size = s.data.toList := List.take_of_length_le (by simp)
  rwa [e] at this
theorem indexByte_mem (l : List UInt8) (c : UInt8) : 0 ≤ Lib.indexByte l c ↔ c ∈ l := by
  induction l with
  | nil => simp [Lib.indexByte]
  | cons b l ih =>
    have := Lib.indexByte_ge l c
    simp only [Lib.indexByte]
    by_cases hb : b = c
    · simp [hb]
    · have h1 : ¬ c = b := fun h => hb h.symm
      simp only [beq_iff_eq, hb, if_false, List.mem_cons, h1, false_or, ← ih]
      split <;> omega

theorem idxByte (s : ByteArray) (c : UInt8) (w : World) :
    Calls Try.prog 40 #[.string s, .int .u8 c.toNat] w fun e w' => e = .returned (.int .i64 (Lib.indexByte s.data.toList c)) ∧ w = w' :=
  (Try.strings_IndexByte s c.toNat w).mono (by rintro e w' ⟨rfl, rfl⟩; exact ⟨by simp, rfl⟩)

set_option maxHeartbeats 1000000 in
theorem str_Split (w : World) (s by' : ByteArray) (hs : s.size ≤ 1099511627776) :
    Calls Try.prog 24 #[.string s, .string by'] w fun e w' => ∃ A c F, e = .returned (.slice A (pieces (fun b => by'.data.toList.contains b) s.data.toList).length c) ∧ Row w' F 9 1 (.slice A (pieces (fun b => by'.data.toList.contains b) s.data.toList).length c) (pieces (fun b => by'.data.toList.contains b) s.data.toList).length (strCellsOf ((pieces (fun b => by'.data.toList.contains b) s.data.toList).map mkS)) ∧ In F w' ∧ Keeps (fun _ => False) w w' ∧ Fresh (fun _ => False) F w := by
  generalize hp : (fun b => by'.data.toList.contains b) = p
  have HP := hidden hp
  have hpl := pieces_length p s.data.toList
  have hsz : s.data.toList.length = s.size := by simp
  have HPL := hidden (show (pieces p s.data.toList).length ≤ s.size + 1 by omega)
  have HSZ := hidden hsz
  clear hp hpl hsz
  refine post_gen fun R hR => ?_
  go_enter Try.func24, Try.ntmps24
  go_wp2
  go_loopw [5, 6, 10] (fun o f i wr => ∃ (k m : Nat) (l : List (List UInt8)) (A : Option Addr) (c : Nat) (F' : Nat → Prop), m ≤ k ∧ k ≤ s.size ∧ l.length ≤ k ∧ i = .int .i64 k ∧ f = .int .i64 m ∧ o = .slice A l.length c ∧ Row wr F' 9 1 (.slice A l.length c) l.length (strCellsOf (l.map mkS)) ∧ Keeps (fun _ => False) w wr ∧ Fresh (fun _ => False) F' w ∧ pieces p s.data.toList = l ++ ahead ((s.data.toList.take k).drop m) (pieces p (s.data.toList.drop k))) (fun _ _ i _ => s.size - (intOf i).toNat)
  case atStart => exact ⟨0, 0, [], none, 0, fun _ => False, Nat.le_refl _, Nat.zero_le _, Nat.zero_le _, rfl, rfl, rfl, Row.nil _ _ _ _, Keeps.refl _ _, Fresh.refl _ _, by simp [ahead_nil (pieces_ne _ _)]⟩
  case round =>
    obtain ⟨k, m, l, A, c, F', hmk, hk, hl, rfl, rfl, rfl, hRow, hK, hF, heq⟩ := hrel
    have HR := hidden hRow
    have HEQ := hidden heq
    clear hRow heq
    by_cases hlt : k < s.size
    · have HG := hidden (show s.data.toList[k]'(by simpa using hlt) = s[k] by rw [Array.getElem_toList]; rfl)
      have hcall := hidden (fun w => idxByte by' s[k] w)
      by_cases hc : s[k] ∈ by'.data.toList
      · have i1 : (0 : Int) ≤ Lib.indexByte by'.data.toList s[k] := (indexByte_mem _ _).2 hc
        have HC := hidden hc
        clear hc
        go_wp2_with (first | (go_at_call 40; refine (hcall.out _).mono ?_; rintro e w1 ⟨rfl, rfl⟩) | (at_builtin; refine app_list rfl F' _ _ _ _ _ _ 1 16 rfl Try.underlying38 info_string rfl (by decide) _ _ _ rfl (HR.out.alloc _) _ rfl _ _ ((Strs.lit _ [_] _).src (c := 1) Try.underlying38) (by simp; omega) (by simp; omega) ?_; intro A2 c2 w2 hR2 hK2; have HR2 := hidden hR2; have HK2 := hidden hK2; clear hR2 hK2))
        go_roundw
        case rel =>
          obtain ⟨g1, g2, g3⟩ := app_lit_end HR.out hK hF HR2.out HK2.out
          refine ⟨k + 1, k + 1, l ++ [(s.data.toList.take k).drop m], A2, c2, _, Nat.le_refl _, hlt, by simp; omega, by go_num, by go_num, by simp, ?_, g2, g3, pieces_in (by simpa using hlt) (by rw [HG.out, ← HP.out]; simpa using HC.out) HEQ.out⟩
          have e : strCellsOf ((l ++ [(s.data.toList.take k).drop m]).map mkS) = strCellsOf (l.map mkS) ++ strCellsOf [s.extract m k] := by simp [strCellsOf, mkS_extract]
          rw [e]
          simpa using g1
        case measure => simp [intOf]; omega
      · have i1 : ¬ (0 : Int) ≤ Lib.indexByte by'.data.toList s[k] := fun h => hc ((indexByte_mem _ _).1 h)
        have HC := hidden hc
        clear hc
        go_wp2_with (go_at_call 40; refine (hcall.out _).mono ?_; rintro e w1 ⟨rfl, rfl⟩)
        go_roundw
        case rel => exact ⟨k + 1, m, l, A, c, F', by omega, hlt, by omega, by go_num, rfl, rfl, HR.out, hK, hF, pieces_out (by simpa using hlt) hmk (by rw [HG.out, ← HP.out]; simpa using HC.out) HEQ.out⟩
        case measure => simp [intOf]; omega
    · obtain rfl : k = s.size := by omega
      go_wp2_with (at_builtin; refine app_list rfl F' _ _ _ _ _ _ 1 16 rfl Try.underlying38 info_string rfl (by decide) _ _ _ rfl (HR.out.alloc _) _ rfl _ _ ((Strs.lit _ [_] _).src (c := 1) Try.underlying38) (by simp; omega) (by simp; omega) ?_; intro A2 c2 w2 hR2 hK2; have HR2 := hidden hR2; have HK2 := hidden hK2; clear hR2 hK2)
      obtain ⟨g1, g2, g3⟩ := app_lit_end HR.out hK hF HR2.out HK2.out
      have e1 := pieces_end (p := p) (l := s.data.toList) (o := l) (m := m) (by have := HEQ.out; rwa [show s.size = s.data.toList.length by simp] at this)
      have e2 : (pieces p s.data.toList).length = l.length + 1 := by rw [e1]; simp
      refine hR.out _ _ ⟨A2, c2, fun j => (F' j ∨ wr.heap.size ≤ j) ∧ j < w2.heap.size, ?_, ?_, fun j hj => hj.2, g2, fun j hj => g3 j hj.1⟩
      · rw [e2]; rfl
      · rw [e2, e1]
        have e : strCellsOf ((l ++ [s.data.toList.drop m]).map mkS) = strCellsOf (l.map mkS) ++ strCellsOf [s.extract m s.size] := by simp [strCellsOf, mkS_drop]
        rw [e]
        exact ⟨by simpa using g1.1, fun j hj => ⟨g1.2 j hj, g1.lt j hj⟩⟩

theorem str_Split1 (w : World) (s : ByteArray) (b : UInt8) (hs : s.size ≤ 1099511627776) :
    Calls Try.prog 24 #[.string s, .string ⟨#[b]⟩] w fun e w' => ∃ A c F, e = .returned (.slice A (pieces (· == b) s.data.toList).length c) ∧ Row w' F 9 1 (.slice A (pieces (· == b) s.data.toList).length c) (pieces (· == b) s.data.toList).length (strCellsOf ((pieces (· == b) s.data.toList).map mkS)) ∧ In F w' ∧ Keeps (fun _ => False) w w' ∧ Fresh (fun _ => False) F w := by
  have h := str_Split w s ⟨#[b]⟩ hs
  have e : (fun c => (⟨#[b]⟩ : ByteArray).data.toList.contains c) = (· == b) := by funext c; simp; rfl
  rwa [e] at h

end Go.Proofs.Ytggkkonigeohhaa
