/- Texts that belong together: StrD StrE Pieces Bldr StrF Num NumT NumR ValB ValC ValD ValE. -/
import Derived.Test.YtmefdniocgcckaaGrpB
import Derived.Test.YtmefdniocgcckaaZShelf
import Derived.Lib.Bytealg
import Derived.Test.YtmefdniocgcckaaProg
import Derived.Shelf.Strings.Builder1
import Derived.Lib.Index
import Derived.Lib.Join
import Derived.IntWalk
import Derived.Test.YtmefdniocgcckaaGrpA
import Derived.Test.YtmefdniocgcckaaZSameV
set_option linter.unusedSimpArgs false
set_option linter.unusedVariables false
/- Layer 2: contracts of Name, each, Lower, Upper, Strip. -/
namespace Go.Proofs.Ytmefdniocgcckaa
open Go.RowKit
set_option maxRecDepth 100000

theorem letterB_is (c : UInt8) : letterB c = true ↔ ((97 ≤ c.toNat ∧ c.toNat ≤ 122) ∨ (65 ≤ c.toNat ∧ c.toNat ≤ 90) ∨ c.toNat = 95) := by simp [letterB, or_assoc]
theorem digitB_is (c : UInt8) : digitB c = true ↔ (48 ≤ c.toNat ∧ c.toNat ≤ 57) := by simp [digitB]
theorem nameB_iff (l : List UInt8) : nameB l = true ↔ l ≠ [] ∧ ∀ i (h : i < l.length), letterB l[i] = true ∨ (i ≠ 0 ∧ digitB l[i] = true) := by
  cases l with
  | nil => simp [nameB]
  | cons c r =>
    simp only [nameB, Bool.and_eq_true, List.all_eq_true, Bool.or_eq_true]
    constructor
    · rintro ⟨h1, h2⟩
      refine ⟨by simp, fun i hi => ?_⟩
      cases i with
      | zero => exact .inl h1
      | succ i =>
        have hi' : i < r.length := by simpa using hi
        have := h2 r[i] (List.getElem_mem _)
        simp only [List.getElem_cons_succ]
        rcases this with h | h
        · exact .inl h
        · exact .inr ⟨by simp, h⟩
    · rintro ⟨-, h⟩
      refine ⟨?_, fun d hd => ?_⟩
      · rcases h 0 (by simp) with h0 | h0
        · exact h0
        · exact absurd rfl h0.1
      · obtain ⟨i, hi, rfl⟩ := List.mem_iff_getElem.1 hd
        rcases h (i + 1) (by simpa using hi) with h0 | h0
        · exact .inl h0
        · exact .inr h0.2
/-- All the bytes up to a place may stand in a name there. -/
def NameTo (l : List UInt8) (k : Nat) : Prop := ∀ i (h : i < l.length), i < k → letterB l[i] = true ∨ (i ≠ 0 ∧ digitB l[i] = true)
end Go.Proofs.Ytmefdniocgcckaa
/- Layer 2: contracts of each, Lower, Upper, Strip. -/
namespace Go.Proofs.Ytmefdniocgcckaa
open Go.RowKit
set_option maxRecDepth 100000

/-- A row of bytes made of a text: block g, what is spare behind it. -/
def BytesAt (w : World) (g : Nat) (l : List UInt8) (sp : Array Value) : Prop := w.heap[g]? = some (.cells ((byteCells l).toArray ++ sp) 5 (l.length + sp.size, l.length + sp.size + 1))
theorem BytesAt.cell {w : World} {g : Nat} {l : List UInt8} {sp : Array Value} (h : BytesAt w g l sp) {k : Nat} (hk : k < l.length) : w.cell? ⟨g, k, none⟩ = some (.int .u8 l[k].toNat) := by
  rw [blk_cell h, Array.getElem?_append_left (by simp [byteCells]; exact hk)]
  simp [byteCells, hk]
theorem BytesAt.frozen {w : World} {g : Nat} {l : List UInt8} {sp : Array Value} (h : BytesAt w g l sp) {k : Nat} (hk : k < l.length) : w.frozen? ⟨g, k, none⟩ = false := by
  simp only [World.frozen?, show w.heap[g]? = _ from h]
  simp; omega
theorem BytesAt.set {w : World} {g : Nat} {l : List UInt8} {sp : Array Value} (h : BytesAt w g l sp) {k : Nat} (hk : k < l.length) (c : UInt8) : BytesAt (w.setCell ⟨g, k, none⟩ (.int .u8 c.toNat)) g (l.set k c) sp := by
  have e : (byteCells l).toArray.setIfInBounds k (.int .u8 c.toNat) = (byteCells (l.set k c)).toArray := by
    simp [byteCells]
  unfold BytesAt at h ⊢
  simp only [World.setCell, Array.getElem?_modify, h]
  simp only [if_true, Option.map_some, List.length_set]
  rw [Array.setIfInBounds_append_left (by simp [byteCells]; exact hk), e]
  simp
theorem bytesAt_new (w : World) (s : ByteArray) : ∃ sp, BytesAt (Lib.bytesWorld w 5 s) w.heap.size s.data.toList sp := by
  refine ⟨Array.replicate (grownCap w s.size 0 5 - s.size) (.int .u8 0), ?_⟩
  unfold BytesAt
  rw [Lib.bytesWorld_at_new]
  have e : (s.data.map fun b => Value.int .u8 b.toNat) = (byteCells s.data.toList).toArray := by
    apply Array.ext'
    simp [byteCells]
  have e2 : s.data.size = s.size := rfl
  simp [Lib.bytesCells, e, byteCells, e2]
theorem Keeps.bytes {S : Nat → Prop} {a w : World} (h : Keeps S a w) (e : TypeId) (s : ByteArray) : Keeps S a (Lib.bytesWorld w e s) := by
  refine ⟨h.os, h.tape, h.output, ?_, fun i hi hn => ?_⟩
  · rw [Lib.bytesWorld_size]; have := h.size; omega
  · rw [Lib.bytesWorld_at_old w e s i (Nat.lt_of_lt_of_le hi h.size)]; exact h.block i hi hn
def eachB (lo hi : Nat) (by' : Int) (c : UInt8) : UInt8 := if lo ≤ c.toNat ∧ c.toNat ≤ hi then UInt8.ofNat (c.toNat + by').toNat else c
theorem eachB_in {lo hi : Nat} {by' : Int} {c : UInt8} (h : lo ≤ c.toNat ∧ c.toNat ≤ hi) (h1 : 0 ≤ lo + by') (h2 : hi + by' ≤ 255) : ((eachB lo hi by' c).toNat : Int) = c.toNat + by' := by
  rw [eachB, if_pos h, UInt8.toNat_ofNat']
  omega
theorem eachB_out {lo hi : Nat} {by' : Int} {c : UInt8} (h : ¬ (lo ≤ c.toNat ∧ c.toNat ≤ hi)) : eachB lo hi by' c = c := by rw [eachB, if_neg h]
/-- The first k turned by f. -/
def mapTo (f : UInt8 → UInt8) (l : List UInt8) (k : Nat) : List UInt8 := (l.take k).map f ++ l.drop k
theorem mapTo_length (f : UInt8 → UInt8) (l : List UInt8) (k : Nat) : (mapTo f l k).length = l.length := by simp [mapTo]; omega
theorem mapTo_at {f : UInt8 → UInt8} {l : List UInt8} {k : Nat} (h : k < l.length) {h' : k < (mapTo f l k).length} : (mapTo f l k)[k] = l[k] := by
  simp only [mapTo]
  rw [List.getElem_append_right (by simp; omega)]
  simp [Nat.min_eq_left (Nat.le_of_lt h)]
theorem mapTo_set {f : UInt8 → UInt8} {l : List UInt8} {k : Nat} (h : k < l.length) : (mapTo f l k).set k (f l[k]) = mapTo f l (k + 1) := by
  have hl : ((l.take k).map f).length = k := by simp; omega
  simp only [mapTo]
  rw [List.set_append_right _ _ (by omega), hl, Nat.sub_self, List.drop_eq_getElem_cons h, List.take_succ_eq_append_getElem h, List.map_append, List.set_cons_zero, List.append_assoc]
  rfl
theorem mapTo_next {f : UInt8 → UInt8} {l : List UInt8} {k : Nat} (h : k < l.length) (hf : f l[k] = l[k]) : mapTo f l (k + 1) = mapTo f l k := by
  rw [← mapTo_set h, hf]
  conv => lhs; rw [← mapTo_at (f := f) h (h' := by rw [mapTo_length]; exact h)]
  rw [List.set_getElem_self]
theorem mapTo_all (f : UInt8 → UInt8) (l : List UInt8) : mapTo f l l.length = l.map f := by simp [mapTo]
theorem backL_length (l : List UInt8) : (backL l).length ≤ l.length := by
  have := (List.dropWhile_suffix blankB (l := l.reverse)).length_le
  simpa [backL] using this
end Go.Proofs.Ytmefdniocgcckaa
/- str.Split: the pieces of a text. -/
namespace Go.Proofs.Ytmefdniocgcckaa
open Go.RowKit

/-- The pieces between bytes of a kind. -/
def pieces (p : UInt8 → Bool) : List UInt8 → List (List UInt8)
  | [] => [[]]
  | c :: l => if p c then [] :: pieces p l else match pieces p l with
    | [] => [[c]]
    | x :: r => (c :: x) :: r
/-- With so many bytes ahead of the first piece. -/
def ahead (x : List UInt8) : List (List UInt8) → List (List UInt8)
  | [] => [x]
  | y :: r => (x ++ y) :: r
theorem pieces_cons (p : UInt8 → Bool) (c : UInt8) (l : List UInt8) : pieces p (c :: l) = if p c then [] :: pieces p l else ahead [c] (pieces p l) := by
  simp only [pieces]
  split
  · rfl
  · cases pieces p l <;> rfl
theorem pieces_ne (p : UInt8 → Bool) (l : List UInt8) : pieces p l ≠ [] := by
  cases l with
  | nil => simp [pieces]
  | cons c l => simp only [pieces]; split; simp; split <;> simp
theorem ahead_nil {r : List (List UInt8)} (h : r ≠ []) : ahead [] r = r := by cases r with | nil => exact absurd rfl h | cons => rfl
theorem ahead_ahead (x y : List UInt8) (r : List (List UInt8)) : ahead x (ahead y r) = ahead (x ++ y) r := by cases r <;> simp [ahead]
theorem pieces_length (p : UInt8 → Bool) (l : List UInt8) : (pieces p l).length ≤ l.length + 1 := by
  induction l with
  | nil => simp [pieces]
  | cons c l ih =>
    simp only [pieces]
    split
    · simp; omega
    · split <;> simp_all <;> omega
theorem pieces_in {p : UInt8 → Bool} {l : List UInt8} {o : List (List UInt8)} {k m : Nat} (hk : k < l.length) (hc : p l[k] = true) (h : pieces p l = o ++ ahead ((l.take k).drop m) (pieces p (l.drop k))) :
    pieces p l = (o ++ [(l.take k).drop m]) ++ ahead ((l.take (k + 1)).drop (k + 1)) (pieces p (l.drop (k + 1))) := by
  have e : (l.take (k + 1)).drop (k + 1) = [] := List.drop_eq_nil_of_le (by simp; omega)
  rw [h, List.drop_eq_getElem_cons hk, pieces_cons, if_pos hc, e, ahead_nil (pieces_ne _ _)]
  simp [ahead]
theorem pieces_out {p : UInt8 → Bool} {l : List UInt8} {o : List (List UInt8)} {k m : Nat} (hk : k < l.length) (hm : m ≤ k) (hc : ¬ p l[k] = true) (h : pieces p l = o ++ ahead ((l.take k).drop m) (pieces p (l.drop k))) :
    pieces p l = o ++ ahead ((l.take (k + 1)).drop m) (pieces p (l.drop (k + 1))) := by
  rw [h, List.drop_eq_getElem_cons hk, pieces_cons, if_neg hc, ahead_ahead, List.take_succ_eq_append_getElem hk, List.drop_append_of_le_length (by simp; omega)]
theorem pieces_end {p : UInt8 → Bool} {l : List UInt8} {o : List (List UInt8)} {m : Nat} (h : pieces p l = o ++ ahead ((l.take l.length).drop m) (pieces p (l.drop l.length))) :
    pieces p l = o ++ [l.drop m] := by
  rw [h]; simp [pieces, ahead]

theorem mkS_extract (s : ByteArray) (m k : Nat) : mkS ((s.data.toList.take k).drop m) = s.extract m k := by
  apply ByteArray.ext
  apply Array.ext'
  simp [mkS, List.drop_take]
theorem mkS_drop (s : ByteArray) (m : Nat) : mkS (s.data.toList.drop m) = s.extract m s.size := by
  have := mkS_extract s m s.size
  have e : s.data.toList.take s.size = s.data.toList := List.take_of_length_le (by simp)
  rwa [e] at this
theorem indexByte_mem (l : List UInt8) (c : UInt8) : 0 ≤ Lib.indexByte l c ↔ c ∈ l := by
  induction l with
  | nil => simp [Lib.indexByte]
  | cons b l ih =>
    have := Lib.indexByte_ge l c
    simp only [Lib.indexByte]
    by_cases hb : b = c
    · simp [hb]
    · have h1 : ¬ c = b := fun h => hb h.symm
      simp only [beq_iff_eq, hb, if_false, List.mem_cons, h1, false_or, ← ih]
      split <;> omega

end Go.Proofs.Ytmefdniocgcckaa
/- strings.Builder's writers: the shelf's contracts, laid by hand (the shelf's own program leaves them out: names 9 and 20 are in no body). -/
namespace Go.Proofs.Ytmefdniocgcckaa
open Go.RowKit
open Go.Shelf

end Go.Proofs.Ytmefdniocgcckaa
/- Layer 2: contracts of Quote, Find, Join. -/
namespace Go.Proofs.Ytmefdniocgcckaa
open Go.RowKit
set_option maxRecDepth 100000

theorem Keeps.ofNew {w w' : World} (h : Below w.heap.size w w') : Keeps (fun _ => False) w w' := (Keeps.of_below h).mono (fun _ hi h => absurd hi (Nat.not_lt_of_le h))
theorem Keeps.toNew {S : Nat → Prop} {w w' : World} (h : Keeps S w w') (hs : ∀ k, S k → w.heap.size ≤ k) : Below w.heap.size w w' := h.below (Nat.le_refl _) hs
theorem builderAt_keeps {T e : TypeId} {B b : Nat} {p : Value} {bs : List Value} {w w1 : World} (h : Lib.BuilderAt T e B b p bs w) (k : Keeps (fun _ => False) w w1) : Lib.BuilderAt T e B b p bs w1 := by
  obtain ⟨h1, v, hb, hr, hn⟩ := h
  exact ⟨h1, v, k.heap hb (fun h => h), ownsRow_move hr (fun j hj => k.block j (hr.lt j hj).2 (fun h => h)), hn⟩
theorem esc_length (c : UInt8) : (esc c).length ≤ 4 := by
  unfold esc
  split
  · simp
  · split
    · simp
    · split
      · simp
      · split
        · simp
        · split <;> simp
theorem flat_esc_length (l : List UInt8) : (l.flatMap esc).length ≤ 4 * l.length := by
  induction l with
  | nil => simp
  | cons c l ih =>
    have := esc_length c
    simp only [List.flatMap_cons, List.length_append, List.length_cons]
    omega
theorem flat_esc_take {l : List UInt8} {k : Nat} (h : k < l.length) : (l.take (k + 1)).flatMap esc = (l.take k).flatMap esc ++ esc l[k] := by
  rw [List.take_succ_eq_append_getElem h, List.flatMap_append]; simp
theorem mkS_size (l : List UInt8) : (mkS l).size = l.length := by show l.toArray.size = _; simp
theorem str_cells (l : List UInt8) : Lib.strCells (mkS l) = byteCells l := rfl
/-- The first place of a text in another one, from one on. -/
def findI (l m : List UInt8) (from' : Int) : Int :=
  if from' < 0 ∨ (l.length : Int) < from' then -1 else if Lib.index (l.drop from'.toNat) m < 0 then -1 else from' + Lib.index (l.drop from'.toNat) m
theorem index_le (l m : List UInt8) : Lib.index l m ≤ l.length := by
  induction l with
  | nil => simp only [Lib.index]; split <;> simp
  | cons b l ih =>
    simp only [Lib.index]
    split
    · simp; omega
    · split
      · simp; omega
      · simp; omega
def joinB (b : ByteArray) (ss : List ByteArray) : List UInt8 := Lib.join (ss.map (·.data.toList)) b.data.toList
def jn (b : ByteArray) (ss : List ByteArray) : Nat := (ss.map ByteArray.size).sum + (ss.length - 1) * b.size
theorem sizes_lens (ss : List ByteArray) : Lib.lens (ss.map (·.data.toList)) = (ss.map ByteArray.size).sum := by
  induction ss with
  | nil => rfl
  | cons s ss ih =>
    have e : s.data.toList.length = s.size := list_len s
    simp only [Lib.lens] at ih ⊢
    rw [List.map_cons, List.map_cons, List.sum_cons, ih, e, List.map_cons, List.sum_cons]
theorem joinB_length (b : ByteArray) (ss : List ByteArray) : (joinB b ss).length = jn b ss := by
  cases ss with
  | nil => simp [joinB, jn, Lib.join_nil]
  | cons s ss =>
    rw [joinB, List.map_cons, Lib.join_length, ← List.map_cons (f := fun x : ByteArray => x.data.toList), sizes_lens, jn, list_len]
    simp [Nat.mul_comm]; omega
theorem jn_take {b : ByteArray} {ss : List ByteArray} {k : Nat} (h : k < ss.length) : jn b (ss.take (k + 1)) = jn b (ss.take k) + ss[k].size + if k = 0 then 0 else b.size := by
  have e1 : (ss.take (k + 1)).length = k + 1 := by simp; omega
  have e2 : (ss.take k).length = k := by simp; omega
  rw [jn, jn, e1, e2, List.take_succ_eq_append_getElem h, List.map_append, List.sum_append]
  cases k with
  | zero => simp
  | succ k =>
    simp [Nat.succ_mul]; omega
theorem jn_mono {b : ByteArray} {ss : List ByteArray} (k : Nat) (h : k ≤ ss.length) : jn b (ss.take k) ≤ jn b ss := by
  have : ∀ d, k + d ≤ ss.length → jn b (ss.take k) ≤ jn b (ss.take (k + d)) := by
    intro d
    induction d with
    | zero => intro _; exact Nat.le_refl _
    | succ d ih =>
      intro hd
      have := ih (by omega)
      have h2 := jn_take (b := b) (show k + d < ss.length by omega)
      rw [← Nat.add_assoc]
      omega
  have := this (ss.length - k) (by omega)
  rwa [show k + (ss.length - k) = ss.length by omega, List.take_length] at this
set_option maxHeartbeats 1000000 in
theorem str_Join (w : World) (A : Option Addr) (c : Nat) (ss : List ByteArray) (b : ByteArray) (hs : Strs w A ss) (hc : ss.length ≤ c) (hN : ss.length ≤ 140737488355328) (hsz : ∀ i (h : i < ss.length), ss[i].size ≤ 140737488351232) (hb : b.size ≤ 140737488351232) :
    Calls Try.prog 57 #[.string b, .slice A ss.length c] w fun e w' => e = .returned (if 1048576 < jn b ss then .tuple #[.string ⟨#[]⟩, .int .i64 2] else .tuple #[.string (mkS (joinB b ss)), .int .i64 0]) ∧ Keeps (fun _ => False) w w' := by
  have HS := hidden hs
  have HZ := hidden hsz
  clear hs hsz
  refine post_gen fun R hR => ?_
  go_enter Try.func57, Try.ntmps57
  go_wp2_with fail
  go_loop [6, 11] (fun n i => ∃ k : Nat, k ≤ ss.length ∧ i = .int .i64 k ∧ n = .int .i64 (jn b (ss.take k)) ∧ jn b (ss.take k) ≤ 1048576) (fun _ i => ss.length - (intOf i).toNat)
  case atStart => exact ⟨0, Nat.zero_le _, rfl, by simp [jn], by simp [jn]⟩
  case round =>
    obtain ⟨k, hk, rfl, rfl, hle⟩ := hrel
    by_cases hlt : k < ss.length
    · obtain ⟨ab, ao, rfl, hc0⟩ := HS.out k _ (List.getElem?_eq_getElem hlt)
      have hz := HZ.out k hlt
      have HT := hidden (jn_take (b := b) hlt)
      have hmo := hidden (jn_mono (b := b) (k + 1) hlt)
      by_cases hk0 : k = 0
      · have i0 : ¬ (0 : Int) < k := by omega
        have ht : jn b (ss.take (k + 1)) = jn b (ss.take k) + ss[k].size := by rw [HT.out, if_pos hk0]; rfl
        have HTT := hidden ht
        have HK0 := hidden hk0
        by_cases hbig : 1048576 < jn b (ss.take k) + ss[k].size
        · rw [if_pos (by have := hmo.out; omega)] at hR
          clear ht hk0
          go_wp2_with fail
          exact hR.out _ _ ⟨rfl, Keeps.refl _ _⟩
        · clear ht hk0
          go_wp2_with fail
          go_round
          case rel => exact ⟨k + 1, hlt, by go_num, by rw [HTT.out]; go_num, by rw [HTT.out]; omega⟩
          case measure => simp [intOf]; omega
      · have i0 : (0 : Int) < k := by omega
        have ht : jn b (ss.take (k + 1)) = jn b (ss.take k) + ss[k].size + b.size := by rw [HT.out, if_neg hk0]
        have HTT := hidden ht
        have HK0 := hidden hk0
        by_cases hbig : 1048576 < jn b (ss.take k) + ss[k].size + b.size
        · rw [if_pos (by have := hmo.out; omega)] at hR
          clear ht hk0
          go_wp2_with fail
          exact hR.out _ _ ⟨rfl, Keeps.refl _ _⟩
        · clear ht hk0
          go_wp2_with fail
          go_round
          case rel => exact ⟨k + 1, hlt, by go_num, by rw [HTT.out]; go_num, by rw [HTT.out]; omega⟩
          case measure => simp [intOf]; omega
    · obtain rfl : k = ss.length := by omega
      rw [List.take_length] at hle
      rw [if_neg (by omega)] at hR
      have hj : Calls Try.prog 70 #[.slice A ss.length c, .string b] w fun e w' => e = .returned (.string (mkS (joinB b ss))) ∧ Keeps (fun _ => False) w w' := by
        cases hx : ss with
        | nil => exact (Try.strings_Join_none A c b w).mono (by rintro e w' ⟨rfl, rfl⟩; exact ⟨rfl, Keeps.refl _ _⟩)
        | cons s r =>
          rw [← hx]
          have h0 : 0 < ss.length := by simp [hx]
          obtain ⟨ab, ao, rfl, h1⟩ := HS.out 0 _ (List.getElem?_eq_getElem h0)
          refine (Try.strings_Join ab ao c ss b w ?_ ?_ hN hc (by have := joinB_length b ss; rw [joinB] at this; omega)).mono ?_
          · intro j x hj
            obtain ⟨b', o', he, hc⟩ := HS.out j x hj
            simp at he
            obtain ⟨rfl, rfl⟩ := he
            exact hc
          · exact World.block_lt_of_cell? w _ h1
          · rintro e w' ⟨rfl, hb⟩
            exact ⟨rfl, Keeps.ofNew hb⟩
      have HJ := hidden hj
      clear hj hle
      go_wp2_with (go_at_call 70; refine HJ.out.mono ?_; rintro e w1 ⟨rfl, hK⟩)
      exact hR.out _ _ ⟨rfl, hK⟩
end Go.Proofs.Ytmefdniocgcckaa
/- Layer 1 (num): contracts of the functions on numbers. -/
namespace Go.Proofs.Ytmefdniocgcckaa
open Go.RowKit
set_option maxRecDepth 100000

def nAdd (x y : Int) : Int := wrap64 (x + y)
def nSub (x y : Int) : Int := wrap64 (x - y)
def nMul (x y : Int) : Int := wrap64 (x * y)
def nAnd (x y : Int) : Int := bits BinOp.and .i64 x y
def nOr (x y : Int) : Int := bits BinOp.or .i64 x y
def nXor (x y : Int) : Int := bits BinOp.xor .i64 x y
def nDiv (x y : Int) : Int := if y = 0 then 0 else if y = -1 then wrap64 (-x) else wrap64 (x.tdiv y)
def nMod (x y : Int) : Int := if y = 0 then 0 else if y = -1 then 0 else x.tmod y
def nErr (y : Int) : Int := if y = 0 then 10 else 0
theorem num_Add (x y : Int) (w : World) : Calls Try.prog 55 #[.int .i64 x, .int .i64 y] w fun e w' => e = .returned (.int .i64 (nAdd x y)) ∧ w = w' := by
  refine post_gen fun R hR => ?_
  go_enter Try.func55, Try.ntmps55
  go_wp2_with fail
  exact hR.out _ _ ⟨rfl, rfl⟩
theorem num_Sub (x y : Int) (w : World) : Calls Try.prog 45 #[.int .i64 x, .int .i64 y] w fun e w' => e = .returned (.int .i64 (nSub x y)) ∧ w = w' := by
  refine post_gen fun R hR => ?_
  go_enter Try.func45, Try.ntmps45
  go_wp2_with fail
  exact hR.out _ _ ⟨rfl, rfl⟩
theorem num_Mul (x y : Int) (w : World) : Calls Try.prog 46 #[.int .i64 x, .int .i64 y] w fun e w' => e = .returned (.int .i64 (nMul x y)) ∧ w = w' := by
  refine post_gen fun R hR => ?_
  go_enter Try.func46, Try.ntmps46
  go_wp2_with fail
  exact hR.out _ _ ⟨rfl, rfl⟩
theorem num_And (x y : Int) (w : World) : Calls Try.prog 49 #[.int .i64 x, .int .i64 y] w fun e w' => e = .returned (.int .i64 (nAnd x y)) ∧ w = w' := by
  refine post_gen fun R hR => ?_
  go_enter Try.func49, Try.ntmps49
  go_wp2_with fail
  exact hR.out _ _ ⟨rfl, rfl⟩
theorem num_Or (x y : Int) (w : World) : Calls Try.prog 50 #[.int .i64 x, .int .i64 y] w fun e w' => e = .returned (.int .i64 (nOr x y)) ∧ w = w' := by
  refine post_gen fun R hR => ?_
  go_enter Try.func50, Try.ntmps50
  go_wp2_with fail
  exact hR.out _ _ ⟨rfl, rfl⟩
theorem num_Xor (x y : Int) (w : World) : Calls Try.prog 51 #[.int .i64 x, .int .i64 y] w fun e w' => e = .returned (.int .i64 (nXor x y)) ∧ w = w' := by
  refine post_gen fun R hR => ?_
  go_enter Try.func51, Try.ntmps51
  go_wp2_with fail
  exact hR.out _ _ ⟨rfl, rfl⟩
theorem num_Div (x y : Int) (w : World) : Calls Try.prog 47 #[.int .i64 x, .int .i64 y] w fun e w' => e = .returned (.tuple #[.int .i64 (nDiv x y), .int .i64 (nErr y)]) ∧ w = w' := by
  refine post_gen fun R hR => ?_
  by_cases h0 : y = 0
  · subst h0
    go_enter Try.func47, Try.ntmps47
    go_wp2_with fail
    exact hR.out _ _ ⟨rfl, rfl⟩
  · have i0 : (y == 0) = false := by simpa using h0
    rw [nDiv, nErr, if_neg h0, if_neg h0] at hR
    by_cases h1 : y = -1
    · subst h1
      rw [if_pos rfl] at hR
      go_enter Try.func47, Try.ntmps47
      go_wp2_with fail
      exact hR.out _ _ ⟨rfl, rfl⟩
    · have i1 : (y == -1) = false := by simpa using h1
      rw [if_neg h1] at hR
      go_enter Try.func47, Try.ntmps47
      go_wp2_with fail
      exact hR.out _ _ ⟨rfl, rfl⟩
theorem num_Mod (x y : Int) (w : World) : Calls Try.prog 48 #[.int .i64 x, .int .i64 y] w fun e w' => e = .returned (.tuple #[.int .i64 (nMod x y), .int .i64 (nErr y)]) ∧ w = w' := by
  refine post_gen fun R hR => ?_
  by_cases h0 : y = 0
  · subst h0
    go_enter Try.func48, Try.ntmps48
    go_wp2_with fail
    exact hR.out _ _ ⟨rfl, rfl⟩
  · have i0 : (y == 0) = false := by simpa using h0
    rw [nMod, nErr, if_neg h0, if_neg h0] at hR
    by_cases h1 : y = -1
    · subst h1
      rw [if_pos rfl] at hR
      go_enter Try.func48, Try.ntmps48
      go_wp2_with fail
      exact hR.out _ _ ⟨rfl, rfl⟩
    · have i1 : (y == -1) = false := by simpa using h1
      rw [if_neg h1] at hR
      go_enter Try.func48, Try.ntmps48
      go_wp2_with fail
      exact hR.out _ _ ⟨rfl, rfl⟩
def nCount (n : Int) : Int := IntKind.u64.wrap (bits BinOp.and .i64 n 63)
theorem num_count (x : Int) (w : World) : Calls Try.prog 68 #[.int .i64 x] w fun e w' => e = .returned (.int .u64 (nCount x)) ∧ w = w' := by
  refine post_gen fun R hR => ?_
  go_enter Try.func68, Try.ntmps68
  go_wp2_with fail
  exact hR.out _ _ ⟨rfl, rfl⟩
theorem num_Compare (x y : Int) (w : World) : Calls Try.prog 43 #[.int .i64 x, .int .i64 y] w fun e w' => e = .returned (.int .i64 (if x < y then -1 else if y < x then 1 else 0)) ∧ w = w' := by
  refine post_gen fun R hR => ?_
  by_cases h0 : x < y
  · rw [if_pos h0] at hR
    go_enter Try.func43, Try.ntmps43
    go_wp2_with fail
    exact hR.out _ _ ⟨rfl, rfl⟩
  · rw [if_neg h0] at hR
    by_cases h1 : y < x
    · rw [if_pos h1] at hR
      go_enter Try.func43, Try.ntmps43
      go_wp2_with fail
      exact hR.out _ _ ⟨rfl, rfl⟩
    · rw [if_neg h1] at hR
      go_enter Try.func43, Try.ntmps43
      go_wp2_with fail
      exact hR.out _ _ ⟨rfl, rfl⟩
theorem nCount_in (n : Int) : 0 ≤ nCount n ∧ nCount n ≤ 63 := by
  have h : bits BinOp.and .i64 n 63 = ((BitVec.ofInt 64 n).toNat &&& 63 : Nat) := by
    have hx : (BitVec.ofInt 64 n).toNat &&& 63 ≤ 63 := Nat.and_le_right
    show IntKind.i64.wrap ((BitVec.ofInt 64 n &&& BitVec.ofInt 64 63).toNat : Int) = _
    rw [BitVec.toNat_and, show (BitVec.ofInt 64 63).toNat = 63 from rfl]
    exact IntWalk.i64_in _ (by omega)
  have hx : (BitVec.ofInt 64 n).toNat &&& 63 ≤ 63 := Nat.and_le_right
  rw [nCount, h, IntKind.wrap_u64]
  omega
def nLeft (x y : Int) : Int := wrap64 (x * 2 ^ (nCount y).toNat)
def nRight (x y : Int) : Int := x / 2 ^ (nCount y).toNat
def nLogical (x y : Int) : Int := wrap64 (IntKind.u64.wrap x / 2 ^ (nCount y).toNat)
theorem num_Left (x y : Int) (w : World) : Calls Try.prog 52 #[.int .i64 x, .int .i64 y] w fun e w' => e = .returned (.int .i64 (nLeft x y)) ∧ w = w' := by
  have hk := hidden (fun W => num_count y W)
  obtain ⟨h0, h1⟩ := nCount_in y
  unfold nLeft
  generalize nCount y = c at *
  refine post_gen fun R hR => ?_
  go_enter Try.func52, Try.ntmps52
  go_wp2_with fail
  refine (hk.out _).mono ?_
  rintro e _ ⟨rfl, rfl⟩
  go_wp2_with fail
  exact hR.out _ _ ⟨rfl, rfl⟩
theorem num_Right (x y : Int) (w : World) : Calls Try.prog 53 #[.int .i64 x, .int .i64 y] w fun e w' => e = .returned (.int .i64 (nRight x y)) ∧ w = w' := by
  have hk := hidden (fun W => num_count y W)
  obtain ⟨h0, h1⟩ := nCount_in y
  unfold nRight
  generalize nCount y = c at *
  refine post_gen fun R hR => ?_
  go_enter Try.func53, Try.ntmps53
  go_wp2_with fail
  refine (hk.out _).mono ?_
  rintro e _ ⟨rfl, rfl⟩
  go_wp2_with fail
  exact hR.out _ _ ⟨rfl, rfl⟩
theorem num_Logical (x y : Int) (w : World) : Calls Try.prog 54 #[.int .i64 x, .int .i64 y] w fun e w' => e = .returned (.int .i64 (nLogical x y)) ∧ w = w' := by
  have hk := hidden (fun W => num_count y W)
  obtain ⟨h0, h1⟩ := nCount_in y
  unfold nLogical
  generalize nCount y = c at *
  refine post_gen fun R hR => ?_
  go_enter Try.func54, Try.ntmps54
  go_wp2_with fail
  refine (hk.out _).mono ?_
  rintro e _ ⟨rfl, rfl⟩
  go_wp2_with fail
  exact hR.out _ _ ⟨rfl, rfl⟩

/-! a number, mixed -/
end Go.Proofs.Ytmefdniocgcckaa
/- Layer 1 (num): a number as it is written, and read: magnitude, In (to the base 10), Text, Leading. -/
namespace Go.Proofs.Ytmefdniocgcckaa
open Go.RowKit
set_option maxRecDepth 100000

def digs : ByteArray := ⟨#[48, 49, 50, 51, 52, 53, 54, 55, 56, 57, 97, 98, 99, 100, 101, 102, 103, 104, 105, 106, 107, 108, 109, 110, 111, 112, 113, 114, 115, 116, 117, 118, 119, 120, 121, 122]⟩
/-- A number's digits ahead of some bytes. -/
def dec (m : Nat) (acc : List UInt8) : List UInt8 := if m < 10 then UInt8.ofNat (48 + m % 10) :: acc else dec (m / 10) (UInt8.ofNat (48 + m % 10) :: acc)
termination_by m
decreasing_by omega
def textI (a : Int) : List UInt8 := if a < 0 then 45 :: dec a.natAbs [] else dec a.natAbs []
theorem digs_at : ∀ n, n < 10 → digs.data.toList.getD n 0 = UInt8.ofNat (48 + n) := by decide
theorem digs_get (n : Nat) (h : n < 10) (h2 : n < digs.size) : digs[n]'h2 = UInt8.ofNat (48 + n) := by
  rw [← at_list digs h2, ← digs_at n h, List.getD_eq_getElem?_getD, List.getElem?_eq_getElem (by rw [list_len]; exact h2)]
  rfl
theorem dec_next {k m : Nat} (h : m < 10 ^ (20 - k)) (hm : 10 ≤ m) : k ≤ 18 ∧ m / 10 < 10 ^ (20 - (k + 1)) := by
  have h1 : k ≤ 18 := by
    by_cases hk : k ≤ 18
    · exact hk
    · have h2 : 10 ^ (20 - k) ≤ 10 ^ 1 := Nat.pow_le_pow_right (by decide) (by omega)
      omega
  refine ⟨h1, ?_⟩
  have e : 20 - k = (20 - (k + 1)) + 1 := by omega
  rw [e, Nat.pow_succ] at h
  exact Nat.div_lt_of_lt_mul (by omega)
theorem num_magnitude (x : Int) (w : World) (h1 : -9223372036854775808 ≤ x) (h2 : x ≤ 9223372036854775807) : Calls Try.prog 83 #[.int .i64 x] w fun e w' => e = .returned (.int .u64 x.natAbs) ∧ w = w' := by
  refine post_gen fun R hR => ?_
  by_cases h0 : x < 0
  · go_enter Try.func83, Try.ntmps83
    go_wp2_with fail
    refine hR.out _ _ ⟨show Ending.returned (.int .u64 _) = .returned (.int .u64 _) from ret_int ?_, rfl⟩
    rw [IntKind.wrap_u64, IntKind.wrap_u64]
    omega
  · go_enter Try.func83, Try.ntmps83
    go_wp2_with fail
    refine hR.out _ _ ⟨show Ending.returned (.int .u64 _) = .returned (.int .u64 _) from ret_int ?_, rfl⟩
    omega
def z65 : Array Value := Array.replicate 65 (.int .u8 0)
theorem zero65 (w : World) : (zeroValue 129).run Try.prog w = .ok (.agg z65) w := by kernel_rfl
/-- The 65 bytes, the last ones written. -/
structure OutAt (w : World) (g : Nat) (acc : List UInt8) (cs : Array Value) : Prop where
  blk : w.heap[g]? = some (.cells cs 129 (0, 0))
  size : cs.size = 65
  last : cs.toList.drop (65 - acc.length) = byteCells acc
theorem OutAt.put {w : World} {g : Nat} {acc : List UInt8} {cs : Array Value} (h : OutAt w g acc cs) (c : UInt8) (n : Nat) (hn : n + acc.length + 1 = 65) : OutAt (w.setCell ⟨g, n, none⟩ (.int .u8 c.toNat)) g (c :: acc) (cs.setIfInBounds n (.int .u8 c.toNat)) := by
  refine ⟨blk_set h.blk _ _, by simp [h.size], ?_⟩
  have hs : cs.toList.length = 65 := by simp [h.size]
  rw [Array.toList_setIfInBounds, List.length_cons, show 65 - (acc.length + 1) = n by omega]
  rw [List.drop_eq_getElem_cons (by rw [List.length_set]; omega), List.getElem_set_self, List.drop_set_of_lt (by omega), show n + 1 = 65 - acc.length by omega, h.last]
  rfl
theorem slice65 (g n : Nat) (h : n < 65) (W : World) : (Instr.sliceAt 129 (.pointer (some ⟨g, 0, none⟩)) (some (.int .i64 (n : Int))) none none).run Try.prog W = .ok (.slice (some ⟨g, n, none⟩) (65 - n) (65 - n)) W := by
  have hal : Try.prog.arrayLen 129 = 65 := by simp [Program.arrayLen, Try.underlying129]
  rw [run_sliceAt_array_l W 129 ⟨g, 0, none⟩ (by simp [Program.arrayLen, Program.elem, Try.underlying129]) .i64 (n : Int) (by omega) (by rw [hal]; omega)]
  have he : Try.prog.elem 129 = 5 := by simp [Program.elem, Try.underlying129]
  rw [he, Try.sizeOf5, hal]
  simp only [Result.andThen_ok, slicedAt, Int.toNat_natCast]
  rw [if_neg (by omega), add_at]
  simp
theorem OutAt.text {w : World} {g : Nat} {L : List UInt8} {cs : Array Value} (h : OutAt w g L cs) (n : Nat) (hn : n + L.length = 65) : (convert 117 9 (.slice (some ⟨g, n, none⟩) (65 - n) (65 - n))).run Try.prog w = .ok (.string (mkS L)) w := by
  have e : 65 - n = L.length := by omega
  rw [e]
  refine run_convert_bytes_back (P := Try.prog) w 117 9 5 ⟨g, n, none⟩ L.length L Try.underlying117 Try.underlying5 Try.underlying9 (fun j hj => ?_)
  rw [add_at, blk_cell h.blk]
  have h2 := congrArg (fun l => l[j]?) h.last
  simp only [List.getElem?_drop, byteCells, List.getElem?_map, List.getElem?_eq_getElem hj, Option.map_some] at h2
  rw [show 65 - L.length + j = n + j by omega] at h2
  rw [← Array.getElem?_toList]
  exact h2
set_option maxHeartbeats 1000000 in
theorem num_In (x : Int) (w : World) (h1 : -9223372036854775808 ≤ x) (h2 : x ≤ 9223372036854775807) :
    Calls Try.prog 76 #[.int .i64 x, .int .i64 10] w fun e w' => e = .returned (.tuple #[.string (mkS (textI x)), .int .i64 0]) ∧ Keeps (fun _ => False) w w' := by
  have HM := hidden (fun W => num_magnitude x W h1 h2)
  have hz := zero65
  have hy : x.natAbs < 10 ^ (20 - 0) := by simp; omega
  have HY := hidden hy
  have HX := hidden (show x < 0 → textI x = 45 :: dec x.natAbs [] from fun h => if_pos h)
  have HX2 := hidden (show ¬ x < 0 → textI x = dec x.natAbs [] from fun h => if_neg h)
  have hy64 : x.natAbs ≤ 9223372036854775808 := by omega
  clear hy
  generalize x.natAbs = y at *
  have HR0 := hidden (show dec y [] = dec y [] from rfl)
  generalize hr : dec y [] = r at HX HX2 HR0
  have HR := hidden hr
  clear hr HR0
  refine post_gen fun R hR => ?_
  go_enter Try.func76, Try.ntmps76
  go_wp2_with fail
  refine (HM.out _).mono ?_
  rintro e _ ⟨rfl, rfl⟩
  go_wp2_with fail
  have HO0 := hidden (show OutAt (w.alloc (.cells z65 129)) w.heap.size [] z65 from ⟨blk_new _ _, by simp [z65], by simp [z65, byteCells]⟩)
  have HK0 := hidden ((Keeps.refl (fun _ => False) w).alloc (.cells z65 129))
  clear hz HM
  go_loopw [6, 9] (fun mm a wr => ∃ (m : Nat) (acc : List UInt8) (cs : Array Value), mm = .int .u64 m ∧ a = .int .i64 ((65 - acc.length : Nat) : Int) ∧ acc.length ≤ 19 ∧ m < 18446744073709551616 ∧ Hid (m < 10 ^ (20 - acc.length)) ∧ OutAt wr w.heap.size acc cs ∧ Hid (dec m acc = r) ∧ Keeps (fun _ => False) w wr) (fun mm _ _ => (intOf mm).toNat)
  case atStart => exact ⟨y, [], z65, rfl, rfl, Nat.zero_le _, by omega, HY, HO0.out, HR, HK0.out⟩
  case round =>
    clear HO0 HK0
    obtain ⟨m, acc, cs, rfl, rfl, hacc, hm, HL, hO, HD, hK⟩ := hrel
    have HO := hidden hO
    have HK := hidden hK
    have hg := blk_lt hO.blk
    have i1 : ((65 - acc.length : Nat) : Int) - 1 = ((64 - acc.length : Nat) : Int) := by omega
    obtain ⟨v0, hv0⟩ : ∃ v, cs[64 - acc.length]? = some v := ⟨_, Array.getElem?_eq_getElem (by rw [hO.size]; omega)⟩
    have c0 := (blk_cell hO.blk (64 - acc.length)).trans hv0
    clear hv0
    have f0 := blk_frozen hO.blk (64 - acc.length)
    have hmm : m % 10 < 10 := Nat.mod_lt _ (by decide)
    have hds : m % 10 < digs.size := by show m % 10 < 36; omega
    have HC := hidden (digs_get (m % 10) hmm hds)
    obtain ⟨c, hc⟩ : ∃ c, c = UInt8.ofNat (48 + m % 10) := ⟨_, rfl⟩
    have hds2 : m % 10 < (⟨#[48, 49, 50, 51, 52, 53, 54, 55, 56, 57, 97, 98, 99, 100, 101, 102, 103, 104, 105, 106, 107, 108, 109, 110, 111, 112, 113, 114, 115, 116, 117, 118, 119, 120, 121, 122]⟩ : ByteArray).size := hds
    have hv : (⟨#[48, 49, 50, 51, 52, 53, 54, 55, 56, 57, 97, 98, 99, 100, 101, 102, 103, 104, 105, 106, 107, 108, 109, 110, 111, 112, 113, 114, 115, 116, 117, 118, 119, 120, 121, 122]⟩ : ByteArray)[m % 10]'hds2 = c := HC.out.trans hc.symm
    have HCC := hidden hc
    clear hc
    have HP := hidden (HO.out.put c (64 - acc.length) (by omega))
    clear hO hK
    by_cases hlt : m < 10
    · have q1 : ((m : Int) / 10 == 0) = true := by simp; omega
      have hfin : dec m acc = c :: acc := by rw [dec, if_pos hlt, HCC.out]
      have HFIN := hidden hfin
      clear hfin
      obtain ⟨v1, hv1⟩ : ∃ v, cs[64 - acc.length - 1]? = some v := ⟨_, Array.getElem?_eq_getElem (by rw [HO.out.size]; omega)⟩
      have c1 := (blk_cell HO.out.blk (64 - acc.length - 1)).trans hv1
      have f1 := blk_frozen HO.out.blk (64 - acc.length - 1)
      have i2 : ((64 - acc.length : Nat) : Int) - 1 = ((64 - acc.length - 1 : Nat) : Int) := by omega
      have j1 : 64 - acc.length ≤ 65 := by omega
      clear hv1
      by_cases hneg : x < 0
      · have hp2 := HP.out.put 45 (64 - acc.length - 1) (by simp; omega)
        rw [show (((45 : UInt8).toNat : Nat) : Int) = 45 from rfl] at hp2
        have HP2 := hidden hp2
        clear hp2
        have hsl := slice65 w.heap.size (64 - acc.length - 1) (by omega)
        have htx := HP2.out.text (64 - acc.length - 1) (by simp; omega)
        go_wp2_with fail
        refine hR.out _ _ ⟨?_, (HK.out.setCell (p := ⟨w.heap.size, 64 - acc.length, none⟩) (fun h => absurd h (Nat.lt_irrefl _)) _).setCell (p := ⟨w.heap.size, 64 - acc.length - 1, none⟩) (fun h => absurd h (Nat.lt_irrefl _)) _⟩
        rw [HX.out hneg, ← HD.out, HFIN.out]; rfl
      · have hsl := slice65 w.heap.size (64 - acc.length) (by omega)
        have htx := HP.out.text (64 - acc.length) (by simp; omega)
        go_wp2_with fail
        refine hR.out _ _ ⟨?_, HK.out.setCell (p := ⟨w.heap.size, 64 - acc.length, none⟩) (fun h => absurd h (Nat.lt_irrefl _)) _⟩
        rw [HX2.out (by omega), ← HD.out, HFIN.out]; rfl
    · have q1 : ((m : Int) / 10 == 0) = false := by simp; omega
      have HNX := hidden (dec_next HL.out (by omega))
      have HDN := hidden (show dec m acc = dec (m / 10) (c :: acc) by rw [dec, if_neg hlt, HCC.out])
      go_wp2_with fail
      go_roundw
      case rel =>
        exact ⟨m / 10, c :: acc, _, by go_num, by rw [List.length_cons, show 65 - (acc.length + 1) = 64 - acc.length by omega], by have := HNX.out.1; simp; omega, by omega, hidden HNX.out.2, HP.out, hidden (by rw [← HDN.out]; exact HD.out), HK.out.setCell (p := ⟨w.heap.size, 64 - acc.length, none⟩) (fun h => absurd h (Nat.lt_irrefl _)) _⟩
      case measure => simp [intOf]; omega

/-- One digit more. -/
def dv (n : Int) (c : UInt8) : Int := wrap64 (wrap64 (n * 10) + ((c.toNat : Int) - 48))
def sgn : List UInt8 → Nat × Bool
  | [] => (0, false)
  | c :: _ => if c.toNat = 45 then (1, true) else if c.toNat = 43 then (1, false) else (0, false)
/-- The number with which a text begins, and how many bytes it has. -/
def leadL (l : List UInt8) : Int × Nat :=
  if ((l.drop (sgn l).1).takeWhile digitB).length = 0 then (0, 0)
  else (if (sgn l).2 then wrap64 (-(((l.drop (sgn l).1).takeWhile digitB).foldl dv 0)) else ((l.drop (sgn l).1).takeWhile digitB).foldl dv 0, (sgn l).1 + ((l.drop (sgn l).1).takeWhile digitB).length)
theorem takeWhile_at {q : UInt8 → Bool} (n : Nat) : ∀ (l : List UInt8), n ≤ l.length → (∀ i (h : i < l.length), i < n → q l[i] = true) → (∀ h : n < l.length, q l[n] = false) → l.takeWhile q = l.take n := by
  induction n with
  | zero =>
    intro l _ _ h
    cases l with
    | nil => rfl
    | cons c l =>
      have := h (by simp)
      simp at this
      simp [this]
  | succ n ih =>
    intro l hl h1 h2
    cases l with
    | nil => simp at hl
    | cons c l =>
      have hc := h1 0 (by simp) (by omega)
      simp only [List.getElem_cons_zero] at hc
      rw [List.takeWhile_cons, if_pos hc, List.take_succ_cons]
      congr 1
      refine ih l (by simpa using hl) (fun i hi hn => ?_) (fun h => ?_)
      · have := h1 (i + 1) (by simpa using hi) (by omega)
        simpa using this
      · have := h2 (by simpa using h)
        simpa using this
theorem lead_at {l : List UInt8} {a p : Nat} {b : Bool} (hs : sgn l = (a, b)) (hp : a ≤ p) (hl : p ≤ l.length) (h1 : ∀ i (h : i < l.length), a ≤ i → i < p → digitB l[i] = true) (h2 : ∀ h : p < l.length, digitB l[p] = false) :
    leadL l = if p = a then (0, 0) else (if b then wrap64 (-(((l.take p).drop a).foldl dv 0)) else ((l.take p).drop a).foldl dv 0, p) := by
  have e : (l.drop a).takeWhile digitB = (l.take p).drop a := by
    rw [takeWhile_at (p - a) (l.drop a) (by simp; omega) (fun i hi hlt => by rw [List.getElem_drop]; exact h1 _ _ (by omega) (by omega)) (fun h => by
      rw [List.getElem_drop]
      simp at h
      have := h2 (by omega)
      simpa only [show a + (p - a) = p by omega] using this), List.drop_take]
  have e2 : ((l.take p).drop a).length = p - a := by simp; omega
  unfold leadL
  rw [hs]
  simp only [e, e2]
  by_cases h : p = a
  · rw [if_pos h, if_pos (by omega)]
  · rw [if_neg h, if_neg (by omega), show a + (p - a) = p by omega]
theorem num_Text (x : Int) (w : World) (h1 : -9223372036854775808 ≤ x) (h2 : x ≤ 9223372036854775807) : Calls Try.prog 69 #[.int .i64 x] w fun e w' => e = .returned (.string (mkS (textI x))) ∧ Keeps (fun _ => False) w w' := by
  have k := hidden (fun W => num_In x W h1 h2)
  refine post_gen fun R hR => ?_
  go_enter Try.func69, Try.ntmps69
  go_wp2_with fail
  refine (k.out _).mono ?_
  rintro e w1 ⟨rfl, hK⟩
  go_wp2_with fail
  exact hR.out _ _ ⟨rfl, hK⟩
end Go.Proofs.Ytmefdniocgcckaa
/- Layer 1, plain: a number as it is written, read, is the number. -/
namespace Go.Proofs.Ytmefdniocgcckaa
open Go.RowKit

theorem wrap64_off (n q : Int) : wrap64 (n + 18446744073709551616 * q) = wrap64 n := by
  unfold wrap64
  rw [show n + 18446744073709551616 * q + 9223372036854775808 = n + 9223372036854775808 + 18446744073709551616 * q by omega, Int.add_mul_emod_self_left]
theorem wrap64_is (n : Int) : ∃ q, wrap64 n = n + 18446744073709551616 * q := by
  refine ⟨-((n + 9223372036854775808) / 18446744073709551616), ?_⟩
  unfold wrap64
  have := Int.emod_add_mul_ediv (n + 9223372036854775808) 18446744073709551616
  rw [Int.mul_neg]
  omega
theorem wrap_step (n d : Int) : wrap64 (wrap64 (wrap64 n * 10) + d) = wrap64 (n * 10 + d) := by
  obtain ⟨q1, e1⟩ := wrap64_is n
  obtain ⟨q2, e2⟩ := wrap64_is (wrap64 n * 10)
  rw [e2, e1, show (n + 18446744073709551616 * q1) * 10 + 18446744073709551616 * q2 + d = (n * 10 + d) + 18446744073709551616 * (10 * q1 + q2) by omega, wrap64_off]
theorem wrap_neg (n : Int) : wrap64 (-(wrap64 n)) = wrap64 (-n) := by
  obtain ⟨q1, e1⟩ := wrap64_is n
  rw [e1, show -(n + 18446744073709551616 * q1) = -n + 18446744073709551616 * (-q1) by omega, wrap64_off]
theorem dchar (m : Nat) : (UInt8.ofNat (48 + m % 10)).toNat = 48 + m % 10 := by
  have h : m % 10 < 10 := Nat.mod_lt _ (by decide)
  rw [UInt8.toNat_ofNat']; omega
theorem dec_all (m : Nat) : ∀ acc, (∀ c ∈ acc, digitB c = true) → ∀ c ∈ dec m acc, digitB c = true := by
  induction m using Nat.strongRecOn with
  | ind m ih =>
    intro acc h c hc
    have hd : digitB (UInt8.ofNat (48 + m % 10)) = true := by
      have h9 : m % 10 < 10 := Nat.mod_lt _ (by decide)
      rw [digitB_is, dchar]; omega
    have h2 : ∀ c ∈ UInt8.ofNat (48 + m % 10) :: acc, digitB c = true := by
      intro d hd2
      rcases List.mem_cons.1 hd2 with rfl | h3
      · exact hd
      · exact h d h3
    rw [dec] at hc
    split at hc
    · exact h2 c hc
    · exact ih (m / 10) (by omega) _ h2 c hc
theorem dec_ne (m : Nat) : ∀ acc, dec m acc ≠ [] := by
  induction m using Nat.strongRecOn with
  | ind m ih =>
    intro acc
    rw [dec]
    split
    · simp
    · exact ih (m / 10) (by omega) _
theorem dec_val (m : Nat) : ∀ acc, (dec m acc).foldl dv 0 = acc.foldl dv (wrap64 m) := by
  induction m using Nat.strongRecOn with
  | ind m ih =>
    intro acc
    rw [dec]
    split
    · rw [List.foldl_cons]
      congr 1
      have h0 := wrap_step 0 (((48 + m % 10 : Nat) : Int) - 48)
      rw [IntWalk.wrap64_in 0 (by omega)] at h0
      rw [dv, dchar, h0]
      congr 1
      omega
    · rw [ih (m / 10) (by omega), List.foldl_cons]
      congr 1
      rw [dv, dchar, wrap_step]
      congr 1
      omega
theorem takeWhile_all {q : UInt8 → Bool} {l : List UInt8} (h : ∀ c ∈ l, q c = true) : l.takeWhile q = l := by
  induction l with
  | nil => rfl
  | cons c l ih =>
    rw [List.takeWhile_cons, if_pos (h c (by simp)), ih (fun d hd => h d (by simp [hd]))]
theorem lead_neg (D : List UInt8) (y : Nat) (ha : ∀ c ∈ D, digitB c = true) (hl : D.length ≠ 0) (hv : D.foldl dv 0 = wrap64 y) : leadL (45 :: D) = (wrap64 (-(y : Int)), D.length + 1) := by
  have hs : sgn (45 :: D) = (1, true) := by rw [sgn, if_pos (by decide)]
  rw [leadL, hs]
  simp only [List.drop_succ_cons, List.drop_zero, takeWhile_all ha]
  rw [if_neg hl, if_pos trivial, hv, wrap_neg, Nat.add_comm]
theorem lead_pos (D : List UInt8) (y : Nat) (ha : ∀ c ∈ D, digitB c = true) (hl : D.length ≠ 0) (hv : D.foldl dv 0 = wrap64 y) : leadL D = (wrap64 y, D.length) := by
  have hs : sgn D = (0, false) := by
    cases D with
    | nil => exact absurd rfl hl
    | cons c r =>
      have := ha c (by simp)
      rw [digitB_is] at this
      rw [sgn, if_neg (by omega), if_neg (by omega)]
  rw [leadL, hs]
  simp only [List.drop_zero, takeWhile_all ha]
  rw [if_neg hl, hv, Nat.zero_add]
  simp
theorem lead_text (x : Int) (h1 : -9223372036854775808 ≤ x) (h2 : x ≤ 9223372036854775807) : leadL (textI x) = (x, (textI x).length) := by
  have ha := dec_all x.natAbs [] (by simp)
  have hn := dec_ne x.natAbs []
  have hv := dec_val x.natAbs []
  have hl : (dec x.natAbs []).length ≠ 0 := fun h => hn (List.eq_nil_of_length_eq_zero h)
  rw [List.foldl_nil] at hv
  have hw := IntWalk.wrap64_in x ⟨h1, h2⟩
  by_cases h0 : x < 0
  · have e : textI x = 45 :: dec x.natAbs [] := if_pos h0
    have hx : -((x.natAbs : Nat) : Int) = x := by omega
    rw [e]
    generalize dec x.natAbs [] = D at *
    rw [lead_neg D x.natAbs ha hl hv, hx, hw, List.length_cons]
  · have e : textI x = dec x.natAbs [] := if_neg h0
    have hx : ((x.natAbs : Nat) : Int) = x := by omega
    rw [e]
    generalize dec x.natAbs [] = D at *
    rw [lead_pos D x.natAbs ha hl hv, hx, hw]
end Go.Proofs.Ytmefdniocgcckaa
/- Layer 3 (value): contracts of Bool, Ref, True, Same, Hash, Type. -/
namespace Go.Proofs.Ytmefdniocgcckaa
open Go.RowKit
set_option maxRecDepth 100000

theorem value_Ref (n : Int) (w : World) : Calls Try.prog 12 #[.int .i64 n] w fun e w' => e = .returned (V.val ⟨4, n, ⟨#[]⟩⟩) ∧ Keeps (fun _ => False) w w' := by
  refine post_gen fun R hR => ?_
  go_enter Try.func12, Try.ntmps12
  go_wp2
  exact bodyPost_ret (v := V.val ⟨4, n, ⟨#[]⟩⟩) (by simp [results, Try.results12, go_sem, V.val]) rfl (hR.out _ _ ⟨rfl, (Keeps.refl _ _).alloc _⟩)
/-- As good as true. -/
def V.tru (v : V) : Bool := if v.k = 0 then false else if v.k = 1 ∨ v.k = 2 then decide (v.n ≠ 0) else true
/-- A kind's name. -/
def V.typ (v : V) : ByteArray := if v.k = 0 then ⟨#[110, 117, 108, 108]⟩ else if v.k = 1 then ⟨#[98, 111, 111, 108]⟩ else if v.k = 2 then ⟨#[105, 110, 116, 101, 103, 101, 114]⟩ else if v.k = 3 then ⟨#[115, 116, 114, 105, 110, 103]⟩ else if v.k = 4 then ⟨#[114, 101, 102]⟩ else ⟨#[]⟩
def V.txt (v : V) : ByteArray × Int :=
  if v.k = 0 then (⟨#[110, 117, 108, 108]⟩, 0) else if v.k = 1 then (if v.n = 0 then ⟨#[102, 97, 108, 115, 101]⟩ else ⟨#[116, 114, 117, 101]⟩, 0) else if v.k = 2 then (mkS (textI v.n), 0) else if v.k = 3 then (v.t, 0) else (⟨#[]⟩, 30)
theorem value_Text (v : V) (w : World) (hn : -9223372036854775808 ≤ v.n ∧ v.n ≤ 9223372036854775807) : Calls Try.prog 56 #[v.val] w fun e w' => e = .returned (.tuple #[.string v.txt.1, .int .i64 v.txt.2]) ∧ Keeps (fun _ => False) w w' := by
  obtain ⟨k, n, t⟩ := v
  have h2 := hidden (fun W => num_Text n W hn.1 hn.2)
  clear hn
  unfold V.val
  simp only [V.txt]
  generalize mkS (textI n) = x at *
  refine post_gen fun R hR => ?_
  rcases (show k = 0 ∨ k = 1 ∨ k = 2 ∨ k = 3 ∨ k = 4 ∨ (k ≠ 0 ∧ k ≠ 1 ∧ k ≠ 2 ∧ k ≠ 3 ∧ k ≠ 4) by omega) with rfl | rfl | rfl | rfl | rfl | ⟨g0, g1, g2, g3, g4⟩
  · go_enter Try.func56, Try.ntmps56
    go_wp2_with fail
    exact hR.out _ _ ⟨rfl, (Keeps.refl _ _).alloc _⟩
  · by_cases hn : n = 0
    · subst hn
      go_enter Try.func56, Try.ntmps56
      go_wp2_with fail
      exact hR.out _ _ ⟨rfl, (Keeps.refl _ _).alloc _⟩
    · have i1 : (n != 0) = true := by simpa using hn
      have i2 : (n == 0) = false := by simpa using hn
      simp only [if_neg hn] at hR
      go_enter Try.func56, Try.ntmps56
      go_wp2_with fail
      exact hR.out _ _ ⟨rfl, (Keeps.refl _ _).alloc _⟩
  · go_enter Try.func56, Try.ntmps56
    go_wp2_with (go_at_call 69; refine (h2.out _).mono ?_; rintro e w1 ⟨rfl, hK⟩; have HK := hidden hK; clear hK)
    exact hR.out _ _ ⟨rfl, ((Keeps.refl _ _).alloc _).trans HK.out (fun _ _ h => h)⟩
  · go_enter Try.func56, Try.ntmps56
    go_wp2_with fail
    exact hR.out _ _ ⟨rfl, (Keeps.refl _ _).alloc _⟩
  · go_enter Try.func56, Try.ntmps56
    go_wp2_with fail
    exact hR.out _ _ ⟨rfl, (Keeps.refl _ _).alloc _⟩
  · simp only [if_neg g0, if_neg g1, if_neg g2, if_neg g3] at hR
    have i0 : (k == 0) = false := by simpa using g0
    have i1 : (k == 1) = false := by simpa using g1
    have i2 : (k == 2) = false := by simpa using g2
    have i3 : (k == 3) = false := by simpa using g3
    have i4 : (k == 4) = false := by simpa using g4
    go_enter Try.func56, Try.ntmps56
    go_wp2_with fail
    exact hR.out _ _ ⟨rfl, (Keeps.refl _ _).alloc _⟩
def V.src (v : V) : ByteArray × Int := if v.k = 3 then (mkS (quoteL v.t.data.toList), 0) else v.txt
def V.num (v : V) : Int × Int :=
  if v.k = 1 ∨ v.k = 2 then (v.n, 0) else if v.k = 3 then (if (leadL v.t.data.toList).2 = 0 ∨ (leadL v.t.data.toList).2 ≠ v.t.size then (0, 5) else ((leadL v.t.data.toList).1, 0)) else (0, 30)
end Go.Proofs.Ytmefdniocgcckaa
/- Layer 3 (value): contracts of Compare, Add, Reckon, Cells. -/
namespace Go.Proofs.Ytmefdniocgcckaa
open Go.RowKit
set_option maxRecDepth 100000

def cmpI (x y : Int) : Int := if x < y then -1 else if y < x then 1 else 0
def V.cmp (a b : V) : Int × Int :=
  if a = b then (0, 0) else if a.k = 0 then (-1, 0) else if b.k = 0 then (1, 0) else if (a.k = 2 ∧ b.k = 2) ∨ (a.k = 1 ∧ b.k = 1) then (cmpI a.n b.n, 0)
  else if a.k = 3 ∧ b.k = 3 then (cmpL a.t.data.toList b.t.data.toList, 0) else (0, 30)
set_option maxHeartbeats 1000000 in
theorem value_Compare (a b : V) (w : World) (ha : a.t.size ≤ 140737488351232) (hb : b.t.size ≤ 140737488351232) : Calls Try.prog 25 #[a.val, b.val] w fun e w' => e = .returned (.tuple #[.int .i64 (a.cmp b).1, .int .i64 (a.cmp b).2]) ∧ Keeps (fun _ => False) w w' := by
  have h1 := fun W => value_Same a b W
  have h2 := hidden (fun W => str_Compare a.t b.t W ha hb)
  have h3 := hidden (fun W => num_Compare a.n b.n W)
  have hc : (if a.n < b.n then (-1 : Int) else if b.n < a.n then 1 else 0) = cmpI a.n b.n := rfl
  rw [hc] at h3
  unfold V.cmp
  generalize cmpL a.t.data.toList b.t.data.toList = x at *
  generalize cmpI a.n b.n = y at *
  clear hc
  refine post_gen fun R hR => ?_
  by_cases hs : a = b
  · rw [if_pos hs] at hR
    rw [decide_eq_true hs] at h1
    have H1 := hidden h1
    clear h1 hs
    obtain ⟨k, n, t⟩ := a
    obtain ⟨k2, n2, t2⟩ := b
    unfold V.val at *
    go_enter Try.func25, Try.ntmps25
    go_wp2_with (go_at_call 36; refine (H1.out _).mono ?_; rintro e w1 ⟨rfl, hK⟩; have HK := hidden hK; clear hK)
    exact hR.out _ _ ⟨rfl, (((Keeps.refl _ _).alloc _).alloc _).trans HK.out (fun _ _ h => h)⟩
  rw [if_neg hs] at hR
  rw [decide_eq_false hs] at h1
  have H1 := hidden h1
  clear h1 hs
  obtain ⟨k, n, t⟩ := a
  obtain ⟨k2, n2, t2⟩ := b
  simp only at hR
  unfold V.val at *
  by_cases g0 : k = 0
  · subst g0
    rw [if_pos rfl] at hR
    go_enter Try.func25, Try.ntmps25
    go_wp2_with fail
    refine (H1.out _).mono ?_
    rintro e w1 ⟨rfl, hK⟩
    have HK := hidden ((((Keeps.refl (fun _ => False) w).alloc (.cells #[.int .i64 0, .int .i64 n, .string t] 29)).alloc (.cells #[.int .i64 k2, .int .i64 n2, .string t2] 29)).trans hK (fun _ _ h => h))
    have HV := hidden (show IsVar w1 w.heap.size ⟨0, n, t⟩ from hK.heap (blk_alloc (blk_new w _) _) (fun h => h))
    have HV2 := hidden (show IsVar w1 (w.heap.size + 1) ⟨k2, n2, t2⟩ from hK.heap (by have := blk_new (w.alloc (.cells #[.int .i64 0, .int .i64 n, .string t] 29)) (.cells #[.int .i64 k2, .int .i64 n2, .string t2] 29); simpa using this) (fun h => h))
    obtain ⟨c0, c1, c2, -, -, -⟩ := HV.out.cells
    obtain ⟨d0, d1, d2, -, -, -⟩ := HV2.out.cells
    simp only at c0 c1 c2 d0 d1 d2
    have hz1 := blk_lt HV2.out
    clear hK
    go_wp2_with fail
    exact hR.out _ _ ⟨rfl, HK.out⟩
  rw [if_neg g0] at hR
  have i0 : (k == 0) = false := by simpa using g0
  by_cases e0 : k2 = 0
  · subst e0
    rw [if_pos rfl] at hR
    go_enter Try.func25, Try.ntmps25
    go_wp2_with fail
    refine (H1.out _).mono ?_
    rintro e w1 ⟨rfl, hK⟩
    have HK := hidden ((((Keeps.refl (fun _ => False) w).alloc (.cells #[.int .i64 k, .int .i64 n, .string t] 29)).alloc (.cells #[.int .i64 0, .int .i64 n2, .string t2] 29)).trans hK (fun _ _ h => h))
    have HV := hidden (show IsVar w1 w.heap.size ⟨k, n, t⟩ from hK.heap (blk_alloc (blk_new w _) _) (fun h => h))
    have HV2 := hidden (show IsVar w1 (w.heap.size + 1) ⟨0, n2, t2⟩ from hK.heap (by have := blk_new (w.alloc (.cells #[.int .i64 k, .int .i64 n, .string t] 29)) (.cells #[.int .i64 0, .int .i64 n2, .string t2] 29); simpa using this) (fun h => h))
    obtain ⟨c0, c1, c2, -, -, -⟩ := HV.out.cells
    obtain ⟨d0, d1, d2, -, -, -⟩ := HV2.out.cells
    simp only at c0 c1 c2 d0 d1 d2
    have hz1 := blk_lt HV2.out
    clear hK
    go_wp2_with fail
    exact hR.out _ _ ⟨rfl, HK.out⟩
  rw [if_neg e0] at hR
  have j0 : (k2 == 0) = false := by simpa using e0
  by_cases g2 : k = 2 ∧ k2 = 2
  · obtain ⟨rfl, rfl⟩ := g2
    rw [if_pos (.inl ⟨rfl, rfl⟩)] at hR
    go_enter Try.func25, Try.ntmps25
    go_wp2_with fail
    refine (H1.out _).mono ?_
    rintro e w1 ⟨rfl, hK⟩
    have HK := hidden ((((Keeps.refl (fun _ => False) w).alloc (.cells #[.int .i64 2, .int .i64 n, .string t] 29)).alloc (.cells #[.int .i64 2, .int .i64 n2, .string t2] 29)).trans hK (fun _ _ h => h))
    have HV := hidden (show IsVar w1 w.heap.size ⟨2, n, t⟩ from hK.heap (blk_alloc (blk_new w _) _) (fun h => h))
    have HV2 := hidden (show IsVar w1 (w.heap.size + 1) ⟨2, n2, t2⟩ from hK.heap (by have := blk_new (w.alloc (.cells #[.int .i64 2, .int .i64 n, .string t] 29)) (.cells #[.int .i64 2, .int .i64 n2, .string t2] 29); simpa using this) (fun h => h))
    obtain ⟨c0, c1, c2, -, -, -⟩ := HV.out.cells
    obtain ⟨d0, d1, d2, -, -, -⟩ := HV2.out.cells
    simp only at c0 c1 c2 d0 d1 d2
    have hz1 := blk_lt HV2.out
    clear hK
    go_wp2_with (go_at_call 43; refine (h3.out _).mono ?_; rintro e _ ⟨rfl, rfl⟩)
    exact hR.out _ _ ⟨rfl, HK.out⟩
  by_cases g1 : k = 1 ∧ k2 = 1
  · obtain ⟨rfl, rfl⟩ := g1
    rw [if_pos (.inr ⟨rfl, rfl⟩)] at hR
    go_enter Try.func25, Try.ntmps25
    go_wp2_with fail
    refine (H1.out _).mono ?_
    rintro e w1 ⟨rfl, hK⟩
    have HK := hidden ((((Keeps.refl (fun _ => False) w).alloc (.cells #[.int .i64 1, .int .i64 n, .string t] 29)).alloc (.cells #[.int .i64 1, .int .i64 n2, .string t2] 29)).trans hK (fun _ _ h => h))
    have HV := hidden (show IsVar w1 w.heap.size ⟨1, n, t⟩ from hK.heap (blk_alloc (blk_new w _) _) (fun h => h))
    have HV2 := hidden (show IsVar w1 (w.heap.size + 1) ⟨1, n2, t2⟩ from hK.heap (by have := blk_new (w.alloc (.cells #[.int .i64 1, .int .i64 n, .string t] 29)) (.cells #[.int .i64 1, .int .i64 n2, .string t2] 29); simpa using this) (fun h => h))
    obtain ⟨c0, c1, c2, -, -, -⟩ := HV.out.cells
    obtain ⟨d0, d1, d2, -, -, -⟩ := HV2.out.cells
    simp only at c0 c1 c2 d0 d1 d2
    have hz1 := blk_lt HV2.out
    clear hK
    go_wp2_with (go_at_call 43; refine (h3.out _).mono ?_; rintro e _ ⟨rfl, rfl⟩)
    exact hR.out _ _ ⟨rfl, HK.out⟩
  rw [if_neg (by omega)] at hR
  by_cases g3 : k = 3 ∧ k2 = 3
  · obtain ⟨rfl, rfl⟩ := g3
    rw [if_pos ⟨rfl, rfl⟩] at hR
    go_enter Try.func25, Try.ntmps25
    go_wp2_with fail
    refine (H1.out _).mono ?_
    rintro e w1 ⟨rfl, hK⟩
    have HK := hidden ((((Keeps.refl (fun _ => False) w).alloc (.cells #[.int .i64 3, .int .i64 n, .string t] 29)).alloc (.cells #[.int .i64 3, .int .i64 n2, .string t2] 29)).trans hK (fun _ _ h => h))
    have HV := hidden (show IsVar w1 w.heap.size ⟨3, n, t⟩ from hK.heap (blk_alloc (blk_new w _) _) (fun h => h))
    have HV2 := hidden (show IsVar w1 (w.heap.size + 1) ⟨3, n2, t2⟩ from hK.heap (by have := blk_new (w.alloc (.cells #[.int .i64 3, .int .i64 n, .string t] 29)) (.cells #[.int .i64 3, .int .i64 n2, .string t2] 29); simpa using this) (fun h => h))
    obtain ⟨c0, c1, c2, -, -, -⟩ := HV.out.cells
    obtain ⟨d0, d1, d2, -, -, -⟩ := HV2.out.cells
    simp only at c0 c1 c2 d0 d1 d2
    have hz1 := blk_lt HV2.out
    clear hK
    go_wp2_with (go_at_call 44; refine (h2.out _).mono ?_; rintro e w2 ⟨rfl, hD⟩)
    exact hR.out _ _ ⟨rfl, HK.out.trans (hD.keeps _) (fun _ _ h => h)⟩
  rw [if_neg g3] at hR
  by_cases a1 : k = 1
  · subst a1
    have j1 : (k2 == 1) = false := by simp; omega
    go_enter Try.func25, Try.ntmps25
    go_wp2_with fail
    refine (H1.out _).mono ?_
    rintro e w1 ⟨rfl, hK⟩
    have HK := hidden ((((Keeps.refl (fun _ => False) w).alloc (.cells #[.int .i64 1, .int .i64 n, .string t] 29)).alloc (.cells #[.int .i64 k2, .int .i64 n2, .string t2] 29)).trans hK (fun _ _ h => h))
    have HV := hidden (show IsVar w1 w.heap.size ⟨1, n, t⟩ from hK.heap (blk_alloc (blk_new w _) _) (fun h => h))
    have HV2 := hidden (show IsVar w1 (w.heap.size + 1) ⟨k2, n2, t2⟩ from hK.heap (by have := blk_new (w.alloc (.cells #[.int .i64 1, .int .i64 n, .string t] 29)) (.cells #[.int .i64 k2, .int .i64 n2, .string t2] 29); simpa using this) (fun h => h))
    obtain ⟨c0, c1, c2, -, -, -⟩ := HV.out.cells
    obtain ⟨d0, d1, d2, -, -, -⟩ := HV2.out.cells
    simp only at c0 c1 c2 d0 d1 d2
    have hz1 := blk_lt HV2.out
    clear hK
    go_wp2_with fail
    exact hR.out _ _ ⟨rfl, HK.out⟩
  by_cases a2 : k = 2
  · subst a2
    have j1 : (k2 == 2) = false := by simp; omega
    go_enter Try.func25, Try.ntmps25
    go_wp2_with fail
    refine (H1.out _).mono ?_
    rintro e w1 ⟨rfl, hK⟩
    have HK := hidden ((((Keeps.refl (fun _ => False) w).alloc (.cells #[.int .i64 2, .int .i64 n, .string t] 29)).alloc (.cells #[.int .i64 k2, .int .i64 n2, .string t2] 29)).trans hK (fun _ _ h => h))
    have HV := hidden (show IsVar w1 w.heap.size ⟨2, n, t⟩ from hK.heap (blk_alloc (blk_new w _) _) (fun h => h))
    have HV2 := hidden (show IsVar w1 (w.heap.size + 1) ⟨k2, n2, t2⟩ from hK.heap (by have := blk_new (w.alloc (.cells #[.int .i64 2, .int .i64 n, .string t] 29)) (.cells #[.int .i64 k2, .int .i64 n2, .string t2] 29); simpa using this) (fun h => h))
    obtain ⟨c0, c1, c2, -, -, -⟩ := HV.out.cells
    obtain ⟨d0, d1, d2, -, -, -⟩ := HV2.out.cells
    simp only at c0 c1 c2 d0 d1 d2
    have hz1 := blk_lt HV2.out
    clear hK
    go_wp2_with fail
    exact hR.out _ _ ⟨rfl, HK.out⟩
  by_cases a3 : k = 3
  · subst a3
    have j1 : (k2 == 3) = false := by simp; omega
    go_enter Try.func25, Try.ntmps25
    go_wp2_with fail
    refine (H1.out _).mono ?_
    rintro e w1 ⟨rfl, hK⟩
    have HK := hidden ((((Keeps.refl (fun _ => False) w).alloc (.cells #[.int .i64 3, .int .i64 n, .string t] 29)).alloc (.cells #[.int .i64 k2, .int .i64 n2, .string t2] 29)).trans hK (fun _ _ h => h))
    have HV := hidden (show IsVar w1 w.heap.size ⟨3, n, t⟩ from hK.heap (blk_alloc (blk_new w _) _) (fun h => h))
    have HV2 := hidden (show IsVar w1 (w.heap.size + 1) ⟨k2, n2, t2⟩ from hK.heap (by have := blk_new (w.alloc (.cells #[.int .i64 3, .int .i64 n, .string t] 29)) (.cells #[.int .i64 k2, .int .i64 n2, .string t2] 29); simpa using this) (fun h => h))
    obtain ⟨c0, c1, c2, -, -, -⟩ := HV.out.cells
    obtain ⟨d0, d1, d2, -, -, -⟩ := HV2.out.cells
    simp only at c0 c1 c2 d0 d1 d2
    have hz1 := blk_lt HV2.out
    clear hK
    go_wp2_with fail
    exact hR.out _ _ ⟨rfl, HK.out⟩
  have i1 : (k == 1) = false := by simpa using a1
  have i2 : (k == 2) = false := by simpa using a2
  have i3 : (k == 3) = false := by simpa using a3
  go_enter Try.func25, Try.ntmps25
  go_wp2_with fail
  refine (H1.out _).mono ?_
  rintro e w1 ⟨rfl, hK⟩
  have HK := hidden ((((Keeps.refl (fun _ => False) w).alloc (.cells #[.int .i64 k, .int .i64 n, .string t] 29)).alloc (.cells #[.int .i64 k2, .int .i64 n2, .string t2] 29)).trans hK (fun _ _ h => h))
  have HV := hidden (show IsVar w1 w.heap.size ⟨k, n, t⟩ from hK.heap (blk_alloc (blk_new w _) _) (fun h => h))
  have HV2 := hidden (show IsVar w1 (w.heap.size + 1) ⟨k2, n2, t2⟩ from hK.heap (by have := blk_new (w.alloc (.cells #[.int .i64 k, .int .i64 n, .string t] 29)) (.cells #[.int .i64 k2, .int .i64 n2, .string t2] 29); simpa using this) (fun h => h))
  obtain ⟨c0, c1, c2, -, -, -⟩ := HV.out.cells
  obtain ⟨d0, d1, d2, -, -, -⟩ := HV2.out.cells
  simp only at c0 c1 c2 d0 d1 d2
  have hz1 := blk_lt HV2.out
  clear hK
  go_wp2_with fail
  exact hR.out _ _ ⟨rfl, HK.out⟩
end Go.Proofs.Ytmefdniocgcckaa
/- Layer 3 (value): contracts of Add, Reckon. -/
namespace Go.Proofs.Ytmefdniocgcckaa
open Go.RowKit
set_option maxRecDepth 100000

theorem box3 (w : World) (k n k2 n2 : Int) (t t2 : ByteArray) :
    let W := ((w.alloc (.cells #[.int .i64 k, .int .i64 n, .string t] 29)).alloc (.cells #[.int .i64 k2, .int .i64 n2, .string t2] 29)).alloc (.cells #[.int .i64 0, .int .i64 0, .string ⟨#[]⟩] 29)
    IsVar W w.heap.size ⟨k, n, t⟩ ∧ IsVar W (w.heap.size + 1) ⟨k2, n2, t2⟩ ∧ IsVar W (w.heap.size + 1 + 1) V.null ∧ Keeps (fun _ => False) w W := by
  intro W
  refine ⟨blk_alloc (blk_alloc (blk_new w _) _) _, ?_, ?_, (((Keeps.refl _ w).alloc _).alloc _).alloc _⟩
  · have h := blk_alloc (blk_new (w.alloc (.cells #[.int .i64 k, .int .i64 n, .string t] 29)) (.cells #[.int .i64 k2, .int .i64 n2, .string t2] 29)) (.cells #[.int .i64 0, .int .i64 0, .string ⟨#[]⟩] 29)
    rw [show (w.alloc (.cells #[.int .i64 k, .int .i64 n, .string t] 29)).heap.size = w.heap.size + 1 by simp] at h
    exact h
  · have h := blk_new ((w.alloc (.cells #[.int .i64 k, .int .i64 n, .string t] 29)).alloc (.cells #[.int .i64 k2, .int .i64 n2, .string t2] 29)) (.cells #[.int .i64 0, .int .i64 0, .string ⟨#[]⟩] 29)
    rw [show ((w.alloc (.cells #[.int .i64 k, .int .i64 n, .string t] 29)).alloc (.cells #[.int .i64 k2, .int .i64 n2, .string t2] 29)).heap.size = w.heap.size + 1 + 1 by simp] at h
    exact h
theorem IsVar.drewN {w : World} {r : Nat} {v : V} (h : IsVar w r v) (n : Nat) : IsVar (w.drewN n) r v := h
def rk (op x y : Int) : Int × Int :=
  if op = 0 then (nSub x y, 0) else if op = 1 then (nMul x y, 0) else if op = 2 then (nDiv x y, nErr y) else if op = 3 then (nMod x y, nErr y) else if op = 4 then (nAnd x y, 0)
  else if op = 5 then (nOr x y, 0) else if op = 6 then (nXor x y, 0) else if op = 7 then (nLeft x y, 0) else if op = 8 then (nRight x y, 0) else (nLogical x y, 0)
def V.rek (op : Int) (a b : V) : V × Int :=
  if op < 0 ∨ 10 ≤ op then (V.null, 1) else if a.k ≠ 2 ∨ b.k ≠ 2 then (V.null, 30) else if (rk op a.n b.n).2 ≠ 0 then (V.null, (rk op a.n b.n).2) else (⟨2, (rk op a.n b.n).1, ⟨#[]⟩⟩, 0)
set_option maxHeartbeats 4000000 in
theorem value_Reckon (op : Int) (a b : V) (w : World) : Calls Try.prog 26 #[.int .i64 op, a.val, b.val] w fun e w' => e = .returned (.tuple #[(V.rek op a b).1.val, .int .i64 (V.rek op a b).2]) ∧ Keeps (fun _ => False) w w' := by
  obtain ⟨k, n, t⟩ := a
  obtain ⟨k2, n2, t2⟩ := b
  unfold V.rek
  refine post_gen fun R hR => ?_
  simp only at hR
  by_cases hop : op < 0 ∨ 10 ≤ op
  · rw [if_pos hop] at hR
    obtain ⟨va, vb, vr, hK0⟩ := box3 w k n k2 n2 t t2
    have VR := hidden vr
    have VA := hidden va
    have VB := hidden vb
    have HK0 := hidden hK0
    clear va vb vr hK0
    unfold V.val at *
    rcases (show op < 0 ∨ 10 ≤ op by omega) with h | h
    all_goals
      go_enter Try.func26, Try.ntmps26
      go_wp2_with fail
      refine (value_Null _).mono ?_
      rintro e w1 ⟨rfl, hK⟩
      have VR1 := hidden (show IsVar w1 (w.heap.size + 1 + 1) V.null from hK.heap (VR.out) (fun h => h))
      obtain ⟨c0, c1, c2, f0, f1, f2⟩ := VR1.out.cells
      simp only [V.null] at c0 c1 c2
      have HK1 := hidden ((HK0.out).trans hK (fun _ _ h => h))
      have hz := blk_lt VR1.out
      clear hK
      unfold V.val V.null
      go_wp2_with fail
      obtain ⟨d0, d1, d2, -⟩ := (VR1.out.set V.null).cells
      simp only [V.null] at d0 d1 d2
      exact bodyPost_ret (v := .tuple #[V.val V.null, .int .i64 1]) (by simp [results, Try.results26, go_sem, d0, d1, d2, V.val, V.null]) rfl (hR.out _ _ ⟨rfl, HK1.out.var (fun h => absurd h (by omega)) _ _ _⟩)
  rw [if_neg hop] at hR
  by_cases hkk : k ≠ 2 ∨ k2 ≠ 2
  · rw [if_pos hkk] at hR
    obtain ⟨va, vb, vr, hK0⟩ := box3 w k n k2 n2 t t2
    have VR := hidden vr
    have VA := hidden va
    have VB := hidden vb
    have HK0 := hidden hK0
    clear va vb vr hK0
    unfold V.val at *
    by_cases hk : k = 2
    · have i1 : (k2 == 2) = false := by simp; omega
      have i2 : (k2 != 2) = true := by simp; omega
      subst hk
      go_enter Try.func26, Try.ntmps26
      go_wp2_with fail
      refine (value_Null _).mono ?_
      rintro e w1 ⟨rfl, hK⟩
      have VR1 := hidden (show IsVar w1 (w.heap.size + 1 + 1) V.null from hK.heap (VR.out) (fun h => h))
      obtain ⟨c0, c1, c2, f0, f1, f2⟩ := VR1.out.cells
      simp only [V.null] at c0 c1 c2
      have HK1 := hidden ((HK0.out).trans hK (fun _ _ h => h))
      have hz := blk_lt VR1.out
      clear hK
      unfold V.val V.null
      go_wp2_with fail
      obtain ⟨d0, d1, d2, -⟩ := (VR1.out.set V.null).cells
      simp only [V.null] at d0 d1 d2
      exact bodyPost_ret (v := .tuple #[V.val V.null, .int .i64 30]) (by simp [results, Try.results26, go_sem, d0, d1, d2, V.val, V.null]) rfl (hR.out _ _ ⟨rfl, HK1.out.var (fun h => absurd h (by omega)) _ _ _⟩)
    · have i1 : (k == 2) = false := by simp; omega
      have i2 : (k != 2) = true := by simp; omega
      go_enter Try.func26, Try.ntmps26
      go_wp2_with fail
      refine (value_Null _).mono ?_
      rintro e w1 ⟨rfl, hK⟩
      have VR1 := hidden (show IsVar w1 (w.heap.size + 1 + 1) V.null from hK.heap (VR.out) (fun h => h))
      obtain ⟨c0, c1, c2, f0, f1, f2⟩ := VR1.out.cells
      simp only [V.null] at c0 c1 c2
      have HK1 := hidden ((HK0.out).trans hK (fun _ _ h => h))
      have hz := blk_lt VR1.out
      clear hK
      unfold V.val V.null
      go_wp2_with fail
      obtain ⟨d0, d1, d2, -⟩ := (VR1.out.set V.null).cells
      simp only [V.null] at d0 d1 d2
      exact bodyPost_ret (v := .tuple #[V.val V.null, .int .i64 30]) (by simp [results, Try.results26, go_sem, d0, d1, d2, V.val, V.null]) rfl (hR.out _ _ ⟨rfl, HK1.out.var (fun h => absurd h (by omega)) _ _ _⟩)
  rw [if_neg hkk] at hR
  obtain ⟨rfl, rfl⟩ : k = 2 ∧ k2 = 2 := by omega
  obtain ⟨va, vb, vr, hK0⟩ := box3 w 2 n 2 n2 t t2
  have VR := hidden vr
  have VA := hidden va
  have VB := hidden vb
  have HK0 := hidden hK0
  clear va vb vr hK0
  unfold V.val at *
  rcases (show op = 0 ∨ op = 1 ∨ op = 2 ∨ op = 3 ∨ op = 4 ∨ op = 5 ∨ op = 6 ∨ op = 7 ∨ op = 8 ∨ op = 9 by omega) with rfl | rfl | rfl | rfl | rfl | rfl | rfl | rfl | rfl | rfl
  · have h := fun W => num_Sub n n2 W
    simp only [rk, if_true] at hR
    generalize nSub n n2 = z at *
    have H := hidden h
    clear h
    rw [if_neg (by decide)] at hR
    go_enter Try.func26, Try.ntmps26
    go_wp2_with fail
    go_quiet (fail)
    go_wp2_with (go_at_call 45; refine (H.out _).mono ?_; rintro e _ ⟨rfl, rfl⟩)
    refine (value_Int _ _).mono ?_
    rintro e w1 ⟨rfl, hK⟩
    have VR1 := hidden (show IsVar w1 (w.heap.size + 1 + 1) V.null from hK.heap (VR.out.drewN nq) (fun h => h))
    obtain ⟨c0, c1, c2, f0, f1, f2⟩ := VR1.out.cells
    simp only [V.null] at c0 c1 c2
    have HK1 := hidden ((HK0.out.drewN nq).trans hK (fun _ _ h => h))
    have hz := blk_lt VR1.out
    clear hK
    unfold V.val
    go_wp2_with fail
    obtain ⟨d0, d1, d2, -⟩ := (VR1.out.set ⟨2, z, ⟨#[]⟩⟩).cells
    exact bodyPost_ret (v := .tuple #[V.val ⟨2, z, ⟨#[]⟩⟩, .int .i64 0]) (by simp [results, Try.results26, go_sem, d0, d1, d2, V.val]) rfl (hR.out _ _ ⟨rfl, HK1.out.var (fun h => absurd h (by omega)) _ _ _⟩)
  · have h := fun W => num_Mul n n2 W
    simp only [rk, if_neg (show ¬ (1 : Int) = 0 by decide), if_true] at hR
    generalize nMul n n2 = z at *
    have H := hidden h
    clear h
    rw [if_neg (by decide)] at hR
    go_enter Try.func26, Try.ntmps26
    go_wp2_with fail
    go_quiet (fail)
    go_wp2_with (go_at_call 46; refine (H.out _).mono ?_; rintro e _ ⟨rfl, rfl⟩)
    refine (value_Int _ _).mono ?_
    rintro e w1 ⟨rfl, hK⟩
    have VR1 := hidden (show IsVar w1 (w.heap.size + 1 + 1) V.null from hK.heap (VR.out.drewN nq) (fun h => h))
    obtain ⟨c0, c1, c2, f0, f1, f2⟩ := VR1.out.cells
    simp only [V.null] at c0 c1 c2
    have HK1 := hidden ((HK0.out.drewN nq).trans hK (fun _ _ h => h))
    have hz := blk_lt VR1.out
    clear hK
    unfold V.val
    go_wp2_with fail
    obtain ⟨d0, d1, d2, -⟩ := (VR1.out.set ⟨2, z, ⟨#[]⟩⟩).cells
    exact bodyPost_ret (v := .tuple #[V.val ⟨2, z, ⟨#[]⟩⟩, .int .i64 0]) (by simp [results, Try.results26, go_sem, d0, d1, d2, V.val]) rfl (hR.out _ _ ⟨rfl, HK1.out.var (fun h => absurd h (by omega)) _ _ _⟩)
  · have h := fun W => num_Div n n2 W
    simp only [rk] at hR
    simp only [if_neg (show ¬ (2 : Int) = 0 by decide), if_neg (show ¬ (2 : Int) = 1 by decide), if_true] at hR
    generalize nDiv n n2 = z at *
    by_cases h0 : n2 = 0
    · rw [nErr, if_pos h0] at hR
      rw [show nErr n2 = 10 from if_pos h0] at h
      have H := hidden h
      clear h h0
      rw [if_pos (by decide)] at hR
      go_enter Try.func26, Try.ntmps26
      go_wp2_with fail
      go_quiet (fail)
      go_wp2_with (go_at_call 47; refine (H.out _).mono ?_; rintro e _ ⟨rfl, rfl⟩)
      refine (value_Null _).mono ?_
      rintro e w1 ⟨rfl, hK⟩
      have VR1 := hidden (show IsVar w1 (w.heap.size + 1 + 1) V.null from hK.heap (VR.out.drewN nq) (fun h => h))
      obtain ⟨c0, c1, c2, f0, f1, f2⟩ := VR1.out.cells
      simp only [V.null] at c0 c1 c2
      have HK1 := hidden ((HK0.out.drewN nq).trans hK (fun _ _ h => h))
      have hz := blk_lt VR1.out
      clear hK
      unfold V.val V.null
      go_wp2_with fail
      obtain ⟨d0, d1, d2, -⟩ := (VR1.out.set V.null).cells
      simp only [V.null] at d0 d1 d2
      exact bodyPost_ret (v := .tuple #[V.val V.null, .int .i64 10]) (by simp [results, Try.results26, go_sem, d0, d1, d2, V.val, V.null]) rfl (hR.out _ _ ⟨rfl, HK1.out.var (fun h => absurd h (by omega)) _ _ _⟩)
    · rw [nErr, if_neg h0] at hR
      rw [show nErr n2 = 0 from if_neg h0] at h
      have H := hidden h
      clear h h0
      rw [if_neg (by decide)] at hR
      go_enter Try.func26, Try.ntmps26
      go_wp2_with fail
      go_quiet (fail)
      go_wp2_with (go_at_call 47; refine (H.out _).mono ?_; rintro e _ ⟨rfl, rfl⟩)
      refine (value_Int _ _).mono ?_
      rintro e w1 ⟨rfl, hK⟩
      have VR1 := hidden (show IsVar w1 (w.heap.size + 1 + 1) V.null from hK.heap (VR.out.drewN nq) (fun h => h))
      obtain ⟨c0, c1, c2, f0, f1, f2⟩ := VR1.out.cells
      simp only [V.null] at c0 c1 c2
      have HK1 := hidden ((HK0.out.drewN nq).trans hK (fun _ _ h => h))
      have hz := blk_lt VR1.out
      clear hK
      unfold V.val
      go_wp2_with fail
      obtain ⟨d0, d1, d2, -⟩ := (VR1.out.set ⟨2, z, ⟨#[]⟩⟩).cells
      exact bodyPost_ret (v := .tuple #[V.val ⟨2, z, ⟨#[]⟩⟩, .int .i64 0]) (by simp [results, Try.results26, go_sem, d0, d1, d2, V.val]) rfl (hR.out _ _ ⟨rfl, HK1.out.var (fun h => absurd h (by omega)) _ _ _⟩)
  · have h := fun W => num_Mod n n2 W
    simp only [rk] at hR
    simp only [if_neg (show ¬ (3 : Int) = 0 by decide), if_neg (show ¬ (3 : Int) = 1 by decide), if_neg (show ¬ (3 : Int) = 2 by decide), if_true] at hR
    generalize nMod n n2 = z at *
    by_cases h0 : n2 = 0
    · rw [nErr, if_pos h0] at hR
      rw [show nErr n2 = 10 from if_pos h0] at h
      have H := hidden h
      clear h h0
      rw [if_pos (by decide)] at hR
      go_enter Try.func26, Try.ntmps26
      go_wp2_with fail
      go_quiet (fail)
      go_wp2_with (go_at_call 48; refine (H.out _).mono ?_; rintro e _ ⟨rfl, rfl⟩)
      refine (value_Null _).mono ?_
      rintro e w1 ⟨rfl, hK⟩
      have VR1 := hidden (show IsVar w1 (w.heap.size + 1 + 1) V.null from hK.heap (VR.out.drewN nq) (fun h => h))
      obtain ⟨c0, c1, c2, f0, f1, f2⟩ := VR1.out.cells
      simp only [V.null] at c0 c1 c2
      have HK1 := hidden ((HK0.out.drewN nq).trans hK (fun _ _ h => h))
      have hz := blk_lt VR1.out
      clear hK
      unfold V.val V.null
      go_wp2_with fail
      obtain ⟨d0, d1, d2, -⟩ := (VR1.out.set V.null).cells
      simp only [V.null] at d0 d1 d2
      exact bodyPost_ret (v := .tuple #[V.val V.null, .int .i64 10]) (by simp [results, Try.results26, go_sem, d0, d1, d2, V.val, V.null]) rfl (hR.out _ _ ⟨rfl, HK1.out.var (fun h => absurd h (by omega)) _ _ _⟩)
    · rw [nErr, if_neg h0] at hR
      rw [show nErr n2 = 0 from if_neg h0] at h
      have H := hidden h
      clear h h0
      rw [if_neg (by decide)] at hR
      go_enter Try.func26, Try.ntmps26
      go_wp2_with fail
      go_quiet (fail)
      go_wp2_with (go_at_call 48; refine (H.out _).mono ?_; rintro e _ ⟨rfl, rfl⟩)
      refine (value_Int _ _).mono ?_
      rintro e w1 ⟨rfl, hK⟩
      have VR1 := hidden (show IsVar w1 (w.heap.size + 1 + 1) V.null from hK.heap (VR.out.drewN nq) (fun h => h))
      obtain ⟨c0, c1, c2, f0, f1, f2⟩ := VR1.out.cells
      simp only [V.null] at c0 c1 c2
      have HK1 := hidden ((HK0.out.drewN nq).trans hK (fun _ _ h => h))
      have hz := blk_lt VR1.out
      clear hK
      unfold V.val
      go_wp2_with fail
      obtain ⟨d0, d1, d2, -⟩ := (VR1.out.set ⟨2, z, ⟨#[]⟩⟩).cells
      exact bodyPost_ret (v := .tuple #[V.val ⟨2, z, ⟨#[]⟩⟩, .int .i64 0]) (by simp [results, Try.results26, go_sem, d0, d1, d2, V.val]) rfl (hR.out _ _ ⟨rfl, HK1.out.var (fun h => absurd h (by omega)) _ _ _⟩)
  · have h := fun W => num_And n n2 W
    simp only [rk, if_neg (show ¬ (4 : Int) = 0 by decide), if_neg (show ¬ (4 : Int) = 1 by decide), if_neg (show ¬ (4 : Int) = 2 by decide), if_neg (show ¬ (4 : Int) = 3 by decide), if_true] at hR
    generalize nAnd n n2 = z at *
    have H := hidden h
    clear h
    rw [if_neg (by decide)] at hR
    go_enter Try.func26, Try.ntmps26
    go_wp2_with fail
    go_quiet (fail)
    go_wp2_with (go_at_call 49; refine (H.out _).mono ?_; rintro e _ ⟨rfl, rfl⟩)
    refine (value_Int _ _).mono ?_
    rintro e w1 ⟨rfl, hK⟩
    have VR1 := hidden (show IsVar w1 (w.heap.size + 1 + 1) V.null from hK.heap (VR.out.drewN nq) (fun h => h))
    obtain ⟨c0, c1, c2, f0, f1, f2⟩ := VR1.out.cells
    simp only [V.null] at c0 c1 c2
    have HK1 := hidden ((HK0.out.drewN nq).trans hK (fun _ _ h => h))
    have hz := blk_lt VR1.out
    clear hK
    unfold V.val
    go_wp2_with fail
    obtain ⟨d0, d1, d2, -⟩ := (VR1.out.set ⟨2, z, ⟨#[]⟩⟩).cells
    exact bodyPost_ret (v := .tuple #[V.val ⟨2, z, ⟨#[]⟩⟩, .int .i64 0]) (by simp [results, Try.results26, go_sem, d0, d1, d2, V.val]) rfl (hR.out _ _ ⟨rfl, HK1.out.var (fun h => absurd h (by omega)) _ _ _⟩)
  · have h := fun W => num_Or n n2 W
    simp only [rk, if_neg (show ¬ (5 : Int) = 0 by decide), if_neg (show ¬ (5 : Int) = 1 by decide), if_neg (show ¬ (5 : Int) = 2 by decide), if_neg (show ¬ (5 : Int) = 3 by decide), if_neg (show ¬ (5 : Int) = 4 by decide), if_true] at hR
    generalize nOr n n2 = z at *
    have H := hidden h
    clear h
    rw [if_neg (by decide)] at hR
    go_enter Try.func26, Try.ntmps26
    go_wp2_with fail
    go_quiet (fail)
    go_wp2_with (go_at_call 50; refine (H.out _).mono ?_; rintro e _ ⟨rfl, rfl⟩)
    refine (value_Int _ _).mono ?_
    rintro e w1 ⟨rfl, hK⟩
    have VR1 := hidden (show IsVar w1 (w.heap.size + 1 + 1) V.null from hK.heap (VR.out.drewN nq) (fun h => h))
    obtain ⟨c0, c1, c2, f0, f1, f2⟩ := VR1.out.cells
    simp only [V.null] at c0 c1 c2
    have HK1 := hidden ((HK0.out.drewN nq).trans hK (fun _ _ h => h))
    have hz := blk_lt VR1.out
    clear hK
    unfold V.val
    go_wp2_with fail
    obtain ⟨d0, d1, d2, -⟩ := (VR1.out.set ⟨2, z, ⟨#[]⟩⟩).cells
    exact bodyPost_ret (v := .tuple #[V.val ⟨2, z, ⟨#[]⟩⟩, .int .i64 0]) (by simp [results, Try.results26, go_sem, d0, d1, d2, V.val]) rfl (hR.out _ _ ⟨rfl, HK1.out.var (fun h => absurd h (by omega)) _ _ _⟩)
  · have h := fun W => num_Xor n n2 W
    simp only [rk, if_neg (show ¬ (6 : Int) = 0 by decide), if_neg (show ¬ (6 : Int) = 1 by decide), if_neg (show ¬ (6 : Int) = 2 by decide), if_neg (show ¬ (6 : Int) = 3 by decide), if_neg (show ¬ (6 : Int) = 4 by decide), if_neg (show ¬ (6 : Int) = 5 by decide), if_true] at hR
    generalize nXor n n2 = z at *
    have H := hidden h
    clear h
    rw [if_neg (by decide)] at hR
    go_enter Try.func26, Try.ntmps26
    go_wp2_with fail
    go_quiet (fail)
    go_wp2_with (go_at_call 51; refine (H.out _).mono ?_; rintro e _ ⟨rfl, rfl⟩)
    refine (value_Int _ _).mono ?_
    rintro e w1 ⟨rfl, hK⟩
    have VR1 := hidden (show IsVar w1 (w.heap.size + 1 + 1) V.null from hK.heap (VR.out.drewN nq) (fun h => h))
    obtain ⟨c0, c1, c2, f0, f1, f2⟩ := VR1.out.cells
    simp only [V.null] at c0 c1 c2
    have HK1 := hidden ((HK0.out.drewN nq).trans hK (fun _ _ h => h))
    have hz := blk_lt VR1.out
    clear hK
    unfold V.val
    go_wp2_with fail
    obtain ⟨d0, d1, d2, -⟩ := (VR1.out.set ⟨2, z, ⟨#[]⟩⟩).cells
    exact bodyPost_ret (v := .tuple #[V.val ⟨2, z, ⟨#[]⟩⟩, .int .i64 0]) (by simp [results, Try.results26, go_sem, d0, d1, d2, V.val]) rfl (hR.out _ _ ⟨rfl, HK1.out.var (fun h => absurd h (by omega)) _ _ _⟩)
  · have h := fun W => num_Left n n2 W
    simp only [rk, if_neg (show ¬ (7 : Int) = 0 by decide), if_neg (show ¬ (7 : Int) = 1 by decide), if_neg (show ¬ (7 : Int) = 2 by decide), if_neg (show ¬ (7 : Int) = 3 by decide), if_neg (show ¬ (7 : Int) = 4 by decide), if_neg (show ¬ (7 : Int) = 5 by decide), if_neg (show ¬ (7 : Int) = 6 by decide), if_true] at hR
    generalize nLeft n n2 = z at *
    have H := hidden h
    clear h
    rw [if_neg (by decide)] at hR
    go_enter Try.func26, Try.ntmps26
    go_wp2_with fail
    go_quiet (fail)
    go_wp2_with (go_at_call 52; refine (H.out _).mono ?_; rintro e _ ⟨rfl, rfl⟩)
    refine (value_Int _ _).mono ?_
    rintro e w1 ⟨rfl, hK⟩
    have VR1 := hidden (show IsVar w1 (w.heap.size + 1 + 1) V.null from hK.heap (VR.out.drewN nq) (fun h => h))
    obtain ⟨c0, c1, c2, f0, f1, f2⟩ := VR1.out.cells
    simp only [V.null] at c0 c1 c2
    have HK1 := hidden ((HK0.out.drewN nq).trans hK (fun _ _ h => h))
    have hz := blk_lt VR1.out
    clear hK
    unfold V.val
    go_wp2_with fail
    obtain ⟨d0, d1, d2, -⟩ := (VR1.out.set ⟨2, z, ⟨#[]⟩⟩).cells
    exact bodyPost_ret (v := .tuple #[V.val ⟨2, z, ⟨#[]⟩⟩, .int .i64 0]) (by simp [results, Try.results26, go_sem, d0, d1, d2, V.val]) rfl (hR.out _ _ ⟨rfl, HK1.out.var (fun h => absurd h (by omega)) _ _ _⟩)
  · have h := fun W => num_Right n n2 W
    simp only [rk, if_neg (show ¬ (8 : Int) = 0 by decide), if_neg (show ¬ (8 : Int) = 1 by decide), if_neg (show ¬ (8 : Int) = 2 by decide), if_neg (show ¬ (8 : Int) = 3 by decide), if_neg (show ¬ (8 : Int) = 4 by decide), if_neg (show ¬ (8 : Int) = 5 by decide), if_neg (show ¬ (8 : Int) = 6 by decide), if_neg (show ¬ (8 : Int) = 7 by decide), if_true] at hR
    generalize nRight n n2 = z at *
    have H := hidden h
    clear h
    rw [if_neg (by decide)] at hR
    go_enter Try.func26, Try.ntmps26
    go_wp2_with fail
    go_quiet (fail)
    go_wp2_with (go_at_call 53; refine (H.out _).mono ?_; rintro e _ ⟨rfl, rfl⟩)
    refine (value_Int _ _).mono ?_
    rintro e w1 ⟨rfl, hK⟩
    have VR1 := hidden (show IsVar w1 (w.heap.size + 1 + 1) V.null from hK.heap (VR.out.drewN nq) (fun h => h))
    obtain ⟨c0, c1, c2, f0, f1, f2⟩ := VR1.out.cells
    simp only [V.null] at c0 c1 c2
    have HK1 := hidden ((HK0.out.drewN nq).trans hK (fun _ _ h => h))
    have hz := blk_lt VR1.out
    clear hK
    unfold V.val
    go_wp2_with fail
    obtain ⟨d0, d1, d2, -⟩ := (VR1.out.set ⟨2, z, ⟨#[]⟩⟩).cells
    exact bodyPost_ret (v := .tuple #[V.val ⟨2, z, ⟨#[]⟩⟩, .int .i64 0]) (by simp [results, Try.results26, go_sem, d0, d1, d2, V.val]) rfl (hR.out _ _ ⟨rfl, HK1.out.var (fun h => absurd h (by omega)) _ _ _⟩)
  · have h := fun W => num_Logical n n2 W
    simp only [rk, if_neg (show ¬ (9 : Int) = 0 by decide), if_neg (show ¬ (9 : Int) = 1 by decide), if_neg (show ¬ (9 : Int) = 2 by decide), if_neg (show ¬ (9 : Int) = 3 by decide), if_neg (show ¬ (9 : Int) = 4 by decide), if_neg (show ¬ (9 : Int) = 5 by decide), if_neg (show ¬ (9 : Int) = 6 by decide), if_neg (show ¬ (9 : Int) = 7 by decide), if_neg (show ¬ (9 : Int) = 8 by decide)] at hR
    generalize nLogical n n2 = z at *
    have H := hidden h
    clear h
    rw [if_neg (by decide)] at hR
    go_enter Try.func26, Try.ntmps26
    go_wp2_with fail
    go_quiet (fail)
    go_wp2_with (go_at_call 54; refine (H.out _).mono ?_; rintro e _ ⟨rfl, rfl⟩)
    refine (value_Int _ _).mono ?_
    rintro e w1 ⟨rfl, hK⟩
    have VR1 := hidden (show IsVar w1 (w.heap.size + 1 + 1) V.null from hK.heap (VR.out.drewN nq) (fun h => h))
    obtain ⟨c0, c1, c2, f0, f1, f2⟩ := VR1.out.cells
    simp only [V.null] at c0 c1 c2
    have HK1 := hidden ((HK0.out.drewN nq).trans hK (fun _ _ h => h))
    have hz := blk_lt VR1.out
    clear hK
    unfold V.val
    go_wp2_with fail
    obtain ⟨d0, d1, d2, -⟩ := (VR1.out.set ⟨2, z, ⟨#[]⟩⟩).cells
    exact bodyPost_ret (v := .tuple #[V.val ⟨2, z, ⟨#[]⟩⟩, .int .i64 0]) (by simp [results, Try.results26, go_sem, d0, d1, d2, V.val]) rfl (hR.out _ _ ⟨rfl, HK1.out.var (fun h => absurd h (by omega)) _ _ _⟩)
end Go.Proofs.Ytmefdniocgcckaa
/- Layer 3 (value): contract of Add. -/
namespace Go.Proofs.Ytmefdniocgcckaa
open Go.RowKit
set_option maxRecDepth 100000

/-- Two values together. -/
def V.add (a b : V) : V × Int :=
  if a.k = 2 ∧ b.k = 2 then (⟨2, nAdd a.n b.n, ⟨#[]⟩⟩, 0) else if a.k ≠ 3 ∧ b.k ≠ 3 then (V.null, 30) else if a.txt.2 ≠ 0 ∨ b.txt.2 ≠ 0 then (V.null, 30)
  else if 1048576 < a.txt.1.size + b.txt.1.size then (V.null, 2) else (⟨3, 0, mkS (a.txt.1.data.toList ++ b.txt.1.data.toList)⟩, 0)
set_option maxHeartbeats 2000000 in
theorem value_Add (a b : V) (w : World) (ha : -9223372036854775808 ≤ a.n ∧ a.n ≤ 9223372036854775807) (hb : -9223372036854775808 ≤ b.n ∧ b.n ≤ 9223372036854775807) (ha2 : a.txt.1.size ≤ 140737488351232) (hb2 : b.txt.1.size ≤ 140737488351232) :
    Calls Try.prog 27 #[a.val, b.val] w fun e w' => e = .returned (.tuple #[(V.add a b).1.val, .int .i64 (V.add a b).2]) ∧ Keeps (fun _ => False) w w' := by
  have h1 := hidden (fun W => value_Text a W ha)
  have h2 := hidden (fun W => value_Text b W hb)
  have h3 := hidden (fun W => num_Add a.n b.n W)
  have hj := hidden (fun (W : World) (A : Option Addr) (hs : Strs W A [a.txt.1, b.txt.1]) => str_Join W A 2 [a.txt.1, b.txt.1] ⟨#[]⟩ hs (by simp) (by simp) (fun i h => by match i, h with | 0, _ => exact ha2 | 1, _ => exact hb2) (by decide))
  have hjn : jn ⟨#[]⟩ [a.txt.1, b.txt.1] = a.txt.1.size + b.txt.1.size := by simp [jn, show (⟨#[]⟩ : ByteArray).size = 0 from rfl]
  have hjb : joinB ⟨#[]⟩ [a.txt.1, b.txt.1] = a.txt.1.data.toList ++ b.txt.1.data.toList := by
    simp only [joinB, List.map_cons, List.map_nil, Lib.join_cons, Lib.joinTail]
    simp
  rw [hjn, hjb] at hj
  unfold V.add
  clear ha hb ha2 hb2 hjn hjb
  generalize a.txt = x at *
  generalize b.txt = y at *
  obtain ⟨x1, x2⟩ := x
  obtain ⟨y1, y2⟩ := y
  generalize nAdd a.n b.n = z at *
  obtain ⟨k, n, t⟩ := a
  obtain ⟨k2, n2, t2⟩ := b
  simp only at *
  refine post_gen fun R hR => ?_
  by_cases hkk : k = 2 ∧ k2 = 2
  · rw [if_pos hkk] at hR
    obtain ⟨rfl, rfl⟩ := hkk
    obtain ⟨va, vb, vr, hK0⟩ := box3 w 2 n 2 n2 t t2
    have VR := hidden vr
    have VA := hidden va
    have VB := hidden vb
    have HK0 := hidden hK0
    clear va vb vr hK0
    unfold V.val at *
    go_enter Try.func27, Try.ntmps27
    go_wp2_with (go_at_call 55; refine (h3.out _).mono ?_; rintro e _ ⟨rfl, rfl⟩)
    refine (value_Int _ _).mono ?_
    rintro e w1 ⟨rfl, hK⟩
    have VR1 := hidden (show IsVar w1 (w.heap.size + 1 + 1) V.null from hK.heap VR.out (fun h => h))
    obtain ⟨c0, c1, c2, f0, f1, f2⟩ := VR1.out.cells
    simp only [V.null] at c0 c1 c2
    have HK1 := hidden (HK0.out.trans hK (fun _ _ h => h))
    have hz := blk_lt VR1.out
    clear hK
    unfold V.val
    go_wp2_with fail
    obtain ⟨d0, d1, d2, -⟩ := (VR1.out.set ⟨2, z, ⟨#[]⟩⟩).cells
    exact bodyPost_ret (v := .tuple #[V.val ⟨2, z, ⟨#[]⟩⟩, .int .i64 0]) (by simp [results, Try.results27, go_sem, d0, d1, d2, V.val]) rfl (hR.out _ _ ⟨rfl, HK1.out.var (fun h => absurd h (by omega)) _ _ _⟩)
  rw [if_neg hkk] at hR
  by_cases hk3 : k ≠ 3 ∧ k2 ≠ 3
  · rw [if_pos hk3] at hR
    obtain ⟨va, vb, vr, hK0⟩ := box3 w k n k2 n2 t t2
    have VR := hidden vr
    have VA := hidden va
    have VB := hidden vb
    have HK0 := hidden hK0
    clear va vb vr hK0
    unfold V.val at *
    have j1 : (k == 3) = false := by simp; omega
    have j2 : (k2 == 3) = false := by simp; omega
    have j3 : (k != 3) = true := by simp; omega
    have j4 : (k2 != 3) = true := by simp; omega
    by_cases hk : k = 2
    · have i1 : (k2 == 2) = false := by simp; omega
      subst hk
      go_enter Try.func27, Try.ntmps27
      go_wp2_with fail
      refine (value_Null _).mono ?_
      rintro e w1 ⟨rfl, hK⟩
      have VR1 := hidden (show IsVar w1 (w.heap.size + 1 + 1) V.null from hK.heap (VR.out) (fun h => h))
      obtain ⟨c0, c1, c2, f0, f1, f2⟩ := VR1.out.cells
      simp only [V.null] at c0 c1 c2
      have HK1 := hidden ((HK0.out).trans hK (fun _ _ h => h))
      have hz := blk_lt VR1.out
      clear hK
      unfold V.val V.null
      go_wp2_with fail
      obtain ⟨d0, d1, d2, -⟩ := (VR1.out.set V.null).cells
      simp only [V.null] at d0 d1 d2
      exact bodyPost_ret (v := .tuple #[V.val V.null, .int .i64 30]) (by simp [results, Try.results27, go_sem, d0, d1, d2, V.val, V.null]) rfl (hR.out _ _ ⟨rfl, HK1.out.var (fun h => absurd h (by omega)) _ _ _⟩)
    · have i1 : (k == 2) = false := by simp; omega
      go_enter Try.func27, Try.ntmps27
      go_wp2_with fail
      refine (value_Null _).mono ?_
      rintro e w1 ⟨rfl, hK⟩
      have VR1 := hidden (show IsVar w1 (w.heap.size + 1 + 1) V.null from hK.heap (VR.out) (fun h => h))
      obtain ⟨c0, c1, c2, f0, f1, f2⟩ := VR1.out.cells
      simp only [V.null] at c0 c1 c2
      have HK1 := hidden ((HK0.out).trans hK (fun _ _ h => h))
      have hz := blk_lt VR1.out
      clear hK
      unfold V.val V.null
      go_wp2_with fail
      obtain ⟨d0, d1, d2, -⟩ := (VR1.out.set V.null).cells
      simp only [V.null] at d0 d1 d2
      exact bodyPost_ret (v := .tuple #[V.val V.null, .int .i64 30]) (by simp [results, Try.results27, go_sem, d0, d1, d2, V.val, V.null]) rfl (hR.out _ _ ⟨rfl, HK1.out.var (fun h => absurd h (by omega)) _ _ _⟩)
  rw [if_neg hk3] at hR
  by_cases g3 : k = 3
  · subst g3
    obtain ⟨va, vb, vr, hK0⟩ := box3 w 3 n k2 n2 t t2
    have VR := hidden vr
    have VA := hidden va
    have VB := hidden vb
    have HK0 := hidden hK0
    clear va vb vr hK0
    unfold V.val at *
    go_enter Try.func27, Try.ntmps27
    go_wp2_with fail
    refine (h1.out _).mono ?_
    rintro e w1 ⟨rfl, hK⟩
    have VR1 := hidden (show IsVar w1 (w.heap.size + 1 + 1) V.null from hK.heap VR.out (fun h => h))
    have VB1 := hidden (show IsVar w1 (w.heap.size + 1) ⟨k2, n2, t2⟩ from hK.heap VB.out (fun h => h))
    have HK1 := hidden (HK0.out.trans hK (fun _ _ h => h))
    obtain ⟨b0, b1, b2, -, -, -⟩ := VB1.out.cells
    simp only at b0 b1 b2
    clear hK
    go_wp2_with fail
    refine (h2.out _).mono ?_
    rintro e w2 ⟨rfl, hK⟩
    have VR2 := hidden (show IsVar w2 (w.heap.size + 1 + 1) V.null from hK.heap VR1.out (fun h => h))
    have HK2 := hidden (HK1.out.trans hK (fun _ _ h => h))
    clear hK b0 b1 b2
    by_cases hx : x2 = 0
    · by_cases hy : y2 = 0
      · rw [if_neg (by omega)] at hR
        subst hx hy
        by_cases hbig : 1048576 < x1.size + y1.size
        · simp only [if_pos hbig] at hR hj
          go_wp2_with fail
          refine (hj.out _ _ (Strs.lit w2 _ _)).mono ?_
          rintro e w3 ⟨rfl, hK⟩
          have VR3 := hidden (show IsVar w3 (w.heap.size + 1 + 1) V.null from hK.heap (blk_alloc VR2.out _) (fun h => h))
          have HK3 := hidden ((HK2.out.alloc _).trans hK (fun _ _ h => h))
          clear hK
          go_wp2_with fail
          refine (value_Null _).mono ?_
          rintro e w1 ⟨rfl, hK⟩
          have VR1 := hidden (show IsVar w1 (w.heap.size + 1 + 1) V.null from hK.heap (VR3.out) (fun h => h))
          obtain ⟨c0, c1, c2, f0, f1, f2⟩ := VR1.out.cells
          simp only [V.null] at c0 c1 c2
          have HK1 := hidden ((HK3.out).trans hK (fun _ _ h => h))
          have hz := blk_lt VR1.out
          clear hK
          unfold V.val V.null
          go_wp2_with fail
          obtain ⟨d0, d1, d2, -⟩ := (VR1.out.set V.null).cells
          simp only [V.null] at d0 d1 d2
          exact bodyPost_ret (v := .tuple #[V.val V.null, .int .i64 2]) (by simp [results, Try.results27, go_sem, d0, d1, d2, V.val, V.null]) rfl (hR.out _ _ ⟨rfl, HK1.out.var (fun h => absurd h (by omega)) _ _ _⟩)
        · simp only [if_neg hbig] at hR hj
          go_wp2_with fail
          refine (hj.out _ _ (Strs.lit w2 _ _)).mono ?_
          rintro e w3 ⟨rfl, hK⟩
          have VR3 := hidden (show IsVar w3 (w.heap.size + 1 + 1) V.null from hK.heap (blk_alloc VR2.out _) (fun h => h))
          have HK3 := hidden ((HK2.out.alloc _).trans hK (fun _ _ h => h))
          clear hK
          go_wp2_with fail
          refine (value_Str _ _).mono ?_
          rintro e w4 ⟨rfl, hK⟩
          have VR4 := hidden (show IsVar w4 (w.heap.size + 1 + 1) V.null from hK.heap VR3.out (fun h => h))
          obtain ⟨c0, c1, c2, f0, f1, f2⟩ := VR4.out.cells
          simp only [V.null] at c0 c1 c2
          have HK4 := hidden (HK3.out.trans hK (fun _ _ h => h))
          have hz := blk_lt VR4.out
          clear hK
          unfold V.val
          go_wp2_with fail
          obtain ⟨d0, d1, d2, -⟩ := (VR4.out.set ⟨3, 0, mkS (x1.data.toList ++ y1.data.toList)⟩).cells
          exact bodyPost_ret (v := .tuple #[V.val ⟨3, 0, mkS (x1.data.toList ++ y1.data.toList)⟩, .int .i64 0]) (by simp [results, Try.results27, go_sem, d0, d1, d2, V.val]) rfl (hR.out _ _ ⟨rfl, HK4.out.var (fun h => absurd h (by omega)) _ _ _⟩)
      · rw [if_pos (.inr hy)] at hR
        subst hx
        have l1 : (y2 == 0) = false := by simpa using hy
        have l2 : (y2 != 0) = true := by simpa using hy
        go_wp2_with fail
        refine (value_Null _).mono ?_
        rintro e w1 ⟨rfl, hK⟩
        have VR1 := hidden (show IsVar w1 (w.heap.size + 1 + 1) V.null from hK.heap (VR2.out) (fun h => h))
        obtain ⟨c0, c1, c2, f0, f1, f2⟩ := VR1.out.cells
        simp only [V.null] at c0 c1 c2
        have HK1 := hidden ((HK2.out).trans hK (fun _ _ h => h))
        have hz := blk_lt VR1.out
        clear hK
        unfold V.val V.null
        go_wp2_with fail
        obtain ⟨d0, d1, d2, -⟩ := (VR1.out.set V.null).cells
        simp only [V.null] at d0 d1 d2
        exact bodyPost_ret (v := .tuple #[V.val V.null, .int .i64 30]) (by simp [results, Try.results27, go_sem, d0, d1, d2, V.val, V.null]) rfl (hR.out _ _ ⟨rfl, HK1.out.var (fun h => absurd h (by omega)) _ _ _⟩)
    · rw [if_pos (.inl hx)] at hR
      have l1 : (x2 == 0) = false := by simpa using hx
      have l2 : (x2 != 0) = true := by simpa using hx
      go_wp2_with fail
      refine (value_Null _).mono ?_
      rintro e w1 ⟨rfl, hK⟩
      have VR1 := hidden (show IsVar w1 (w.heap.size + 1 + 1) V.null from hK.heap (VR2.out) (fun h => h))
      obtain ⟨c0, c1, c2, f0, f1, f2⟩ := VR1.out.cells
      simp only [V.null] at c0 c1 c2
      have HK1 := hidden ((HK2.out).trans hK (fun _ _ h => h))
      have hz := blk_lt VR1.out
      clear hK
      unfold V.val V.null
      go_wp2_with fail
      obtain ⟨d0, d1, d2, -⟩ := (VR1.out.set V.null).cells
      simp only [V.null] at d0 d1 d2
      exact bodyPost_ret (v := .tuple #[V.val V.null, .int .i64 30]) (by simp [results, Try.results27, go_sem, d0, d1, d2, V.val, V.null]) rfl (hR.out _ _ ⟨rfl, HK1.out.var (fun h => absurd h (by omega)) _ _ _⟩)
  obtain rfl : k2 = 3 := by omega
  have j1 : (k == 3) = false := by simpa using g3
  have j3 : (k != 3) = true := by simpa using g3
  by_cases g2 : k = 2
  · subst g2
    obtain ⟨va, vb, vr, hK0⟩ := box3 w 2 n 3 n2 t t2
    have VR := hidden vr
    have VA := hidden va
    have VB := hidden vb
    have HK0 := hidden hK0
    clear va vb vr hK0
    unfold V.val at *
    go_enter Try.func27, Try.ntmps27
    go_wp2_with fail
    refine (h1.out _).mono ?_
    rintro e w1 ⟨rfl, hK⟩
    have VR1 := hidden (show IsVar w1 (w.heap.size + 1 + 1) V.null from hK.heap VR.out (fun h => h))
    have VB1 := hidden (show IsVar w1 (w.heap.size + 1) ⟨3, n2, t2⟩ from hK.heap VB.out (fun h => h))
    have HK1 := hidden (HK0.out.trans hK (fun _ _ h => h))
    obtain ⟨b0, b1, b2, -, -, -⟩ := VB1.out.cells
    simp only at b0 b1 b2
    clear hK
    go_wp2_with fail
    refine (h2.out _).mono ?_
    rintro e w2 ⟨rfl, hK⟩
    have VR2 := hidden (show IsVar w2 (w.heap.size + 1 + 1) V.null from hK.heap VR1.out (fun h => h))
    have HK2 := hidden (HK1.out.trans hK (fun _ _ h => h))
    clear hK b0 b1 b2
    by_cases hx : x2 = 0
    · by_cases hy : y2 = 0
      · rw [if_neg (by omega)] at hR
        subst hx hy
        by_cases hbig : 1048576 < x1.size + y1.size
        · simp only [if_pos hbig] at hR hj
          go_wp2_with fail
          refine (hj.out _ _ (Strs.lit w2 _ _)).mono ?_
          rintro e w3 ⟨rfl, hK⟩
          have VR3 := hidden (show IsVar w3 (w.heap.size + 1 + 1) V.null from hK.heap (blk_alloc VR2.out _) (fun h => h))
          have HK3 := hidden ((HK2.out.alloc _).trans hK (fun _ _ h => h))
          clear hK
          go_wp2_with fail
          refine (value_Null _).mono ?_
          rintro e w1 ⟨rfl, hK⟩
          have VR1 := hidden (show IsVar w1 (w.heap.size + 1 + 1) V.null from hK.heap (VR3.out) (fun h => h))
          obtain ⟨c0, c1, c2, f0, f1, f2⟩ := VR1.out.cells
          simp only [V.null] at c0 c1 c2
          have HK1 := hidden ((HK3.out).trans hK (fun _ _ h => h))
          have hz := blk_lt VR1.out
          clear hK
          unfold V.val V.null
          go_wp2_with fail
          obtain ⟨d0, d1, d2, -⟩ := (VR1.out.set V.null).cells
          simp only [V.null] at d0 d1 d2
          exact bodyPost_ret (v := .tuple #[V.val V.null, .int .i64 2]) (by simp [results, Try.results27, go_sem, d0, d1, d2, V.val, V.null]) rfl (hR.out _ _ ⟨rfl, HK1.out.var (fun h => absurd h (by omega)) _ _ _⟩)
        · simp only [if_neg hbig] at hR hj
          go_wp2_with fail
          refine (hj.out _ _ (Strs.lit w2 _ _)).mono ?_
          rintro e w3 ⟨rfl, hK⟩
          have VR3 := hidden (show IsVar w3 (w.heap.size + 1 + 1) V.null from hK.heap (blk_alloc VR2.out _) (fun h => h))
          have HK3 := hidden ((HK2.out.alloc _).trans hK (fun _ _ h => h))
          clear hK
          go_wp2_with fail
          refine (value_Str _ _).mono ?_
          rintro e w4 ⟨rfl, hK⟩
          have VR4 := hidden (show IsVar w4 (w.heap.size + 1 + 1) V.null from hK.heap VR3.out (fun h => h))
          obtain ⟨c0, c1, c2, f0, f1, f2⟩ := VR4.out.cells
          simp only [V.null] at c0 c1 c2
          have HK4 := hidden (HK3.out.trans hK (fun _ _ h => h))
          have hz := blk_lt VR4.out
          clear hK
          unfold V.val
          go_wp2_with fail
          obtain ⟨d0, d1, d2, -⟩ := (VR4.out.set ⟨3, 0, mkS (x1.data.toList ++ y1.data.toList)⟩).cells
          exact bodyPost_ret (v := .tuple #[V.val ⟨3, 0, mkS (x1.data.toList ++ y1.data.toList)⟩, .int .i64 0]) (by simp [results, Try.results27, go_sem, d0, d1, d2, V.val]) rfl (hR.out _ _ ⟨rfl, HK4.out.var (fun h => absurd h (by omega)) _ _ _⟩)
      · rw [if_pos (.inr hy)] at hR
        subst hx
        have l1 : (y2 == 0) = false := by simpa using hy
        have l2 : (y2 != 0) = true := by simpa using hy
        go_wp2_with fail
        refine (value_Null _).mono ?_
        rintro e w1 ⟨rfl, hK⟩
        have VR1 := hidden (show IsVar w1 (w.heap.size + 1 + 1) V.null from hK.heap (VR2.out) (fun h => h))
        obtain ⟨c0, c1, c2, f0, f1, f2⟩ := VR1.out.cells
        simp only [V.null] at c0 c1 c2
        have HK1 := hidden ((HK2.out).trans hK (fun _ _ h => h))
        have hz := blk_lt VR1.out
        clear hK
        unfold V.val V.null
        go_wp2_with fail
        obtain ⟨d0, d1, d2, -⟩ := (VR1.out.set V.null).cells
        simp only [V.null] at d0 d1 d2
        exact bodyPost_ret (v := .tuple #[V.val V.null, .int .i64 30]) (by simp [results, Try.results27, go_sem, d0, d1, d2, V.val, V.null]) rfl (hR.out _ _ ⟨rfl, HK1.out.var (fun h => absurd h (by omega)) _ _ _⟩)
    · rw [if_pos (.inl hx)] at hR
      have l1 : (x2 == 0) = false := by simpa using hx
      have l2 : (x2 != 0) = true := by simpa using hx
      go_wp2_with fail
      refine (value_Null _).mono ?_
      rintro e w1 ⟨rfl, hK⟩
      have VR1 := hidden (show IsVar w1 (w.heap.size + 1 + 1) V.null from hK.heap (VR2.out) (fun h => h))
      obtain ⟨c0, c1, c2, f0, f1, f2⟩ := VR1.out.cells
      simp only [V.null] at c0 c1 c2
      have HK1 := hidden ((HK2.out).trans hK (fun _ _ h => h))
      have hz := blk_lt VR1.out
      clear hK
      unfold V.val V.null
      go_wp2_with fail
      obtain ⟨d0, d1, d2, -⟩ := (VR1.out.set V.null).cells
      simp only [V.null] at d0 d1 d2
      exact bodyPost_ret (v := .tuple #[V.val V.null, .int .i64 30]) (by simp [results, Try.results27, go_sem, d0, d1, d2, V.val, V.null]) rfl (hR.out _ _ ⟨rfl, HK1.out.var (fun h => absurd h (by omega)) _ _ _⟩)
  · have j2 : (k == 2) = false := by simpa using g2
    obtain ⟨va, vb, vr, hK0⟩ := box3 w k n 3 n2 t t2
    have VR := hidden vr
    have VA := hidden va
    have VB := hidden vb
    have HK0 := hidden hK0
    clear va vb vr hK0
    unfold V.val at *
    go_enter Try.func27, Try.ntmps27
    go_wp2_with fail
    refine (h1.out _).mono ?_
    rintro e w1 ⟨rfl, hK⟩
    have VR1 := hidden (show IsVar w1 (w.heap.size + 1 + 1) V.null from hK.heap VR.out (fun h => h))
    have VB1 := hidden (show IsVar w1 (w.heap.size + 1) ⟨3, n2, t2⟩ from hK.heap VB.out (fun h => h))
    have HK1 := hidden (HK0.out.trans hK (fun _ _ h => h))
    obtain ⟨b0, b1, b2, -, -, -⟩ := VB1.out.cells
    simp only at b0 b1 b2
    clear hK
    go_wp2_with fail
    refine (h2.out _).mono ?_
    rintro e w2 ⟨rfl, hK⟩
    have VR2 := hidden (show IsVar w2 (w.heap.size + 1 + 1) V.null from hK.heap VR1.out (fun h => h))
    have HK2 := hidden (HK1.out.trans hK (fun _ _ h => h))
    clear hK b0 b1 b2
    by_cases hx : x2 = 0
    · by_cases hy : y2 = 0
      · rw [if_neg (by omega)] at hR
        subst hx hy
        by_cases hbig : 1048576 < x1.size + y1.size
        · simp only [if_pos hbig] at hR hj
          go_wp2_with fail
          refine (hj.out _ _ (Strs.lit w2 _ _)).mono ?_
          rintro e w3 ⟨rfl, hK⟩
          have VR3 := hidden (show IsVar w3 (w.heap.size + 1 + 1) V.null from hK.heap (blk_alloc VR2.out _) (fun h => h))
          have HK3 := hidden ((HK2.out.alloc _).trans hK (fun _ _ h => h))
          clear hK
          go_wp2_with fail
          refine (value_Null _).mono ?_
          rintro e w1 ⟨rfl, hK⟩
          have VR1 := hidden (show IsVar w1 (w.heap.size + 1 + 1) V.null from hK.heap (VR3.out) (fun h => h))
          obtain ⟨c0, c1, c2, f0, f1, f2⟩ := VR1.out.cells
          simp only [V.null] at c0 c1 c2
          have HK1 := hidden ((HK3.out).trans hK (fun _ _ h => h))
          have hz := blk_lt VR1.out
          clear hK
          unfold V.val V.null
          go_wp2_with fail
          obtain ⟨d0, d1, d2, -⟩ := (VR1.out.set V.null).cells
          simp only [V.null] at d0 d1 d2
          exact bodyPost_ret (v := .tuple #[V.val V.null, .int .i64 2]) (by simp [results, Try.results27, go_sem, d0, d1, d2, V.val, V.null]) rfl (hR.out _ _ ⟨rfl, HK1.out.var (fun h => absurd h (by omega)) _ _ _⟩)
        · simp only [if_neg hbig] at hR hj
          go_wp2_with fail
          refine (hj.out _ _ (Strs.lit w2 _ _)).mono ?_
          rintro e w3 ⟨rfl, hK⟩
          have VR3 := hidden (show IsVar w3 (w.heap.size + 1 + 1) V.null from hK.heap (blk_alloc VR2.out _) (fun h => h))
          have HK3 := hidden ((HK2.out.alloc _).trans hK (fun _ _ h => h))
          clear hK
          go_wp2_with fail
          refine (value_Str _ _).mono ?_
          rintro e w4 ⟨rfl, hK⟩
          have VR4 := hidden (show IsVar w4 (w.heap.size + 1 + 1) V.null from hK.heap VR3.out (fun h => h))
          obtain ⟨c0, c1, c2, f0, f1, f2⟩ := VR4.out.cells
          simp only [V.null] at c0 c1 c2
          have HK4 := hidden (HK3.out.trans hK (fun _ _ h => h))
          have hz := blk_lt VR4.out
          clear hK
          unfold V.val
          go_wp2_with fail
          obtain ⟨d0, d1, d2, -⟩ := (VR4.out.set ⟨3, 0, mkS (x1.data.toList ++ y1.data.toList)⟩).cells
          exact bodyPost_ret (v := .tuple #[V.val ⟨3, 0, mkS (x1.data.toList ++ y1.data.toList)⟩, .int .i64 0]) (by simp [results, Try.results27, go_sem, d0, d1, d2, V.val]) rfl (hR.out _ _ ⟨rfl, HK4.out.var (fun h => absurd h (by omega)) _ _ _⟩)
      · rw [if_pos (.inr hy)] at hR
        subst hx
        have l1 : (y2 == 0) = false := by simpa using hy
        have l2 : (y2 != 0) = true := by simpa using hy
        go_wp2_with fail
        refine (value_Null _).mono ?_
        rintro e w1 ⟨rfl, hK⟩
        have VR1 := hidden (show IsVar w1 (w.heap.size + 1 + 1) V.null from hK.heap (VR2.out) (fun h => h))
        obtain ⟨c0, c1, c2, f0, f1, f2⟩ := VR1.out.cells
        simp only [V.null] at c0 c1 c2
        have HK1 := hidden ((HK2.out).trans hK (fun _ _ h => h))
        have hz := blk_lt VR1.out
        clear hK
        unfold V.val V.null
        go_wp2_with fail
        obtain ⟨d0, d1, d2, -⟩ := (VR1.out.set V.null).cells
        simp only [V.null] at d0 d1 d2
        exact bodyPost_ret (v := .tuple #[V.val V.null, .int .i64 30]) (by simp [results, Try.results27, go_sem, d0, d1, d2, V.val, V.null]) rfl (hR.out _ _ ⟨rfl, HK1.out.var (fun h => absurd h (by omega)) _ _ _⟩)
    · rw [if_pos (.inl hx)] at hR
      have l1 : (x2 == 0) = false := by simpa using hx
      have l2 : (x2 != 0) = true := by simpa using hx
      go_wp2_with fail
      refine (value_Null _).mono ?_
      rintro e w1 ⟨rfl, hK⟩
      have VR1 := hidden (show IsVar w1 (w.heap.size + 1 + 1) V.null from hK.heap (VR2.out) (fun h => h))
      obtain ⟨c0, c1, c2, f0, f1, f2⟩ := VR1.out.cells
      simp only [V.null] at c0 c1 c2
      have HK1 := hidden ((HK2.out).trans hK (fun _ _ h => h))
      have hz := blk_lt VR1.out
      clear hK
      unfold V.val V.null
      go_wp2_with fail
      obtain ⟨d0, d1, d2, -⟩ := (VR1.out.set V.null).cells
      simp only [V.null] at d0 d1 d2
      exact bodyPost_ret (v := .tuple #[V.val V.null, .int .i64 30]) (by simp [results, Try.results27, go_sem, d0, d1, d2, V.val, V.null]) rfl (hR.out _ _ ⟨rfl, HK1.out.var (fun h => absurd h (by omega)) _ _ _⟩)
end Go.Proofs.Ytmefdniocgcckaa
