/- Layer 2: contracts of each, Lower, Upper, Strip. -/
import Derived.Test.YtmjkglmkckofgaaStrD
namespace Go.Proofs.Ytmjkglmkckofgaa
open Go.RowKit
set_option maxRecDepth 100000

/-- A row of bytes made of a text: block g, what is spare behind it. -/
def BytesAt (w : World) (g : Nat) (l : List UInt8) (sp : Array Value) : Prop := w.heap[g]? = some (.cells ((byteCells l).toArray ++ sp) 5 (l.length + sp.size, l.length + sp.size + 1))
theorem BytesAt.cell {w : World} {g : Nat} {l : List UInt8} {sp : Array Value} (h : BytesAt w g l sp) {k : Nat} (hk : k < l.length) : w.cell? ⟨g, k, none⟩ = some (.int .u8 l[k].toNat) := by
  rw [blk_cell h, Array.getElem?_append_left (by simp [byteCells]; exact hk)]
  simp [byteCells, hk]
theorem BytesAt.frozen {w : World} {g : Nat} {l : List UInt8} {sp : Array Value} (h : BytesAt w g l sp) {k : Nat} (hk : k < l.length) : w.frozen? ⟨g, k, none⟩ = false := by
  simp only [World.frozen?, show w.heap[g]? = _ from h]
  simp; omega
theorem BytesAt.set {w : World} {g : Nat} {l : List UInt8} {sp : Array Value} (h : BytesAt w g l sp) {k : Nat} (hk : k < l.length) (c : UInt8) : BytesAt (w.setCell ⟨g, k, none⟩ (.int .u8 c.toNat)) g (l.set k c) sp := by
  have e : (byteCells l).toArray.setIfInBounds k (.int .u8 c.toNat) = (byteCells (l.set k c)).toArray := by
    simp [byteCells]
  unfold BytesAt at h ⊢
  simp only [World.setCell, Array.getElem?_modify, h]
  simp only [if_true, Option.map_some, List.length_set]
  rw [Array.setIfInBounds_append_left (by simp [byteCells]; exact hk), e]
  simp
theorem bytesAt_new (w : World) (s : ByteArray) : ∃ sp, BytesAt (Lib.bytesWorld w 5 s) w.heap.size s.data.toList sp := by
  refine ⟨Array.replicate (grownCap w s.size 0 5 - s.size) (.int .u8 0), ?_⟩
  unfold BytesAt
  rw [Lib.bytesWorld_at_new]
  have e : (s.data.map fun b => Value.int .u8 b.toNat) = (byteCells s.data.toList).toArray := by
    apply Array.ext'
    simp [byteCells]
  have e2 : s.data.size = s.size := rfl
  simp [Lib.bytesCells, e, byteCells, e2]
theorem Keeps.bytes {S : Nat → Prop} {a w : World} (h : Keeps S a w) (e : TypeId) (s : ByteArray) : Keeps S a (Lib.bytesWorld w e s) := by
  refine ⟨h.os, h.tape, h.output, ?_, fun i hi hn => ?_⟩
  · rw [Lib.bytesWorld_size]; have := h.size; omega
  · rw [Lib.bytesWorld_at_old w e s i (Nat.lt_of_lt_of_le hi h.size)]; exact h.block i hi hn
def eachB (lo hi : Nat) (by' : Int) (c : UInt8) : UInt8 := if lo ≤ c.toNat ∧ c.toNat ≤ hi then UInt8.ofNat (c.toNat + by').toNat else c
theorem eachB_in {lo hi : Nat} {by' : Int} {c : UInt8} (h : lo ≤ c.toNat ∧ c.toNat ≤ hi) (h1 : 0 ≤ lo + by') (h2 : hi + by' ≤ 255) : ((eachB lo hi by' c).toNat : Int) = c.toNat + by' := by
  rw [eachB, if_pos h, UInt8.toNat_ofNat']
  omega
theorem eachB_out {lo hi : Nat} {by' : Int} {c : UInt8} (h : ¬ (lo ≤ c.toNat ∧ c.toNat ≤ hi)) : eachB lo hi by' c = c := by rw [eachB, if_neg h]
/-- The first k turned by f. -/
def mapTo (f : UInt8 → UInt8) (l : List UInt8) (k : Nat) : List UInt8 := (l.take k).map f ++ l.drop k
theorem mapTo_length (f : UInt8 → UInt8) (l : List UInt8) (k : Nat) : (mapTo f l k).length = l.length := by simp [mapTo]; omega
theorem mapTo_at {f : UInt8 → UInt8} {l : List UInt8} {k : Nat} (h : k < l.length) {h' : k < (mapTo f l k).length} : (mapTo f l k)[k] = l[k] := by
  simp only [mapTo]
  rw [List.getElem_append_right (by simp; omega)]
  simp [Nat.min_eq_left (Nat.le_of_lt h)]
theorem mapTo_set {f : UInt8 → UInt8} {l : List UInt8} {k : Nat} (h : k < l.length) : (mapTo f l k).set k (f l[k]) = mapTo f l (k + 1) := by
  have hl : ((l.take k).map f).length = k := by simp; omega
  simp only [mapTo]
  rw [List.set_append_right _ _ (by omega), hl, Nat.sub_self, List.drop_eq_getElem_cons h, List.take_succ_eq_append_getElem h, List.map_append, List.set_cons_zero, List.append_assoc]
  rfl
theorem mapTo_next {f : UInt8 → UInt8} {l : List UInt8} {k : Nat} (h : k < l.length) (hf : f l[k] = l[k]) : mapTo f l (k + 1) = mapTo f l k := by
  rw [← mapTo_set h, hf]
  conv => lhs; rw [← mapTo_at (f := f) h (h' := by rw [mapTo_length]; exact h)]
  rw [List.set_getElem_self]
theorem mapTo_all (f : UInt8 → UInt8) (l : List UInt8) : mapTo f l l.length = l.map f := by simp [mapTo]
theorem backL_length (l : List UInt8) : (backL l).length ≤ l.length := by
  have := (List.dropWhile_suffix blankB (l := l.reverse)).length_le
  simpa [backL] using this
end Go.Proofs.Ytmjkglmkckofgaa
