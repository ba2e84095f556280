/- Layer 2: contracts of each, Lower, Upper, Strip. -/
import Derived.Test.YtggkkonigeohhaaStrD
namespace Go.Proofs.Ytggkkonigeohhaa
open Go.RowKit
set_option maxRecDepth 100000

/-- A row of bytes made of a text: block g, what is spare behind it. -/
def BytesAt (w : World) (g : Nat) (l : List UInt8) (sp : Array Value) : Prop := w.heap[g]? = some (.cells ((byteCells l).toArray ++ sp) 5 (l.length + sp.size, l.length + sp.size + 1))
theorem BytesAt.cell {w : World} {g : Nat} {l : List UInt8} {sp : Array Value} (h : BytesAt w g l sp) {k : Nat} (hk : k < l.length) : w.cell? ⟨g, k, none⟩ = some (.int .u8 l[k].toNat) := by
  rw [blk_cell h, Array.getElem?_append_left (by simp [byteCells]; exact hk)]
  simp [byteCells, hk]
theorem BytesAt.frozen {w : World} {g : Nat} {l : List UInt8} {sp : Array Value} (h : BytesAt w g l sp) {k : Nat} (hk : k < l.length) : w.frozen? ⟨g, k, none⟩ = false := by
  simp only [World.frozen?, show w.heap[g]? = _ from h]
  simp; omega
theorem BytesAt.set {w : World} {g : Nat} {l : List UInt8} {sp : Array Value} (h : BytesAt w g l sp) {k : Nat} (hk : k < l.length) (c : UInt8) : BytesAt (w.setCell ⟨g, k, none⟩ (.int .u8 c.toNat)) g (l.set k c) sp := by
  have e : (byteCells l).toArray.setIfInBounds k (.int .u8 c.toNat) = (byteCells (l.set k c)).toArray := by
    simp [byteCells]
  unfold BytesAt at h ⊢
  simp only [World.setCell, Array.getElem?_modify, h]
  simp only [if_true, Option.map_some, List.length_set]
  rw [Array.setIfInBounds_append_left (by simp [byteCells]; exact hk), e]
  simp
theorem bytesAt_new (w : World) (s : ByteArray) : ∃ sp, BytesAt (Lib.bytesWorld w 5 s) w.heap.size s.data.toList sp := by
  refine ⟨Array.replicate (grownCap w s.size 0 5 - s.size) (.int .u8 0), ?_⟩
  unfold BytesAt
  rw [Lib.bytesWorld_at_new]
  have e : (s.data.map fun b => Value.int .u8 b.toNat) = (byteCells s.data.toList).toArray := by
    apply Array.ext'
    simp [byteCells]
  have e2 : s.data.size = s.size := rfl
  simp [Lib.bytesCells, e, byteCells, e2]
theorem Keeps.bytes {S : Nat → Prop} {a w : World} (h : Keeps S a w) (e : TypeId) (s : ByteArray) : Keeps S a (Lib.bytesWorld w e s) := by
  refine ⟨h.os, h.tape, h.output, ?_, fun i hi hn => ?_⟩
  · rw [Lib.bytesWorld_size]; have := h.size; omega
  · rw [Lib.bytesWorld_at_old w e s i (Nat.lt_of_lt_of_le hi h.size)]; exact h.block i hi hn
def eachB (lo hi : Nat) (by' : Int) (c : UInt8) : UInt8 := if lo ≤ c.toNat ∧ c.toNat ≤ hi then UInt8.ofNat (c.toNat + by').toNat else c
theorem eachB_in {lo hi : Nat} {by' : Int} {c : UInt8} (h : lo ≤ c.toNat ∧ c.toNat ≤ hi) (h1 : 0 ≤ lo + by') (h2 : hi + by' ≤ 255) : ((eachB lo hi by' c).toNat : Int) = c.toNat + by' := by
  rw [eachB, if_pos h, UInt8.toNat_ofNat']
  omega
theorem eachB_out {lo hi : Nat} {by' : Int} {c : UInt8} (h : ¬ (lo ≤ c.toNat ∧ c.toNat ≤ hi)) : eachB lo hi by' c = c := by rw [eachB, if_neg h]
/-- The first k turned by f. -/
def mapTo (f : UInt8 → UInt8) (l : List UInt8) (k : Nat) : List UInt8 := (l.take k).map f ++ l.drop k
theorem mapTo_length (f : UInt8 → UInt8) (l : List UInt8) (k : Nat) : (mapTo f l k).length = l.length := by simp [mapTo]; omega
theorem mapTo_at {f : UInt8 → UInt8} {l : List UInt8} {k : Nat} (h : k < l.length) {h' : k < (mapTo f l k).length} : (mapTo f l k)[k] = l[k] := by
  simp only [mapTo]
  rw [List.getElem_append_right (by simp; omega)]
  simp [Nat.min_eq_left (Nat.le_of_lt h)]
theorem mapTo_set {f : UInt8 → UInt8} {l : List UInt8} {k : Nat} (h : k < l.length) : (mapTo f l k).set k (f l[k]) = mapTo f l (k + 1) := by
  have hl : ((l.take k).map f).length = k := by simp; omega
  simp only [mapTo]
  rw [List.set_append_right _ _ (by omega), hl, Nat.sub_self, List.drop_eq_getElem_cons h, List.take_succ_eq_append_getElem h, List.map_append, List.set_cons_zero, List.append_assoc]
  rfl
theorem mapTo_next {f : UInt8 → UInt8} {l : List UInt8} {k : Nat} (h : k < l.length) (hf : f l[k] = l[k]) : mapTo f l (k + 1) = mapTo f l k := by
  rw [← mapTo_set h, hf]
  conv => lhs; rw [← mapTo_at (f := f) h (h' := by rw [mapTo_length]; exact h)]
  rw [List.set_getElem_self]
theorem mapTo_all (f : UInt8 → UInt8) (l : List UInt8) : mapTo f l l.length = l.map f := by simp [mapTo]
set_option maxHeartbeats 1000000 in
theorem str_each (s : ByteArray) (lo hi : Nat) (by' : Int) (w : World) (hs : s.size ≤ 140737488351232) (h1 : 0 ≤ lo + by') (h2 : hi + by' ≤ 255) (h3 : -255 ≤ by') (h4 : by' ≤ 255) :
    Calls Try.prog 38 #[.string s, .int .u8 lo, .int .u8 hi, .int .i64 by'] w fun e w' => e = .returned (.string (mkS (s.data.toList.map (eachB lo hi by')))) ∧ Keeps (fun _ => False) w w' := by
  have kb := Lib.run_convert_string_bytes (P := Try.prog) w 9 46 5 s Try.underlying9 Try.underlying46 Try.underlying5
  obtain ⟨sp, hB⟩ := bytesAt_new w s
  have hK := (Keeps.refl (fun _ => False) w).bytes 5 s
  have LA := hidden (list_len s)
  refine post_gen fun R hR => ?_
  go_enter Try.func38, Try.ntmps38
  have HB := hidden hB
  have HK := hidden hK
  clear hB hK
  go_wp2_with fail
  generalize Lib.bytesWorld w 5 s = w0 at *
  generalize grownCap w s.size 0 5 = cap at *
  go_loopw [16] (fun i wr => ∃ k : Nat, k ≤ s.size ∧ i = .int .i64 k ∧ BytesAt wr w.heap.size (mapTo (eachB lo hi by') s.data.toList k) sp ∧ Keeps (fun _ => False) w wr) (fun i _ => s.size - (intOf i).toNat)
  case atStart => exact ⟨0, Nat.zero_le _, rfl, HB.out, HK.out⟩
  case round =>
    clear HB HK
    obtain ⟨k, hk, rfl, hB, hK⟩ := hrel
    have HB := hidden hB
    have HK := hidden hK
    by_cases hlt : k < s.size
    · have hkl : k < (mapTo (eachB lo hi by') s.data.toList k).length := by rw [mapTo_length, LA.out]; exact hlt
      have hc := hB.cell hkl
      have hf := hB.frozen hkl
      have hg : w.heap.size < wr.heap.size := blk_lt hB
      have HS := hidden (hB.set hkl (eachB lo hi by' s[k]))
      rw [mapTo_at (by rw [LA.out]; exact hlt), at_list s hlt] at hc
      have hM := hidden (mapTo_set (f := eachB lo hi by') (l := s.data.toList) (k := k) (by rw [LA.out]; exact hlt))
      have hN := hidden (mapTo_next (f := eachB lo hi by') (l := s.data.toList) (k := k) (by rw [LA.out]; exact hlt))
      have HA := hidden (at_list s hlt)
      clear hB hK hkl
      by_cases hin : lo ≤ s[k].toNat ∧ s[k].toNat ≤ hi
      · have HE := hidden (eachB_in hin h1 h2)
        obtain ⟨i1, i2⟩ := hin
        have i3 : 0 ≤ (s[k].toNat : Int) + by' := by omega
        have i4 : (s[k].toNat : Int) + by' ≤ 255 := by omega
        go_wp2_with fail
        go_roundw
        case rel =>
          refine ⟨k + 1, by omega, by go_num, ?_, HK.out.setCell (p := ⟨w.heap.size, k, none⟩) (fun h => absurd h (Nat.lt_irrefl _)) _⟩
          have := HS.out
          rw [← HA.out, hM.out, HA.out, HE.out] at this
          exact this
        case measure => simp [intOf]; omega
      · have HE := hidden (eachB_out (by' := by') hin)
        by_cases i1 : lo ≤ s[k].toNat
        · have i2 : ¬ s[k].toNat ≤ hi := by omega
          clear hin
          go_wp2_with fail
          go_roundw
          case rel =>
            refine ⟨k + 1, by omega, by go_num, ?_, HK.out⟩
            rw [hN.out (by rw [HA.out]; exact HE.out)]
            exact HB.out
          case measure => simp [intOf]; omega
        · clear hin
          go_wp2_with fail
          go_roundw
          case rel =>
            refine ⟨k + 1, by omega, by go_num, ?_, HK.out⟩
            rw [hN.out (by rw [HA.out]; exact HE.out)]
            exact HB.out
          case measure => simp [intOf]; omega
    · obtain rfl : k = s.size := by omega
      have hM := mapTo_all (eachB lo hi by') s.data.toList
      rw [LA.out] at hM
      have hl : (s.data.toList.map (eachB lo hi by')).length = s.size := by rw [List.length_map, LA.out]
      rw [hM] at hB HB
      have hrun := run_convert_bytes_back (P := Try.prog) wr 46 9 5 ⟨w.heap.size, 0, none⟩ cap (s.data.toList.map (eachB lo hi by')) Try.underlying46 Try.underlying5 Try.underlying9 (fun j hj => by rw [add_at, Nat.zero_add]; exact hB.cell hj)
      rw [hl] at hrun
      clear hB hM hl
      go_wp2_with fail
      exact hR.out _ _ ⟨rfl, HK.out⟩
theorem str_Lower (s : ByteArray) (w : World) (hs : s.size ≤ 140737488351232) : Calls Try.prog 19 #[.string s] w fun e w' => e = .returned (.string (mkS (s.data.toList.map (eachB 65 90 32)))) ∧ Keeps (fun _ => False) w w' := by
  have key := hidden (str_each s 65 90 32 w hs (by omega) (by omega) (by omega) (by omega))
  refine post_gen fun R hR => ?_
  go_enter Try.func19, Try.ntmps19
  go_wp2_with fail
  refine key.out.mono ?_
  rintro e w' ⟨rfl, hK⟩
  go_wp2_with fail
  exact hR.out _ _ ⟨rfl, hK⟩
theorem str_Upper (s : ByteArray) (w : World) (hs : s.size ≤ 140737488351232) : Calls Try.prog 20 #[.string s] w fun e w' => e = .returned (.string (mkS (s.data.toList.map (eachB 97 122 (-32))))) ∧ Keeps (fun _ => False) w w' := by
  have key := hidden (str_each s 97 122 (-32) w hs (by omega) (by omega) (by omega) (by omega))
  refine post_gen fun R hR => ?_
  go_enter Try.func20, Try.ntmps20
  go_wp2_with fail
  refine key.out.mono ?_
  rintro e w' ⟨rfl, hK⟩
  go_wp2_with fail
  exact hR.out _ _ ⟨rfl, hK⟩
theorem backL_length (l : List UInt8) : (backL l).length ≤ l.length := by
  have := (List.dropWhile_suffix blankB (l := l.reverse)).length_le
  simpa [backL] using this
theorem str_Strip (s : ByteArray) (w : World) (hs : s.size ≤ 140737488351232) : Calls Try.prog 23 #[.string s] w fun e w' => e = .returned (.string (mkS ((backL s.data.toList).dropWhile blankB))) ∧ w = w' := by
  have k1 := hidden (str_Back s w hs)
  have k2 := hidden (str_Front (mkS (backL s.data.toList)) w (by have := backL_length s.data.toList; rw [list_len] at this; show (backL s.data.toList).toArray.size ≤ _; simp; omega))
  have e : (mkS (backL s.data.toList)).data.toList = backL s.data.toList := rfl
  rw [e] at k2
  clear e
  generalize mkS (backL s.data.toList) = b at *
  generalize mkS ((backL s.data.toList).dropWhile blankB) = c at *
  refine post_gen fun R hR => ?_
  go_enter Try.func23, Try.ntmps23
  go_wp2_with fail
  refine k1.out.mono ?_
  rintro e _ ⟨rfl, rfl⟩
  go_wp2_with fail
  refine k2.out.mono ?_
  rintro e _ ⟨rfl, rfl⟩
  go_wp2_with fail
  exact hR.out _ _ ⟨rfl, rfl⟩
end Go.Proofs.Ytggkkonigeohhaa
