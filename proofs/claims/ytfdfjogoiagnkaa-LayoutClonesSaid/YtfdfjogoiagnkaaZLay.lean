/- Layer 16: layout: what Of answers; Base, Of, Method. -/
import Derived.Test.YtfdfjogoiagnkaaZHeapR
namespace Go.Proofs.Ytfdfjogoiagnkaa
open Go.RowKit
set_option maxRecDepth 100000

def classCl (tb : Nat) (L : List Ent) (sr : Int) (b : V) : Cl := ⟨3, [b], none, some (tb, L, sr), [], ⟨#[]⟩⟩
def instCl (tb : Nat) (L : List Ent) (sr : Int) (b : V) : Cl := ⟨4, [b], none, some (tb, L, sr), [], ⟨#[]⟩⟩
/-- What Of answers: where the cell lies, and the error. -/
def ofR (H : Hp) (v : V) (kind : Int) : Option Addr × Int :=
  if v.k = 4 then
    if v.n < 0 ∨ (H.length : Int) ≤ v.n then (none, 1)
    else match atH H v.n.toNat with
      | none => (none, 41)
      | some (p, c) => if kind = 0 ∨ c.kind = kind then (some ⟨p, 0, none⟩, 0) else (none, 30)
  else (none, 30)
section
variable {w : World} {F : Nat → Prop} {hb : Nat} {H : List (Option (Nat × Cl))} {s : HSt} {i p : Nat} {c : Cl}
theorem ofR_ok (hi : H[i]? = some (some (p, c))) (t : ByteArray) {kind : Int} (hk : kind = 0 ∨ c.kind = kind) : ofR H ⟨4, i, t⟩ kind = (some ⟨p, 0, none⟩, 0) := by
  have hil := (List.getElem?_eq_some_iff.1 hi).1
  unfold ofR
  rw [if_pos rfl, if_neg (by simp only; omega)]
  simp only [Int.toNat_natCast]
  rw [atH_some.2 hi]
  simp only
  rw [if_pos hk]
theorem ofR_kind (hi : H[i]? = some (some (p, c))) (t : ByteArray) {kind : Int} (h0 : kind ≠ 0) (hk : c.kind ≠ kind) : ofR H ⟨4, i, t⟩ kind = (none, 30) := by
  have hil := (List.getElem?_eq_some_iff.1 hi).1
  unfold ofR
  rw [if_pos rfl, if_neg (by simp only; omega)]
  simp only [Int.toNat_natCast]
  rw [atH_some.2 hi]
  simp only
  rw [if_neg (fun h => h.elim h0 hk)]
theorem ofR_type {v : V} (hk : v.k ≠ 4) (kind : Int) : ofR H v kind = (none, 30) := by unfold ofR; rw [if_neg hk]
theorem heap_Of (h : IsHeap w F hb H s) (v : V) (kind : Int) :
    Calls Try.prog 24 #[.pointer (some ⟨hb, 0, none⟩), v.val, .int .i64 kind] w fun e w' => e = .returned (.tuple #[.pointer (ofR H v kind).1, .int .i64 (ofR H v kind).2]) ∧ Keeps (fun _ => False) w w' := by
  obtain ⟨k, n, t⟩ := v
  by_cases hk : k = 4
  · subst hk
    by_cases hn : n < 0 ∨ (H.length : Int) ≤ n
    · have e : ofR H ⟨4, n, t⟩ kind = (none, 1) := by unfold ofR; rw [if_pos rfl, if_pos hn]
      rw [e]
      exact heap_Of_none h kind t hn
    · obtain ⟨j, rfl⟩ : ∃ j : Nat, n = j := ⟨n.toNat, by omega⟩
      cases hat : H[j]? with
      | none => rw [List.getElem?_eq_none_iff] at hat; omega
      | some o =>
        cases o with
        | none =>
          have e : ofR H ⟨4, j, t⟩ kind = (none, 41) := by
            unfold ofR
            rw [if_pos rfl, if_neg hn]
            simp only [Int.toNat_natCast, atH, hat, Option.join_some]
          rw [e]
          exact heap_Of_freed h kind t hat
        | some x =>
          obtain ⟨p, c⟩ := x
          by_cases hkk : kind = 0 ∨ c.kind = kind
          · rw [ofR_ok hat t hkk]; exact heap_Of_ok h hat kind t hkk
          · simp only [not_or] at hkk
            rw [ofR_kind hat t hkk.1 hkk.2]; exact heap_Of_kind h hat kind t hkk.1 hkk.2
  · rw [ofR_type hk]; exact heap_Of_type w hb ⟨k, n, t⟩ kind hk
/-- How a cell lies. -/
theorem held_cell (h : IsHeap w F hb H s) (hi : H[i]? = some (some (p, c))) :
    ∃ (A : Option Addr) (cap : Nat) (lp tp An : Option Addr) (cn : Nat), w.heap[p]? = some (.cells #[.int .i64 c.kind, .slice A c.vals.length cap, .pointer lp, .pointer tp, .slice An c.nums.length cn, .string c.text] 41 (0, 0)) ∧
      Vals w A c.vals ∧ Ints w An c.nums ∧ (∀ tb L sr, c.tab = some (tb, L, sr) → tp = some ⟨tb, 0, none⟩) ∧ (c.tab = none → tp = none) ∧ (c.list = none → lp = none) ∧ (A = none → c.vals = []) ∧ (An = none → c.nums = []) := by
  obtain ⟨Fam, vc, vf, hX⟩ := h
  obtain ⟨G, vv, vn, lp, tp, hC⟩ := hX.each i p c hi
  obtain ⟨A, cap, rfl⟩ := hC.vals.form
  obtain ⟨An, cn, rfl⟩ := hC.nums.form
  have h1 := Vals.own hC.vals.1
  have h2 := Ints.own hC.nums.1
  refine ⟨A, cap, lp, tp, An, cn, hC.blk, h1, h2, fun tb L sr e => ?_, fun e => ?_, fun e => ?_, fun e => ?_, fun e => ?_⟩
  · have := hC.tab; rw [e] at this; exact this.1
  · have := hC.tab; rw [e] at this; exact this
  · have := hC.list; rw [e] at this; exact this
  · cases hv : c.vals with
    | nil => rfl
    | cons x l => obtain ⟨b, o, e2, _⟩ := h1 0 x (by rw [hv]; rfl); rw [e] at e2; cases e2
  · cases hv : c.nums with
    | nil => rfl
    | cons x l => obtain ⟨b, o, e2, _⟩ := h2 0 x (by rw [hv]; rfl); rw [e] at e2; cases e2
/-- Its first value, as the walk reads it. -/
theorem held_val0 (h : IsHeap w F hb H s) (hi : H[i]? = some (some (p, c))) {b : V} {bs : List V} (hv : c.vals = b :: bs) : ∃ (g o cap : Nat), p < w.heap.size ∧ g < w.heap.size ∧ w.cell? ⟨p, 1, none⟩ = some (.slice (some ⟨g, o, none⟩) (bs.length + 1) cap) ∧
      w.cell? ⟨g, o, none⟩ = some (.int .i64 b.k) ∧ w.cell? ⟨g, o + 1, none⟩ = some (.int .i64 b.n) ∧ w.cell? ⟨g, o + 2, none⟩ = some (.string b.t) := by
  obtain ⟨A, cap, lp, tp, An, cn, hblk, h1, -⟩ := held_cell h hi
  obtain ⟨g, o, rfl, h2, h3, h4⟩ := h1 0 b (by rw [hv]; rfl)
  rw [Nat.zero_mul, Nat.add_zero] at h2 h3 h4
  have := blk_cell hblk 1
  rw [hv] at this
  exact ⟨g, o, cap, blk_lt hblk, World.block_lt_of_cell? w _ h2, this, h2, h3, h4⟩
theorem var2 (w : World) (o : Obj) (v : V) : IsVar ((w.alloc o).alloc (.cells #[.int .i64 v.k, .int .i64 v.n, .string v.t] 26)) (w.heap.size + 1) v := new2t w o _
theorem lay_Base_ok (h : IsHeap w F hb H s) (hi : H[i]? = some (some (p, c))) (hk : c.kind = 3) {b : V} {bs : List V} (hv : c.vals = b :: bs) (t : ByteArray) :
    Calls Try.prog 16 #[.pointer (some ⟨hb, 0, none⟩), V.val ⟨4, i, t⟩] w fun e w' => e = .returned b.val ∧ Keeps (fun _ => False) w w' := by
  have CO := hidden (fun (W : World) (hk' : Keeps (fun _ => False) w W) => heap_Of_ok (h.calm hk') hi 3 t (.inr hk))
  have HC := hidden (fun (W : World) (hk' : Keeps (fun _ => False) w W) => held_val0 (h.calm hk') hi hv)
  unfold V.val at CO
  clear h hi hk hv
  refine post_gen fun R hR => ?_
  unfold V.val
  go_enter Try.func16, Try.ntmps16
  go_wp2_with fail
  refine (CO.out _ (by repeat (first | exact Keeps.refl _ _ | refine Keeps.alloc ?_ _))).mono ?_
  rintro e w1 ⟨rfl, hK⟩
  have HV := hidden (show IsVar w1 (w.heap.size + 1) V.null from hK.heap (var2 w _ V.null) (fun h => h))
  have HM := hidden ((((Keeps.refl (fun _ => False) w).alloc _).alloc _).trans hK (fun _ _ h => h))
  obtain ⟨g, o, cap, hpz, hgz, y1, q0, q1, q2⟩ := HC.out _ HM.out
  clear hK CO HC
  obtain ⟨v0, v1, v2, v3, v4, v5⟩ := HV.out.cells
  have hvz := blk_lt HV.out
  simp only [V.null] at v0 v1 v2
  go_wp2_with fail
  obtain ⟨d0, d1, d2, _⟩ := (HV.out.set b).cells
  exact bodyPost_ret (v := b.val) (by simp [results, Try.results16, go_sem, d0, d1, d2, V.val]) rfl (hR.out _ _ ⟨rfl, HM.out.var (r := w.heap.size + 1) (fun h => by omega) _ _ _⟩)
theorem lay_Base_no (h : IsHeap w F hb H s) (v : V) (hv : (ofR H v 3).2 ≠ 0) :
    Calls Try.prog 16 #[.pointer (some ⟨hb, 0, none⟩), v.val] w fun e w' => e = .returned (V.val V.null) ∧ Keeps (fun _ => False) w w' := by
  have CO := hidden (fun (W : World) (hk' : Keeps (fun _ => False) w W) => heap_Of (h.calm hk') v 3)
  have CN := hidden (fun (W : World) => value_Null W)
  unfold V.val at CO CN
  unfold V.null at CN
  have hne : ((ofR H v 3).2 != 0) = true := by simpa using hv
  generalize (ofR H v 3).1 = pa at *
  generalize (ofR H v 3).2 = ea at *
  clear h hv
  obtain ⟨k, n, t⟩ := v
  simp only at CO
  refine post_gen fun R hR => ?_
  unfold V.val
  go_enter Try.func16, Try.ntmps16
  go_wp2_with fail
  refine (CO.out _ (by repeat (first | exact Keeps.refl _ _ | refine Keeps.alloc ?_ _))).mono ?_
  rintro e w1 ⟨rfl, hK⟩
  have HV := hidden (show IsVar w1 (w.heap.size + 1) V.null from hK.heap (var2 w _ V.null) (fun h => h))
  have HM := hidden ((((Keeps.refl (fun _ => False) w).alloc _).alloc _).trans hK (fun _ _ h => h))
  clear hK CO
  go_wp2_with fail
  refine (CN.out _).mono ?_
  rintro e w2 ⟨rfl, hK⟩
  have HV2 := hidden (HV.out.keeps hK (fun h => h))
  have HM2 := hidden (HM.out.trans hK (fun _ _ h => h))
  clear hK HV HM
  obtain ⟨v0, v1, v2, v3, v4, v5⟩ := HV2.out.cells
  have hvz := blk_lt HV2.out
  simp only [V.null] at v0 v1 v2
  go_wp2_with fail
  obtain ⟨d0, d1, d2, _⟩ := (HV2.out.set V.null).cells
  simp only [V.null] at d0 d1 d2
  exact bodyPost_ret (v := V.val V.null) (by simp [results, Try.results16, go_sem, d0, d1, d2, V.val, V.null]) rfl (hR.out _ _ ⟨rfl, HM2.out.var (r := w.heap.size + 1) (fun h => by omega) _ _ _⟩)
theorem lay_Of_ok (h : IsHeap w F hb H s) (hi : H[i]? = some (some (p, c))) (hk : c.kind = 4) {b : V} {bs : List V} (hv : c.vals = b :: bs) (t : ByteArray) :
    Calls Try.prog 26 #[.pointer (some ⟨hb, 0, none⟩), V.val ⟨4, i, t⟩] w fun e w' => e = .returned b.val ∧ Keeps (fun _ => False) w w' := by
  have CO := hidden (fun (W : World) (hk' : Keeps (fun _ => False) w W) => heap_Of_ok (h.calm hk') hi 4 t (.inr hk))
  have HC := hidden (fun (W : World) (hk' : Keeps (fun _ => False) w W) => held_val0 (h.calm hk') hi hv)
  unfold V.val at CO
  clear h hi hk hv
  refine post_gen fun R hR => ?_
  unfold V.val
  go_enter Try.func26, Try.ntmps26
  go_wp2_with fail
  refine (CO.out _ (by repeat (first | exact Keeps.refl _ _ | refine Keeps.alloc ?_ _))).mono ?_
  rintro e w1 ⟨rfl, hK⟩
  have HV := hidden (show IsVar w1 (w.heap.size + 1) V.null from hK.heap (var2 w _ V.null) (fun h => h))
  have HM := hidden ((((Keeps.refl (fun _ => False) w).alloc _).alloc _).trans hK (fun _ _ h => h))
  obtain ⟨g, o, cap, hpz, hgz, y1, q0, q1, q2⟩ := HC.out _ HM.out
  clear hK CO HC
  obtain ⟨v0, v1, v2, v3, v4, v5⟩ := HV.out.cells
  have hvz := blk_lt HV.out
  simp only [V.null] at v0 v1 v2
  go_wp2_with fail
  obtain ⟨d0, d1, d2, _⟩ := (HV.out.set b).cells
  exact bodyPost_ret (v := b.val) (by simp [results, Try.results26, go_sem, d0, d1, d2, V.val]) rfl (hR.out _ _ ⟨rfl, HM.out.var (r := w.heap.size + 1) (fun h => by omega) _ _ _⟩)
theorem lay_Of_no (h : IsHeap w F hb H s) (v : V) (hv : (ofR H v 4).2 ≠ 0) :
    Calls Try.prog 26 #[.pointer (some ⟨hb, 0, none⟩), v.val] w fun e w' => e = .returned (V.val V.null) ∧ Keeps (fun _ => False) w w' := by
  have CO := hidden (fun (W : World) (hk' : Keeps (fun _ => False) w W) => heap_Of (h.calm hk') v 4)
  have CN := hidden (fun (W : World) => value_Null W)
  unfold V.val at CO CN
  unfold V.null at CN
  have hne : ((ofR H v 4).2 != 0) = true := by simpa using hv
  generalize (ofR H v 4).1 = pa at *
  generalize (ofR H v 4).2 = ea at *
  clear h hv
  obtain ⟨k, n, t⟩ := v
  simp only at CO
  refine post_gen fun R hR => ?_
  unfold V.val
  go_enter Try.func26, Try.ntmps26
  go_wp2_with fail
  refine (CO.out _ (by repeat (first | exact Keeps.refl _ _ | refine Keeps.alloc ?_ _))).mono ?_
  rintro e w1 ⟨rfl, hK⟩
  have HV := hidden (show IsVar w1 (w.heap.size + 1) V.null from hK.heap (var2 w _ V.null) (fun h => h))
  have HM := hidden ((((Keeps.refl (fun _ => False) w).alloc _).alloc _).trans hK (fun _ _ h => h))
  clear hK CO
  go_wp2_with fail
  refine (CN.out _).mono ?_
  rintro e w2 ⟨rfl, hK⟩
  have HV2 := hidden (HV.out.keeps hK (fun h => h))
  have HM2 := hidden (HM.out.trans hK (fun _ _ h => h))
  clear hK HV HM
  obtain ⟨v0, v1, v2, v3, v4, v5⟩ := HV2.out.cells
  have hvz := blk_lt HV2.out
  simp only [V.null] at v0 v1 v2
  go_wp2_with fail
  obtain ⟨d0, d1, d2, _⟩ := (HV2.out.set V.null).cells
  simp only [V.null] at d0 d1 d2
  exact bodyPost_ret (v := V.val V.null) (by simp [results, Try.results26, go_sem, d0, d1, d2, V.val, V.null]) rfl (hR.out _ _ ⟨rfl, HM2.out.var (r := w.heap.size + 1) (fun h => by omega) _ _ _⟩)
/-- Can it be called? -/
def methB (H : Hp) (v : V) : Bool := (ofR H v 5).2 == 0 || (ofR H v 6).2 == 0
theorem lay_Method (h : IsHeap w F hb H s) (v : V) :
    Calls Try.prog 22 #[.pointer (some ⟨hb, 0, none⟩), v.val] w fun e w' => e = .returned (.bool (methB H v)) ∧ Keeps (fun _ => False) w w' := by
  have CO := hidden (fun (W : World) (hk' : Keeps (fun _ => False) w W) => heap_Of (h.calm hk') v 5)
  have CP := hidden (fun (W : World) (hk' : Keeps (fun _ => False) w W) => heap_Of (h.calm hk') v 6)
  unfold V.val at CO CP
  unfold methB
  generalize (ofR H v 5).1 = pa at *
  generalize (ofR H v 5).2 = ea at *
  generalize (ofR H v 6).1 = pb at *
  generalize (ofR H v 6).2 = eb at *
  clear h
  obtain ⟨k, n, t⟩ := v
  simp only at CO CP
  refine post_gen fun R hR => ?_
  unfold V.val
  go_enter Try.func22, Try.ntmps22
  go_wp2_with fail
  have HI := hidden (IsVar.new w ⟨k, n, t⟩)
  refine (CO.out _ (by repeat (first | exact Keeps.refl _ _ | refine Keeps.alloc ?_ _))).mono ?_
  rintro e w1 ⟨rfl, hK⟩
  have HM := hidden (((Keeps.refl (fun _ => False) w).alloc _).trans hK (fun _ _ h => h))
  obtain ⟨v0, v1, v2, v3, v4, v5⟩ := (HI.out.keeps hK (fun h => h)).cells
  have hvz := blk_lt (HI.out.keeps hK (fun h => h))
  clear hK CO
  go_wp2_with fail
  refine (CP.out _ HM.out).mono ?_
  rintro e w2 ⟨rfl, hK⟩
  have HM2 := hidden (HM.out.trans hK (fun _ _ h => h))
  clear hK CP HM
  by_cases h1 : ea = 0
  · subst h1
    go_wp2_with fail
    exact hR.out _ _ ⟨rfl, HM2.out⟩
  · have h2 : (ea == 0) = false := by simpa using h1
    rw [h2] at hR
    clear h1
    go_wp2_with fail
    exact hR.out _ _ ⟨rfl, HM2.out⟩
end
end Go.Proofs.Ytfdfjogoiagnkaa
