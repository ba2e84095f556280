/- Layer 16: layout: Find; what comes from what: bases. -/
import Derived.Test.YtfdfjogoiagnkaaZLayB
namespace Go.Proofs.Ytfdfjogoiagnkaa
open Go.RowKit
set_option maxRecDepth 100000

/-- A class and what it comes from. -/
inductive Chain (H : Hp) : V → List V → Prop where
  | nil {v : V} (h : v.k = 0) : Chain H v []
  | cons {i p : Nat} {c : Cl} {b : V} {bs l : List V} (hi : H[i]? = some (some (p, c))) (hk : c.kind = 3) (hv : c.vals = b :: bs) (ht : Chain H b l) : Chain H (rV (i : Nat)) (rV (i : Nat) :: l)
/-- What Of answers of such a one. -/
def StB (H : Hp) (l : List V) (pa : Option Addr) (ea : Int) : Prop :=
  (l = [] ∧ pa = none ∧ ea = 30) ∨ ∃ (i p : Nat) (c : Cl) (b : V) (bs l' : List V), l = rV (i : Nat) :: l' ∧ H[i]? = some (some (p, c)) ∧ c.vals = b :: bs ∧ Chain H b l' ∧ pa = some ⟨p, 0, none⟩ ∧ ea = 0
section
variable {w : World} {F : Nat → Prop} {hb : Nat} {H : List (Option (Nat × Cl))} {s : HSt} {i p : Nat} {c : Cl}
theorem chain_Of (h : IsHeap w F hb H s) {v : V} {l : List V} (hc : Chain H v l) :
    Calls Try.prog 24 #[.pointer (some ⟨hb, 0, none⟩), v.val, .int .i64 3] w fun e w' => (∃ pa ea, e = .returned (.tuple #[.pointer pa, .int .i64 ea]) ∧ StB H l pa ea) ∧ Keeps (fun _ => False) w w' := by
  cases hc with
  | nil hk => exact (heap_Of_type w hb v 3 (by rw [hk]; decide)).mono fun e w' h => ⟨⟨_, _, h.1, .inl ⟨rfl, rfl, rfl⟩⟩, h.2⟩
  | cons hi hk hv ht => exact (heap_Of_ok h hi 3 ⟨#[]⟩ (.inr hk)).mono fun e w' h => ⟨⟨_, _, h.1, .inr ⟨_, _, _, _, _, _, rfl, hi, hv, ht, rfl, rfl⟩⟩, h.2⟩
set_option maxHeartbeats 2000000 in
theorem lay_bases (h : IsHeap w F hb H s) {v : V} {l : List V} (hc : Chain H v l) (hl : l.length ≤ 1152921504606846976) :
    Calls Try.prog 50 #[.pointer (some ⟨hb, 0, none⟩), v.val] w fun e w' => e = .returned (.int .i64 l.length) ∧ Keeps (fun _ => False) w w' := by
  have CO := hidden (fun (W : World) (hk' : Keeps (fun _ => False) w W) => chain_Of (h.calm hk') hc)
  have CB := hidden (fun (W : World) (hk' : Keeps (fun _ => False) w W) (b : V) (l' : List V) (hb' : Chain H b l') => chain_Of (h.calm hk') hb')
  have HC := hidden (fun (W : World) (hk' : Keeps (fun _ => False) w W) (i p : Nat) (c : Cl) (b : V) (bs : List V) (hi : H[i]? = some (some (p, c))) (hv : c.vals = b :: bs) => held_val0 (h.calm hk') hi hv)
  unfold V.val at CO CB
  clear h hc
  obtain ⟨vk, vn, vt⟩ := v
  simp only at CO
  refine post_gen fun R hR => ?_
  unfold V.val
  go_enter Try.func50, Try.ntmps50
  go_wp2_with fail
  refine (CO.out _ (by repeat (first | exact Keeps.refl _ _ | refine Keeps.alloc ?_ _))).mono ?_
  rintro e w1 ⟨⟨pa, ea, rfl, hSt⟩, hK⟩
  have ST := hidden hSt
  have HM := hidden (((Keeps.refl (fun _ => False) w).alloc _).trans hK (fun _ _ h => h))
  clear hSt hK CO
  go_wp2_with fail
  go_loopw [5, 6, 7] (fun n c e wr => ∃ (k : Nat) (l' : List V) (pa : Option Addr) (ea : Int), k + l'.length = l.length ∧ n = .int .i64 k ∧ c = .pointer pa ∧ e = .int .i64 ea ∧ StB H l' pa ea ∧ Keeps (fun _ => False) w wr) (fun n _ _ _ => l.length - (intOf n).toNat)
  case atStart => exact ⟨0, l, _, _, by simp, rfl, rfl, rfl, ST.out, HM.out⟩
  case round =>
    obtain ⟨k, l', pa, ea, hkl, rfl, rfl, rfl, hSt, hK⟩ := hrel
    clear HM ST
    have HK := hidden hK
    clear hK
    rcases hSt with ⟨rfl, rfl, rfl⟩ | ⟨i, p, c, b, bs, l2, rfl, hi, hv, hch, rfl, rfl⟩
    · go_wp2_with fail
      exact hR.out _ _ ⟨ret_int (by simp at hkl; omega), HK.out⟩
    · obtain ⟨g, o, cap, hpz, hgz, y1, q0, q1, q2⟩ := HC.out _ HK.out i p c b bs hi hv
      have C2 := hidden (fun (W : World) (hk' : Keeps (fun _ => False) w W) => CB.out W hk' b l2 hch)
      clear hi hv hch
      obtain ⟨bk, bn, bt⟩ := b
      simp only at C2 q0 q1 q2
      have hk2 : k + 1 + l2.length = l.length := by rw [← hkl]; simp; omega
      have HKL := hidden hk2
      have hkb : k < l.length := by omega
      clear hkl hk2
      go_wp2_with fail
      refine (C2.out _ HK.out).mono ?_
      rintro e w2 ⟨⟨pa, ea, rfl, hSt⟩, hK⟩
      have ST := hidden hSt
      have HK2 := hidden (HK.out.trans hK (fun _ _ h => h))
      clear hSt hK
      go_wp2_with fail
      go_roundw
      case rel => exact ⟨k + 1, l2, _, _, HKL.out, by go_num, rfl, rfl, ST.out, HK2.out⟩
      case measure => simp [intOf]; omega
set_option maxHeartbeats 2000000 in
theorem lay_Find (h : IsHeap w F hb H s) (hi : H[i]? = some (some (p, c))) (hk : c.kind = 3) {tb : Nat} {L : List Ent} {sr : Int} (hc : c.tab = some (tb, L, sr)) (hs : sr < 1073741824) (t : ByteArray) (key : V) (hkz : key.t.size ≤ 140737488351232) :
    Calls Try.prog 21 #[.pointer (some ⟨hb, 0, none⟩), V.val ⟨4, i, t⟩, key.val] w fun e w' => e = .returned (.tuple #[(getR L key).1.val, .int .i64 (getR L key).2]) ∧ Keeps (fun _ => False) w w' := by
  have CO := hidden (fun (W : World) (hk' : Keeps (fun _ => False) w W) => heap_Of_ok (h.calm hk') hi 3 t (.inr hk))
  unfold V.val at CO
  have CG := hidden (fun (W : World) (hk' : Keeps (fun _ => False) w W) => show W.cell? ⟨p, 3, none⟩ = some (.pointer (some ⟨tb, 0, none⟩)) ∧ p < W.heap.size ∧ Calls Try.prog 54 #[.pointer (some ⟨tb, 0, none⟩), key.val] W fun e w' => e = .returned (.tuple #[(getR L key).1.val, .int .i64 (getR L key).2]) ∧ Keeps (fun _ => False) W w' from by
    obtain ⟨Ft, h1, h2, h3, h4, h5, h6, h7⟩ := held_tab2 (h.calm hk') hi hc
    exact ⟨h2, h3, t_Get h1 hs hkz⟩)
  have hpw := (CG.out _ (Keeps.refl _ w)).2.1
  clear h hi hk hc
  generalize getR L key = gg at *
  obtain ⟨⟨gk, gn, gt⟩, ge⟩ := gg
  obtain ⟨kk, kn, kt⟩ := key
  simp only at CG
  refine post_gen fun R hR => ?_
  unfold V.val at CG ⊢
  go_enter Try.func21, Try.ntmps21
  go_wp2_with fail
  refine (CO.out _ (by repeat (first | exact Keeps.refl _ _ | refine Keeps.alloc ?_ _))).mono ?_
  rintro e w1 ⟨rfl, hK⟩
  have HM := hidden (((((Keeps.refl (fun _ => False) w).alloc _).alloc _).alloc _).trans hK (fun _ _ h => h))
  have HV1 := hidden (show IsVar w1 (w.heap.size + 1) ⟨kk, kn, kt⟩ from hK.heap (new3 w _ _ _) (fun h => h))
  have HV2 := hidden (show IsVar w1 (w.heap.size + 2) V.null from hK.heap (new3b w _ _ _) (fun h => h))
  clear hK CO
  go_wp2_with fail
  have SK := hidden (fun (W : World) (hk' : Keeps (fun _ => False) w1 W) => show W.cell? ⟨p, 3, none⟩ = some (.pointer (some ⟨tb, 0, none⟩)) ∧ W.cell? ⟨w.heap.size + 1, 0, none⟩ = some (.int .i64 kk) ∧ W.cell? ⟨w.heap.size + 1, 1, none⟩ = some (.int .i64 kn) ∧ W.cell? ⟨w.heap.size + 1, 2, none⟩ = some (.string kt) from by
    obtain ⟨a, -, -⟩ := CG.out _ (HM.out.trans hk' (fun _ _ h => h))
    obtain ⟨b0, b1, b2, -⟩ := (HV1.out.keeps hk' (fun h => h)).cells
    exact ⟨a, b0, b1, b2⟩)
  have CGG := hidden (fun (W : World) (hk' : Keeps (fun _ => False) w1 W) => (CG.out W (HM.out.trans hk' (fun _ _ h => h))).2.2)
  have hne1 : p ≠ w.heap.size + 2 := by omega
  clear CG HV1
  go_region_held3 (fun W => W.cell? ⟨p, 3, none⟩ = some (.pointer (some ⟨tb, 0, none⟩)) ∧ W.cell? ⟨w.heap.size + 1, 0, none⟩ = some (.int .i64 kk) ∧ W.cell? ⟨w.heap.size + 1, 1, none⟩ = some (.int .i64 kn) ∧ W.cell? ⟨w.heap.size + 1, 2, none⟩ = some (.string kt)) (first | exact SP.out _ _ _ | exact SK.out _ K2.out | exact SK.out _ (Keeps.refl _ _) | exact SK.out _ ((Keeps.refl _ w1).drewN _)) (first | (go_at_call 54; refine (CGG.out _ ((Keeps.refl _ w1).drewN _)).mono ?_; rintro e w2 ⟨rfl, h1⟩; have K2 := hidden (((Keeps.refl (fun _ => False) w1).drewN _).trans h1 (fun _ _ h => h)); have VR := hidden (HV2.out.keeps K2.out (fun h => h)); have SP := hidden (fun (x y z : Value) => show (((w2.setCell ⟨w.heap.size + 2, 0, none⟩ x).setCell ⟨w.heap.size + 2, 1, none⟩ y).setCell ⟨w.heap.size + 2, 2, none⟩ z).cell? ⟨p, 3, none⟩ = some (.pointer (some ⟨tb, 0, none⟩)) ∧ (((w2.setCell ⟨w.heap.size + 2, 0, none⟩ x).setCell ⟨w.heap.size + 2, 1, none⟩ y).setCell ⟨w.heap.size + 2, 2, none⟩ z).cell? ⟨w.heap.size + 1, 0, none⟩ = some (.int .i64 kk) ∧ (((w2.setCell ⟨w.heap.size + 2, 0, none⟩ x).setCell ⟨w.heap.size + 2, 1, none⟩ y).setCell ⟨w.heap.size + 2, 2, none⟩ z).cell? ⟨w.heap.size + 1, 1, none⟩ = some (.int .i64 kn) ∧ (((w2.setCell ⟨w.heap.size + 2, 0, none⟩ x).setCell ⟨w.heap.size + 2, 1, none⟩ y).setCell ⟨w.heap.size + 2, 2, none⟩ z).cell? ⟨w.heap.size + 1, 2, none⟩ = some (.string kt) from (have s0 := SK.out _ K2.out; have kv := (Keeps.refl (fun k => k = w.heap.size + 2) w2).var (r := w.heap.size + 2) (fun _ => rfl) x y z; ⟨kv.cell s0.1 hne1, kv.cell s0.2.1 (by simp), kv.cell s0.2.2.1 (by simp), kv.cell s0.2.2.2 (by simp)⟩)); obtain ⟨v0, v1, v2, v3, v4, v5⟩ := VR.out.cells; have hvz := blk_lt VR.out; simp only [V.null] at v0 v1 v2; clear h1))
  go_wp2_with fail
  obtain ⟨d0, d1, d2, _⟩ := (VR.out.set ⟨gk, gn, gt⟩).cells
  simp only at d0 d1 d2
  exact bodyPost_ret (v := .tuple #[V.val ⟨gk, gn, gt⟩, .int .i64 ge]) (by simp [results, Try.results21, go_sem, d0, d1, d2, V.val]) rfl (hR.out _ _ ⟨rfl, (HM.out.trans K2.out (fun _ _ h => h)).var (r := w.heap.size + 2) (fun h => by omega) _ _ _⟩)
end
end Go.Proofs.Ytfdfjogoiagnkaa
