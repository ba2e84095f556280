/- Layer 16: layout: Is, Clone. -/
import Derived.Test.YtfdfjogoiagnkaaZLayE
namespace Go.Proofs.Ytfdfjogoiagnkaa
open Go.RowKit
set_option maxRecDepth 100000

section
variable {w : World} {F : Nat → Prop} {hb : Nat} {H : List (Option (Nat × Cl))} {s : HSt} {i p : Nat} {c : Cl}
set_option maxHeartbeats 8000000 in
theorem lay_Is (h : IsHeap w F hb H s) (hi : H[i]? = some (some (p, c))) (hk : c.kind = 4) {b : V} {bs : List V} (hv : c.vals = b :: bs) {l : List V} (hch : Chain H b l) {j q : Nat} {cd : Cl} (hd : H[j]? = some (some (q, cd))) (hdk : cd.kind = 3) :
    Calls Try.prog 27 #[.pointer (some ⟨hb, 0, none⟩), V.val ⟨4, i, ⟨#[]⟩⟩, V.val ⟨4, j, ⟨#[]⟩⟩] w fun e w' => e = .returned (.tuple #[.bool (decide (rV (j : Nat) ∈ l)), .int .i64 0]) ∧ Keeps (fun _ => False) w w' := by
  have CO := hidden (fun (W : World) (hk' : Keeps (fun _ => False) w W) => heap_Of_ok (h.calm hk') hd 3 ⟨#[]⟩ (.inr hdk))
  have CF := hidden (fun (W : World) (hk' : Keeps (fun _ => False) w W) => lay_Of_ok (h.calm hk') hi hk hv ⟨#[]⟩)
  have CB := hidden (fun (W : World) (hk' : Keeps (fun _ => False) w W) (i p : Nat) (c : Cl) (b : V) (bs : List V) (hi : H[i]? = some (some (p, c))) (hk : c.kind = 3) (hv : c.vals = b :: bs) => lay_Base_ok (h.calm hk') hi hk hv ⟨#[]⟩)
  have CS := hidden (fun (W : World) (a b : V) => value_Same a b W)
  unfold V.val at CO CF CB CS
  have HCH := hidden hch
  clear h hi hk hv hd hdk hch
  refine post_gen fun R hR => ?_
  unfold V.val
  go_enter Try.func27, Try.ntmps27
  go_wp2_with fail
  refine (CO.out _ (by repeat (first | exact Keeps.refl _ _ | refine Keeps.alloc ?_ _))).mono ?_
  rintro e w1 ⟨rfl, hK⟩
  have HM1 := hidden ((((Keeps.refl (fun _ => False) w).alloc _).alloc _).trans hK (fun _ _ h => h))
  have HD1 := hidden (show IsVar w1 (w.heap.size + 1) ⟨4, j, ⟨#[]⟩⟩ from hK.heap (new2t w _ _) (fun h => h))
  have HB1 := hidden (show IsVar w1 w.heap.size ⟨4, i, ⟨#[]⟩⟩ from hK.heap (blk_alloc (blk_new w _) _) (fun h => h))
  clear hK CO
  obtain ⟨b0, b1, b2, -⟩ := HB1.out.cells
  have hbz := blk_lt HB1.out
  simp only at b0 b1 b2
  go_wp2_with fail
  refine (CF.out _ HM1.out).mono ?_
  rintro e w2 ⟨rfl, hK⟩
  have HM2 := hidden (HM1.out.trans hK (fun _ _ h => h))
  have HD2 := hidden (HD1.out.keeps hK (fun h => h))
  clear hK HM1 HD1 HB1 b0 b1 b2 hbz CF
  obtain ⟨bk, bn, bt⟩ := b
  simp only
  go_wp2_with fail
  have HM3 := hidden (HM2.out.alloc (.cells #[.int .i64 bk, .int .i64 bn, .string bt] 26))
  have HD3 := hidden (show IsVar (w2.alloc (.cells #[.int .i64 bk, .int .i64 bn, .string bt] 26)) (w.heap.size + 1) ⟨4, j, ⟨#[]⟩⟩ from blk_alloc HD2.out _)
  have HX3 := hidden (IsVar.new w2 ⟨bk, bn, bt⟩)
  have hge3 : w.heap.size ≤ w2.heap.size := HM2.out.size
  clear HM2 HD2
  simp only at HX3
  go_loopg [10] l.length (fun g u wr => ∃ (vb : Nat) (x : V) (l' : List V), l'.length ≤ g ∧ u = .pointer (some ⟨vb, 0, none⟩) ∧ IsVar wr vb x ∧ Chain H x l' ∧ (rV (j : Nat) ∈ l ↔ rV (j : Nat) ∈ l') ∧ Keeps (fun _ => False) w wr ∧ IsVar wr (w.heap.size + 1) ⟨4, j, ⟨#[]⟩⟩)
  case atStart => exact ⟨_, ⟨bk, bn, bt⟩, l, Nat.le_refl _, rfl, HX3.out, HCH.out, Iff.rfl, HM3.out, HD3.out⟩
  case round =>
    clear HX3 HCH HM3 HD3 hge3
    obtain ⟨vb, x, l', hle, rfl, hX, hch, hmem, hK, hD⟩ := hrel
    have HX := hidden hX
    have HMEM := hidden hmem
    have HM := hidden hK
    have HD := hidden hD
    clear hX hmem hK hD
    obtain ⟨a0, a1, a2, -⟩ := HX.out.cells
    have haz := blk_lt HX.out
    obtain ⟨e0, e1, e2, -⟩ := HD.out.cells
    have hez := blk_lt HD.out
    simp only at e0 e1 e2
    cases hch with
    | nil hk =>
      rw [hk] at a0
      clear hk
      have hf : decide (rV (j : Nat) ∈ l) = false := by rw [decide_eq_false_iff_not, HMEM.out]; simp
      rw [hf] at hR
      go_wp2_with fail
      exact hR.out _ _ ⟨rfl, HM.out⟩
    | @cons i2 p2 c2 b2 bs2 l2 hi hk hv ht =>
      have C2 := hidden (fun (W : World) (hk' : Keeps (fun _ => False) w W) => CB.out W hk' i2 p2 c2 b2 bs2 hi hk hv)
      have HT := hidden ht
      clear hi hk hv ht
      simp only [rV] at a0 a1 a2
      obtain ⟨ck, cn, ct⟩ := b2
      simp only at C2
      by_cases he : (⟨4, (i2 : Nat), ⟨#[]⟩⟩ : V) = ⟨4, (j : Nat), ⟨#[]⟩⟩
      · have hS := hidden (fun (W : World) => CS.out W ⟨4, i2, ⟨#[]⟩⟩ ⟨4, j, ⟨#[]⟩⟩)
        rw [decide_eq_true he] at hS
        have hf : decide (rV (j : Nat) ∈ l) = true := by rw [decide_eq_true_iff, HMEM.out]; exact List.mem_cons.2 (.inl he.symm)
        rw [hf] at hR
        clear he hf
        go_wp2_with fail
        refine (hS.out _).mono ?_
        rintro e w4 ⟨rfl, hK⟩
        have HM4 := hidden (HM.out.trans hK (fun _ _ h => h))
        clear hK
        go_wp2_with fail
        exact hR.out _ _ ⟨rfl, HM4.out⟩
      · have hS := hidden (fun (W : World) => CS.out W ⟨4, i2, ⟨#[]⟩⟩ ⟨4, j, ⟨#[]⟩⟩)
        rw [decide_eq_false he] at hS
        have HMEM2 := hidden (show rV (j : Nat) ∈ l ↔ rV (j : Nat) ∈ l2 from HMEM.out.trans ⟨fun h => (List.mem_cons.1 h).elim (fun e => absurd e.symm he) id, fun h => List.mem_cons.2 (.inr h)⟩)
        have hle2 := hle
        rw [List.length_cons] at hle2
        clear he HMEM hle
        go_wp2_with fail
        refine (hS.out _).mono ?_
        rintro e w4 ⟨rfl, hK⟩
        have HM4 := hidden (HM.out.trans hK (fun _ _ h => h))
        have HD4 := hidden (HD.out.keeps hK (fun h => h))
        have HX4 := hidden (HX.out.keeps hK (fun h => h))
        clear hK HM HD HX a0 a1 a2 haz e0 e1 e2 hez
        obtain ⟨a0, a1, a2, -⟩ := HX4.out.cells
        have haz := blk_lt HX4.out
        simp only [rV] at a0 a1 a2
        go_wp2_with fail
        refine (C2.out _ (HM4.out.alloc _)).mono ?_
        rintro e w5 ⟨rfl, hK⟩
        have HV5 := hidden (show IsVar w5 w4.heap.size ⟨4, i2, ⟨#[]⟩⟩ from hK.heap (blk_new w4 _) (fun h => h))
        have HM5 := hidden ((HM4.out.alloc _).trans hK (fun _ _ h => h))
        have HD5 := hidden (HD4.out.keeps (((Keeps.refl (fun _ => False) w4).alloc _).trans hK (fun _ _ h => h)) (fun h => h))
        have hz4 := hidden HM4.out.size
        have hz4b := hidden (blk_lt HD4.out)
        clear hK HM4 HD4 HX4 a0 a1 a2 haz
        obtain ⟨v0, v1, v2, v3, v4, v5⟩ := HV5.out.cells
        have hvz := blk_lt HV5.out
        simp only at v0 v1 v2
        go_wp2_with fail
        go_roundg l2.length
        case measure => omega
        case rel => exact ⟨w4.heap.size, ⟨ck, cn, ct⟩, l2, Nat.le_refl _, rfl, HV5.out.set ⟨ck, cn, ct⟩, HT.out, HMEM2.out, HM5.out.var (r := w4.heap.size) (fun h => by have := hz4.out; omega) _ _ _, HD5.out.keeps ((Keeps.refl (fun k => k = w4.heap.size) w5).var (r := w4.heap.size) (fun _ => rfl) _ _ _) (fun h => by have := hz4b.out; omega)⟩
end
end Go.Proofs.Ytfdfjogoiagnkaa
