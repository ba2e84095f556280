/- Layer 16: layout: members: Member, Find. -/
import Derived.Test.YtfdfjogoiagnkaaZLay
import Derived.Test.YtfdfjogoiagnkaaZCur
import Derived.Deep.RegionHeld3
namespace Go.Proofs.Ytfdfjogoiagnkaa
open Go.RowKit
set_option maxRecDepth 100000

/-- What Get answers. -/
def getR (L : List Ent) (key : V) : V × Int := match L.find? (fun y => decide (y.key = key)) with | none => (V.null, 3) | some x => (x.val, 0)
theorem t_Get {w : World} {F : Nat → Prop} {b : Nat} {L : List Ent} {s : Int} (h : IsT w F b L s) (hs : s < 1073741824) {key : V} (hk : key.t.size ≤ 140737488351232) :
    Calls Try.prog 54 #[.pointer (some ⟨b, 0, none⟩), key.val] w fun e w' => e = .returned (.tuple #[(getR L key).1.val, .int .i64 (getR L key).2]) ∧ Keeps (fun _ => False) w w' := by
  unfold getR
  cases hf : L.find? (fun y => decide (y.key = key)) with
  | none =>
    have h1 := List.find?_eq_none.1 hf
    exact t_Get_none h hs hk (fun x hx e => h1 x hx (by simpa using e))
  | some x =>
    obtain ⟨h1, -⟩ := List.find?_eq_some_iff_append.1 hf
    have e : x.key = key := by simpa using h1
    have := t_Get_some h hs (List.mem_of_find?_eq_some hf)
    rw [e] at this
    exact this
theorem getR_kv {L M : List Ent} (h : L.map Ent.kv = M.map Ent.kv) (key : V) : getR L key = getR M key := by
  induction L generalizing M with
  | nil => cases M with
    | nil => rfl
    | cons y M => simp at h
  | cons x L ih => cases M with
    | nil => simp at h
    | cons y M =>
      simp only [List.map_cons, List.cons.injEq] at h
      have e := Prod.mk.inj h.1
      unfold getR at ih ⊢
      simp only [List.find?_cons]
      rw [e.1]
      cases decide (y.key = key) with
      | true => simp only; rw [e.2]
      | false => exact ih h.2
section
variable {w : World} {F : Nat → Prop} {hb : Nat} {H : List (Option (Nat × Cl))} {s : HSt} {i p : Nat} {c : Cl}
/-- A cell's table: where it is told of, what turns of it. -/
theorem held_tab2 (h : IsHeap w F hb H s) (hi : H[i]? = some (some (p, c))) {tb : Nat} {L : List Ent} {sr : Int} (hc : c.tab = some (tb, L, sr)) :
    ∃ Ft, IsT w Ft tb L sr ∧ w.cell? ⟨p, 3, none⟩ = some (.pointer (some ⟨tb, 0, none⟩)) ∧ p < w.heap.size ∧ ¬ Ft p ∧ F p ∧ (∀ k, Ft k → F k) ∧ ∀ (w1 : World) (F' : Nat → Prop) (L' : List Ent) (sr' : Int), Keeps Ft w w1 → IsT w1 F' tb L' sr' → Fresh Ft F' w → sr' < 1073741000 →
      ∃ F2, IsHeap w1 F2 hb (H.set i (some (p, { c with tab := some (tb, L', sr') }))) s ∧ Keeps F w w1 ∧ Fresh F F2 w := by
  obtain ⟨Fam, vc, vf, hX⟩ := h
  obtain ⟨G, vv, vn, lp, tp, hC⟩ := hX.each i p c hi
  have ht := hC.tab
  rw [hc] at ht
  obtain ⟨rfl, ht⟩ := ht
  refine ⟨G 2, ht, blk_cell hC.blk 3, blk_lt hC.blk, hC.off 2, hX.sub _ p hC.here, fun k hk => hX.sub _ k (hC.sub 2 k hk), fun w1 F' L' sr' hk h1 hf hs => ?_⟩
  obtain ⟨g1, g2, g3⟩ := hC.setTab hk h1 hf hs
  obtain ⟨r1, r2, r3⟩ := hX.setCell hi g2 g1 g3
  exact ⟨_, ⟨_, _, _, r1⟩, r2, r3⟩
theorem new3 (w : World) (o o1 o2 : Obj) : (((w.alloc o).alloc o1).alloc o2).heap[w.heap.size + 1]? = some o1 := by
  have h := blk_alloc (blk_alloc (blk_new (w.alloc o) o1) o2)
  exact (blk_alloc (new2t w o o1) o2)
theorem new3b (w : World) (o o1 o2 : Obj) : (((w.alloc o).alloc o1).alloc o2).heap[w.heap.size + 2]? = some o2 := by
  have := blk_new ((w.alloc o).alloc o1) o2
  simpa using this
set_option maxHeartbeats 4000000 in
theorem lay_Member (h : IsHeap w F hb H s) (hi : H[i]? = some (some (p, c))) (hk : c.kind = 3) {tb : Nat} {L : List Ent} {sr : Int} (hc : c.tab = some (tb, L, sr)) (hs : sr < 1073740000) (t : ByteArray) (key val : V) (h0 : key.k ≠ 0) (hkz : key.t.size ≤ 140737488351232) (hl : L.length < 1048576) :
    Calls Try.prog 19 #[.pointer (some ⟨hb, 0, none⟩), V.val ⟨4, i, t⟩, key.val, val.val] w fun e w' => ∃ F', e = .returned (.int .i64 0) ∧ IsHeap w' F' hb (tabH H i p c tb (putE L sr key val)) s ∧ Keeps F w w' ∧ Fresh F F' w := by
  have CO := hidden (fun (W : World) (hk' : Keeps (fun _ => False) w W) => heap_Of_ok (h.calm hk') hi 3 t (.inr hk))
  unfold V.val at CO
  have hin := hidden h.inw
  have CP := hidden (fun (W : World) (hk' : Keeps (fun _ => False) w W) => show ∃ Ft : Nat → Prop, W.cell? ⟨p, 3, none⟩ = some (.pointer (some ⟨tb, 0, none⟩)) ∧ p < W.heap.size ∧ ¬ Ft p ∧ (∀ k, Ft k → F k) ∧ Calls Try.prog 30 #[.pointer (some ⟨tb, 0, none⟩), key.val, val.val] W fun e w' => ∃ F' : Nat → Prop, e = .returned (.int .i64 0) ∧ IsHeap w' F' hb (tabH H i p c tb (putE L sr key val)) s ∧ Keeps Ft W w' ∧ Fresh F F' W from by
    obtain ⟨Ft, h1, h2, h3, h4, h5, h6, h7⟩ := held_tab2 (h.calm hk') hi hc
    refine ⟨Ft, h2, h3, h4, h6, (t_Put h1 (by omega) val h0 hkz hl).mono ?_⟩
    rintro e w' ⟨F', rfl, g1, g2, g3⟩
    have hz := (putE_len L sr key val).2
    obtain ⟨F2, r1, r2, r3⟩ := h7 w' F' _ _ g2 g1 g3 (by omega)
    exact ⟨F2, rfl, r1, g2, r3⟩)
  clear h hi hk hc
  obtain ⟨kk, kn, kt⟩ := key
  obtain ⟨vk, vn, vt⟩ := val
  generalize tabH H i p c tb (putE L sr ⟨kk, kn, kt⟩ ⟨vk, vn, vt⟩) = H' at *
  refine post_gen fun R hR => ?_
  unfold V.val at CP ⊢
  go_enter Try.func19, Try.ntmps19
  go_wp2_with fail
  refine (CO.out _ (by repeat (first | exact Keeps.refl _ _ | refine Keeps.alloc ?_ _))).mono ?_
  rintro e w1 ⟨rfl, hK⟩
  have HM := hidden (((((Keeps.refl (fun _ => False) w).alloc _).alloc _).alloc _).trans hK (fun _ _ h => h))
  have HV1 := hidden (show IsVar w1 (w.heap.size + 1) ⟨kk, kn, kt⟩ from hK.heap (new3 w _ _ _) (fun h => h))
  have HV2 := hidden (show IsVar w1 (w.heap.size + 2) ⟨vk, vn, vt⟩ from hK.heap (new3b w _ _ _) (fun h => h))
  clear hK CO
  obtain ⟨Ft, -, -, hnp, hsub, -⟩ := CP.out _ HM.out
  go_wp2_with fail
  have SK := hidden (fun (W : World) (hk' : Keeps (fun _ => False) w1 W) => show W.cell? ⟨p, 3, none⟩ = some (.pointer (some ⟨tb, 0, none⟩)) ∧ W.cell? ⟨w.heap.size + 1, 0, none⟩ = some (.int .i64 kk) ∧ W.cell? ⟨w.heap.size + 1, 1, none⟩ = some (.int .i64 kn) ∧ W.cell? ⟨w.heap.size + 1, 2, none⟩ = some (.string kt) ∧ W.cell? ⟨w.heap.size + 2, 0, none⟩ = some (.int .i64 vk) ∧ W.cell? ⟨w.heap.size + 2, 1, none⟩ = some (.int .i64 vn) ∧ W.cell? ⟨w.heap.size + 2, 2, none⟩ = some (.string vt) from by
    obtain ⟨_, a, -⟩ := CP.out _ (HM.out.trans hk' (fun _ _ h => h))
    obtain ⟨b0, b1, b2, -⟩ := (HV1.out.keeps hk' (fun h => h)).cells
    obtain ⟨c0, c1, c2, -⟩ := (HV2.out.keeps hk' (fun h => h)).cells
    exact ⟨a, b0, b1, b2, c0, c1, c2⟩)
  have CPP := hidden (fun (W : World) (hk' : Keeps (fun _ => False) w1 W) => show Calls Try.prog 30 #[.pointer (some ⟨tb, 0, none⟩), .agg #[.int .i64 kk, .int .i64 kn, .string kt], .agg #[.int .i64 vk, .int .i64 vn, .string vt]] W fun e w' => e = .returned (.int .i64 0) ∧ (∃ F' : Nat → Prop, IsHeap w' F' hb H' s ∧ Keeps F w w' ∧ Fresh F F' w) ∧ (W.cell? ⟨p, 3, none⟩ = some (.pointer (some ⟨tb, 0, none⟩)) → w'.cell? ⟨p, 3, none⟩ = some (.pointer (some ⟨tb, 0, none⟩))) ∧ Keeps F W w' from by
    have hkk := HM.out.trans hk' (fun _ _ h => h)
    obtain ⟨Fu, -, -, g3, g4, g5⟩ := CP.out _ hkk
    refine g5.mono ?_
    rintro e w' ⟨F', rfl, r1, r2, r3⟩
    exact ⟨rfl, ⟨F', r1, (hkk.mono (T := F) (fun _ _ h => h.elim)).trans r2 (fun k _ h => g4 k h), fun k h => (r3 k h).imp id (fun h => Nat.le_trans hkk.size h)⟩, fun e => r2.cell e g3, r2.mono (fun k _ h => g4 k h)⟩)
  have NB1 : ¬ F (w.heap.size + 1) := fun h => by have := hin.out _ h; omega
  have NB2 : ¬ F (w.heap.size + 2) := fun h => by have := hin.out _ h; omega
  clear CP HV1 HV2 hnp hsub
  go_region_held3 (fun W => W.cell? ⟨p, 3, none⟩ = some (.pointer (some ⟨tb, 0, none⟩)) ∧ W.cell? ⟨w.heap.size + 1, 0, none⟩ = some (.int .i64 kk) ∧ W.cell? ⟨w.heap.size + 1, 1, none⟩ = some (.int .i64 kn) ∧ W.cell? ⟨w.heap.size + 1, 2, none⟩ = some (.string kt) ∧ W.cell? ⟨w.heap.size + 2, 0, none⟩ = some (.int .i64 vk) ∧ W.cell? ⟨w.heap.size + 2, 1, none⟩ = some (.int .i64 vn) ∧ W.cell? ⟨w.heap.size + 2, 2, none⟩ = some (.string vt)) (first | exact SE.out | exact SK.out _ (Keeps.refl _ _) | exact SK.out _ ((Keeps.refl _ w1).drewN _)) (first | (go_at_call 30; refine (CPP.out _ ((Keeps.refl _ w1).drewN _)).mono ?_; rintro e w2 ⟨rfl, h1, h2, h3⟩; have G1 := hidden h1; have s0 := SK.out _ ((Keeps.refl _ w1).drewN 1); have SE := hidden (show w2.cell? ⟨p, 3, none⟩ = some (.pointer (some ⟨tb, 0, none⟩)) ∧ w2.cell? ⟨w.heap.size + 1, 0, none⟩ = some (.int .i64 kk) ∧ w2.cell? ⟨w.heap.size + 1, 1, none⟩ = some (.int .i64 kn) ∧ w2.cell? ⟨w.heap.size + 1, 2, none⟩ = some (.string kt) ∧ w2.cell? ⟨w.heap.size + 2, 0, none⟩ = some (.int .i64 vk) ∧ w2.cell? ⟨w.heap.size + 2, 1, none⟩ = some (.int .i64 vn) ∧ w2.cell? ⟨w.heap.size + 2, 2, none⟩ = some (.string vt) from ⟨h2 s0.1, h3.cell s0.2.1 NB1, h3.cell s0.2.2.1 NB1, h3.cell s0.2.2.2.1 NB1, h3.cell s0.2.2.2.2.1 NB2, h3.cell s0.2.2.2.2.2.1 NB2, h3.cell s0.2.2.2.2.2.2 NB2⟩); clear h1 h2 h3 s0))
  obtain ⟨F', r1, r2, r3⟩ := G1.out
  clear SE SK CPP
  go_wp2_with fail
  exact hR.out _ _ ⟨F', rfl, r1, r2, r3⟩
end
end Go.Proofs.Ytfdfjogoiagnkaa
