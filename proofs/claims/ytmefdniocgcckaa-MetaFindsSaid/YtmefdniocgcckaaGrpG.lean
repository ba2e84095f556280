/- Texts that belong together: SlotA SlotB SlotC SlotD SlotE MetaA MetaB. -/
import Derived.Test.YtmefdniocgcckaaGrpF
import Derived.Deep.CutBlock
import Derived.Deep.DeepCutAuto
import Derived.Test.YtmefdniocgcckaaZSameV
set_option linter.unusedSimpArgs false
set_option linter.unusedVariables false
/- Layer 17: slot: Delegate, New. -/
namespace Go.Proofs.Ytmefdniocgcckaa
open Go.RowKit
set_option maxRecDepth 100000

section
variable {w : World} {F : Nat → Prop} {hb : Nat} {H : List (Option (Nat × Cl))} {s : HSt} {i p : Nat} {c : Cl}
theorem slot_Delegate_ok (h : IsHeap w F hb H s) (hi : H[i]? = some (some (p, c))) (hk : c.kind = 2) {b : V} {bs : List V} (hv : c.vals = b :: bs) (t : ByteArray) :
    Calls Try.prog 35 #[.pointer (some ⟨hb, 0, none⟩), V.val ⟨4, i, t⟩] w fun e w' => e = .returned (.tuple #[b.val, .int .i64 0]) ∧ Keeps (fun _ => False) w w' := by
  have CO := hidden (fun (W : World) (hk' : Keeps (fun _ => False) w W) => heap_Of_ok (h.calm hk') hi 2 t (.inr hk))
  have HC := hidden (fun (W : World) (hk' : Keeps (fun _ => False) w W) => held_val0 (h.calm hk') hi hv)
  unfold V.val at CO
  clear h hi hk hv
  refine post_gen fun R hR => ?_
  unfold V.val
  go_enter Try.func35, Try.ntmps35
  go_wp2_with fail
  refine (CO.out _ (by repeat (first | exact Keeps.refl _ _ | refine Keeps.alloc ?_ _))).mono ?_
  rintro e w1 ⟨rfl, hK⟩
  have HV := hidden (show IsVar w1 (w.heap.size + 1) V.null from hK.heap (var2 w _ V.null) (fun h => h))
  have HM := hidden ((((Keeps.refl (fun _ => False) w).alloc _).alloc _).trans hK (fun _ _ h => h))
  obtain ⟨g, o, cap, hpz, hgz, y1, q0, q1, q2⟩ := HC.out _ HM.out
  clear hK CO HC
  obtain ⟨v0, v1, v2, v3, v4, v5⟩ := HV.out.cells
  have hvz := blk_lt HV.out
  simp only [V.null] at v0 v1 v2
  go_wp2_with fail
  obtain ⟨d0, d1, d2, _⟩ := (HV.out.set b).cells
  exact bodyPost_ret (v := .tuple #[b.val, .int .i64 0]) (by simp [results, Try.results35, go_sem, d0, d1, d2, V.val]) rfl (hR.out _ _ ⟨rfl, HM.out.var (r := w.heap.size + 1) (fun h => by omega) _ _ _⟩)
theorem slot_Delegate_no (h : IsHeap w F hb H s) (v : V) (hv : (ofR H v 2).2 ≠ 0) :
    Calls Try.prog 35 #[.pointer (some ⟨hb, 0, none⟩), v.val] w fun e w' => e = .returned (.tuple #[V.val V.null, .int .i64 30]) ∧ Keeps (fun _ => False) w w' := by
  have CO := hidden (fun (W : World) (hk' : Keeps (fun _ => False) w W) => heap_Of (h.calm hk') v 2)
  have CN := hidden (fun (W : World) => value_Null W)
  unfold V.val at CO CN
  unfold V.null at CN
  have hne : ((ofR H v 2).2 != 0) = true := by simpa using hv
  generalize (ofR H v 2).1 = pa at *
  generalize (ofR H v 2).2 = ea at *
  clear h hv
  obtain ⟨k, n, t⟩ := v
  simp only at CO
  refine post_gen fun R hR => ?_
  unfold V.val
  go_enter Try.func35, Try.ntmps35
  go_wp2_with fail
  refine (CO.out _ (by repeat (first | exact Keeps.refl _ _ | refine Keeps.alloc ?_ _))).mono ?_
  rintro e w1 ⟨rfl, hK⟩
  have HV := hidden (show IsVar w1 (w.heap.size + 1) V.null from hK.heap (var2 w _ V.null) (fun h => h))
  have HM := hidden ((((Keeps.refl (fun _ => False) w).alloc _).alloc _).trans hK (fun _ _ h => h))
  clear hK CO
  go_wp2_with fail
  refine (CN.out _).mono ?_
  rintro e w2 ⟨rfl, hK⟩
  have HV2 := hidden (HV.out.keeps hK (fun h => h))
  have HM2 := hidden (HM.out.trans hK (fun _ _ h => h))
  clear hK HV HM
  obtain ⟨v0, v1, v2, v3, v4, v5⟩ := HV2.out.cells
  have hvz := blk_lt HV2.out
  simp only [V.null] at v0 v1 v2
  go_wp2_with fail
  obtain ⟨d0, d1, d2, _⟩ := (HV2.out.set V.null).cells
  simp only [V.null] at d0 d1 d2
  exact bodyPost_ret (v := .tuple #[V.val V.null, .int .i64 30]) (by simp [results, Try.results35, go_sem, d0, d1, d2, V.val, V.null]) rfl (hR.out _ _ ⟨rfl, HM2.out.var (r := w.heap.size + 1) (fun h => by omega) _ _ _⟩)
set_option maxHeartbeats 4000000 in
theorem slot_New (h : IsHeap w F hb H s) (hi : H[i]? = some (some (p, c))) (hk : c.kind = 2 ∨ c.kind = 3) {tb : Nat} {L : List Ent} {sr : Int} (hc : c.tab = some (tb, L, sr)) (hs : sr < 1073740000) (t : ByteArray) (key val : V) (h0 : key.k ≠ 0) (hkz : key.t.size ≤ 140737488351232) (hl : L.length < 1048576) :
    Calls Try.prog 17 #[.pointer (some ⟨hb, 0, none⟩), V.val ⟨4, i, t⟩, key.val, val.val] w fun e w' => ∃ F', e = .returned (.int .i64 0) ∧ IsHeap w' F' hb (tabH H i p c tb (putE L sr key val)) s ∧ Keeps F w w' ∧ Fresh F F' w := by
  have CO := hidden (fun (W : World) (hk' : Keeps (fun _ => False) w W) => heap_Of_ok (h.calm hk') hi 0 t (.inl rfl))
  unfold V.val at CO
  have hin := hidden h.inw
  have CP := hidden (fun (W : World) (hk' : Keeps (fun _ => False) w W) => show ∃ Ft : Nat → Prop, W.cell? ⟨p, 3, none⟩ = some (.pointer (some ⟨tb, 0, none⟩)) ∧ p < W.heap.size ∧ ¬ Ft p ∧ (∀ k, Ft k → F k) ∧ Calls Try.prog 37 #[.pointer (some ⟨tb, 0, none⟩), key.val, val.val] W fun e w' => ∃ F' : Nat → Prop, e = .returned (.int .i64 0) ∧ IsHeap w' F' hb (tabH H i p c tb (putE L sr key val)) s ∧ Keeps Ft W w' ∧ Fresh F F' W from by
    obtain ⟨Ft, h1, h2, h3, h4, h5, h6, h7⟩ := held_tab2 (h.calm hk') hi hc
    refine ⟨Ft, h2, h3, h4, h6, (t_Put h1 (by omega) val h0 hkz hl).mono ?_⟩
    rintro e w' ⟨F', rfl, g1, g2, g3⟩
    have hz := (putE_len L sr key val).2
    obtain ⟨F2, r1, r2, r3⟩ := h7 w' F' _ _ g2 g1 g3 (by omega)
    exact ⟨F2, rfl, r1, g2, r3⟩)
  have HP := hidden (fun (W : World) (hk' : Keeps (fun _ => False) w W) => show W.cell? ⟨p, 0, none⟩ = some (.int .i64 c.kind) ∧ p < W.heap.size from (by
    obtain ⟨A, cap, lp, tp, An, cn, hblk, -⟩ := held_cell (h.calm hk') hi
    exact ⟨blk_cell hblk 0, blk_lt hblk⟩))
  clear h hi hc
  obtain ⟨kk, kn, kt⟩ := key
  obtain ⟨vk, vn, vt⟩ := val
  generalize tabH H i p c tb (putE L sr ⟨kk, kn, kt⟩ ⟨vk, vn, vt⟩) = H' at *
  refine post_gen fun R hR => ?_
  unfold V.val at CP ⊢
  go_enter Try.func17, Try.ntmps17
  go_wp2_with fail
  refine (CO.out _ (by repeat (first | exact Keeps.refl _ _ | refine Keeps.alloc ?_ _))).mono ?_
  rintro e w1 ⟨rfl, hK⟩
  have HM := hidden (((((Keeps.refl (fun _ => False) w).alloc _).alloc _).alloc _).trans hK (fun _ _ h => h))
  have HV1 := hidden (show IsVar w1 (w.heap.size + 1) ⟨kk, kn, kt⟩ from hK.heap (new3 w _ _ _) (fun h => h))
  have HV2 := hidden (show IsVar w1 (w.heap.size + 2) ⟨vk, vn, vt⟩ from hK.heap (new3b w _ _ _) (fun h => h))
  clear hK CO
  obtain ⟨Ft, -, -, hnp, hsub, -⟩ := CP.out _ HM.out
  obtain ⟨z0, hpz⟩ := HP.out _ HM.out
  generalize c.kind = kd at *
  clear HP
  rcases hk with rfl | rfl
  all_goals
    go_wp2_with fail
    have SK := hidden (fun (W : World) (hk' : Keeps (fun _ => False) w1 W) => show W.cell? ⟨p, 3, none⟩ = some (.pointer (some ⟨tb, 0, none⟩)) ∧ W.cell? ⟨w.heap.size + 1, 0, none⟩ = some (.int .i64 kk) ∧ W.cell? ⟨w.heap.size + 1, 1, none⟩ = some (.int .i64 kn) ∧ W.cell? ⟨w.heap.size + 1, 2, none⟩ = some (.string kt) ∧ W.cell? ⟨w.heap.size + 2, 0, none⟩ = some (.int .i64 vk) ∧ W.cell? ⟨w.heap.size + 2, 1, none⟩ = some (.int .i64 vn) ∧ W.cell? ⟨w.heap.size + 2, 2, none⟩ = some (.string vt) from by
      obtain ⟨_, a, -⟩ := CP.out _ (HM.out.trans hk' (fun _ _ h => h))
      obtain ⟨b0, b1, b2, -⟩ := (HV1.out.keeps hk' (fun h => h)).cells
      obtain ⟨c0, c1, c2, -⟩ := (HV2.out.keeps hk' (fun h => h)).cells
      exact ⟨a, b0, b1, b2, c0, c1, c2⟩)
    have CPP := hidden (fun (W : World) (hk' : Keeps (fun _ => False) w1 W) => show Calls Try.prog 37 #[.pointer (some ⟨tb, 0, none⟩), .agg #[.int .i64 kk, .int .i64 kn, .string kt], .agg #[.int .i64 vk, .int .i64 vn, .string vt]] W fun e w' => e = .returned (.int .i64 0) ∧ (∃ F' : Nat → Prop, IsHeap w' F' hb H' s ∧ Keeps F w w' ∧ Fresh F F' w) ∧ (W.cell? ⟨p, 3, none⟩ = some (.pointer (some ⟨tb, 0, none⟩)) → w'.cell? ⟨p, 3, none⟩ = some (.pointer (some ⟨tb, 0, none⟩))) ∧ Keeps F W w' from by
      have hkk := HM.out.trans hk' (fun _ _ h => h)
      obtain ⟨Fu, -, -, g3, g4, g5⟩ := CP.out _ hkk
      refine g5.mono ?_
      rintro e w' ⟨F', rfl, r1, r2, r3⟩
      exact ⟨rfl, ⟨F', r1, (hkk.mono (T := F) (fun _ _ h => h.elim)).trans r2 (fun k _ h => g4 k h), fun k h => (r3 k h).imp id (fun h => Nat.le_trans hkk.size h)⟩, fun e => r2.cell e g3, r2.mono (fun k _ h => g4 k h)⟩)
    have NB1 : ¬ F (w.heap.size + 1) := fun h => by have := hin.out _ h; omega
    have NB2 : ¬ F (w.heap.size + 2) := fun h => by have := hin.out _ h; omega
    clear CP HV1 HV2 hnp hsub
    go_region_held3 (fun W => W.cell? ⟨p, 3, none⟩ = some (.pointer (some ⟨tb, 0, none⟩)) ∧ W.cell? ⟨w.heap.size + 1, 0, none⟩ = some (.int .i64 kk) ∧ W.cell? ⟨w.heap.size + 1, 1, none⟩ = some (.int .i64 kn) ∧ W.cell? ⟨w.heap.size + 1, 2, none⟩ = some (.string kt) ∧ W.cell? ⟨w.heap.size + 2, 0, none⟩ = some (.int .i64 vk) ∧ W.cell? ⟨w.heap.size + 2, 1, none⟩ = some (.int .i64 vn) ∧ W.cell? ⟨w.heap.size + 2, 2, none⟩ = some (.string vt)) (first | exact SE.out | exact SK.out _ (Keeps.refl _ _) | exact SK.out _ ((Keeps.refl _ w1).drewN _)) (first | (go_at_call 37; refine (CPP.out _ ((Keeps.refl _ w1).drewN _)).mono ?_; rintro e w2 ⟨rfl, h1, h2, h3⟩; have G1 := hidden h1; have s0 := SK.out _ ((Keeps.refl _ w1).drewN 1); have SE := hidden (show w2.cell? ⟨p, 3, none⟩ = some (.pointer (some ⟨tb, 0, none⟩)) ∧ w2.cell? ⟨w.heap.size + 1, 0, none⟩ = some (.int .i64 kk) ∧ w2.cell? ⟨w.heap.size + 1, 1, none⟩ = some (.int .i64 kn) ∧ w2.cell? ⟨w.heap.size + 1, 2, none⟩ = some (.string kt) ∧ w2.cell? ⟨w.heap.size + 2, 0, none⟩ = some (.int .i64 vk) ∧ w2.cell? ⟨w.heap.size + 2, 1, none⟩ = some (.int .i64 vn) ∧ w2.cell? ⟨w.heap.size + 2, 2, none⟩ = some (.string vt) from ⟨h2 s0.1, h3.cell s0.2.1 NB1, h3.cell s0.2.2.1 NB1, h3.cell s0.2.2.2.1 NB1, h3.cell s0.2.2.2.2.1 NB2, h3.cell s0.2.2.2.2.2.1 NB2, h3.cell s0.2.2.2.2.2.2 NB2⟩); clear h1 h2 h3 s0))
    obtain ⟨F', r1, r2, r3⟩ := G1.out
    clear SE SK CPP
    go_wp2_with fail
    exact hR.out _ _ ⟨F', rfl, r1, r2, r3⟩
theorem slot_New_type (h : IsHeap w F hb H s) (v key val : V) (hv : (ofR H v 0).2 ≠ 0 ∨ ∃ (i p : Nat) (c : Cl), v = ⟨4, (i : Nat), v.t⟩ ∧ H[i]? = some (some (p, c)) ∧ c.kind ≠ 2 ∧ c.kind ≠ 3) :
    Calls Try.prog 17 #[.pointer (some ⟨hb, 0, none⟩), v.val, key.val, val.val] w fun e w' => e = .returned (.int .i64 30) ∧ Keeps (fun _ => False) w w' := by
  have CO := hidden (fun (W : World) (hk' : Keeps (fun _ => False) w W) => heap_Of (h.calm hk') v 0)
  unfold V.val at CO
  obtain ⟨kk, kn, kt⟩ := key
  obtain ⟨vk, vn, vt⟩ := val
  rcases hv with hv | ⟨i, p, c, hv, hi, h2, h3⟩
  · have hne : ((ofR H v 0).2 != 0) = true := by simpa using hv
    generalize (ofR H v 0).1 = pa at *
    generalize (ofR H v 0).2 = ea at *
    clear h hv
    obtain ⟨k, n, t⟩ := v
    simp only at CO
    refine post_gen fun R hR => ?_
    unfold V.val
    go_enter Try.func17, Try.ntmps17
    go_wp2_with fail
    refine (CO.out _ (by repeat (first | exact Keeps.refl _ _ | refine Keeps.alloc ?_ _))).mono ?_
    rintro e w1 ⟨rfl, hK⟩
    have HM := hidden (((((Keeps.refl (fun _ => False) w).alloc _).alloc _).alloc _).trans hK (fun _ _ h => h))
    clear hK CO
    go_wp2_with fail
    exact hR.out _ _ ⟨rfl, HM.out⟩
  · have HP := hidden (fun (W : World) (hk' : Keeps (fun _ => False) w W) => show W.cell? ⟨p, 0, none⟩ = some (.int .i64 c.kind) ∧ p < W.heap.size from (by
      obtain ⟨A, cap, lp, tp, An, cn, hblk, -⟩ := held_cell (h.calm hk') hi
      exact ⟨blk_cell hblk 0, blk_lt hblk⟩))
    obtain ⟨k, n, t⟩ := v
    simp only [V.mk.injEq] at hv
    obtain ⟨rfl, rfl, -⟩ := hv
    rw [ofR_ok hi t (.inl rfl)] at CO
    have m2 : (c.kind != 2) = true := by simpa using h2
    have m3 : (c.kind != 3) = true := by simpa using h3
    generalize c.kind = kd at *
    clear h hi h2 h3
    simp only at CO
    refine post_gen fun R hR => ?_
    unfold V.val
    go_enter Try.func17, Try.ntmps17
    go_wp2_with fail
    refine (CO.out _ (by repeat (first | exact Keeps.refl _ _ | refine Keeps.alloc ?_ _))).mono ?_
    rintro e w1 ⟨rfl, hK⟩
    have HM := hidden (((((Keeps.refl (fun _ => False) w).alloc _).alloc _).alloc _).trans hK (fun _ _ h => h))
    obtain ⟨z0, hpz⟩ := HP.out _ HM.out
    clear hK CO HP
    go_wp2_with fail
    exact hR.out _ _ ⟨rfl, HM.out⟩
end
end Go.Proofs.Ytmefdniocgcckaa
/- Layer 17: slot: Delete; tables' Delete and Set. -/
namespace Go.Proofs.Ytmefdniocgcckaa
open Go.RowKit
set_option maxRecDepth 100000

theorem getR_none {L : List Ent} {key : V} (h : ∀ x ∈ L, x.key ≠ key) : getR L key = (V.null, 3) := by
  unfold getR
  rw [List.find?_eq_none.2 (fun x hx => by simpa using h x hx)]
theorem getR_cases (L : List Ent) (key : V) : ((∀ x ∈ L, x.key ≠ key) ∧ getR L key = (V.null, 3)) ∨ ∃ x ∈ L, x.key = key ∧ getR L key = (x.val, 0) := by
  cases hf : L.find? (fun y => decide (y.key = key)) with
  | none =>
    have h1 := List.find?_eq_none.1 hf
    have h2 : ∀ x ∈ L, x.key ≠ key := fun x hx e => h1 x hx (by simpa using e)
    exact .inl ⟨h2, getR_none h2⟩
  | some x =>
    obtain ⟨h1, -⟩ := List.find?_eq_some_iff_append.1 hf
    refine .inr ⟨x, List.mem_of_find?_eq_some hf, by simpa using h1, ?_⟩
    unfold getR
    rw [hf]
theorem delL_no {L : List Ent} {key : V} (h : ∀ x ∈ L, x.key ≠ key) : delL L key = L := by
  unfold delL
  exact List.filter_eq_self.2 (fun x hx => by simpa using h x hx)
theorem putL_no {L : List Ent} {key val : V} (h : ∀ x ∈ L, x.key ≠ key) : putL L key val = L := by
  unfold putL
  conv => rhs; rw [← List.map_id L]
  exact List.map_congr_left (fun x hx => by rw [if_neg (h x hx)]; rfl)
section
variable {w : World} {F : Nat → Prop} {hb : Nat} {H : List (Option (Nat × Cl))} {s : HSt} {i p : Nat} {c : Cl}
end
end Go.Proofs.Ytmefdniocgcckaa
/- Layer 17: slot: table: what stands in a table, or in one that it hands on to. -/
namespace Go.Proofs.Ytmefdniocgcckaa
open Go.RowKit
set_option maxRecDepth 100000

/-- A table and those that it hands on to. -/
inductive Dels (H : Hp) : V → List (List Ent) → Prop where
  | nil {v : V} (h : v.k = 0) : Dels H v []
  | cons {i p tb : Nat} {c : Cl} {L : List Ent} {sr : Int} {b : V} {bs : List V} {ls : List (List Ent)} (hi : H[i]? = some (some (p, c))) (hk : c.kind = 2) (hc : c.tab = some (tb, L, sr)) (hs : sr < 1073740000) (hv : c.vals = b :: bs) (ht : Dels H b ls) : Dels H (rV (i : Nat)) (L :: ls)
/-- What stands there by a key. -/
def tabR : List (List Ent) → V → V × Int
  | [], _ => (V.null, 3)
  | L :: ls, key => if (getR L key).2 = 0 then getR L key else tabR ls key
section
variable {w : World} {F : Nat → Prop} {hb : Nat} {H : List (Option (Nat × Cl))} {s : HSt}
set_option maxHeartbeats 8000000 in
theorem slot_table (h : IsHeap w F hb H s) {v : V} {ls : List (List Ent)} (hd : Dels H v ls) (hl : ls.length ≤ 1048576) (key : V) (hkz : key.t.size ≤ 140737488351232) :
    Calls Try.prog 66 #[.pointer (some ⟨hb, 0, none⟩), v.val, key.val] w fun e w' => e = .returned (.tuple #[(tabR ls key).1.val, .int .i64 (tabR ls key).2]) ∧ Keeps (fun _ => False) w w' := by
  have HH := hidden h
  have HDL := hidden hd
  have CN := hidden (fun (W : World) => value_Null W)
  unfold V.val at CN
  unfold V.null at CN
  clear h hd
  obtain ⟨vk, vn, vt⟩ := v
  obtain ⟨kk, kn, kt⟩ := key
  refine post_gen fun R hR => ?_
  unfold V.val
  go_enter Try.func66, Try.ntmps66
  go_wp2_with fail
  have I1 := hidden (new3 w (.cells #[.int .i64 vk, .int .i64 vn, .string vt] 29) (.cells #[.int .i64 kk, .int .i64 kn, .string kt] 29) (.cells #[.int .i64 0, .int .i64 0, .string ⟨#[]⟩] 29))
  have I2 := hidden (new3b w (.cells #[.int .i64 vk, .int .i64 vn, .string vt] 29) (.cells #[.int .i64 kk, .int .i64 kn, .string kt] 29) (.cells #[.int .i64 0, .int .i64 0, .string ⟨#[]⟩] 29))
  have I0 := hidden (blk_alloc (blk_alloc (blk_new w (.cells #[.int .i64 vk, .int .i64 vn, .string vt] 29)) (.cells #[.int .i64 kk, .int .i64 kn, .string kt] 29)) (.cells #[.int .i64 0, .int .i64 0, .string ⟨#[]⟩] 29))
  have K0 := hidden ((((Keeps.refl (fun _ => False) w).alloc (.cells #[.int .i64 vk, .int .i64 vn, .string vt] 29)).alloc (.cells #[.int .i64 kk, .int .i64 kn, .string kt] 29)).alloc (.cells #[.int .i64 0, .int .i64 0, .string ⟨#[]⟩] 29))
  generalize ((w.alloc (.cells #[.int .i64 vk, .int .i64 vn, .string vt] 29)).alloc (.cells #[.int .i64 kk, .int .i64 kn, .string kt] 29)).alloc (.cells #[.int .i64 0, .int .i64 0, .string ⟨#[]⟩] 29) = wa at *
  go_loopw [8] (fun n wr => ∃ (k : Nat) (v : V) (l' : List (List Ent)), k + l'.length = ls.length ∧ n = .int .i64 k ∧ IsVar wr w.heap.size v ∧ Dels H v l' ∧ tabR ls ⟨kk, kn, kt⟩ = tabR l' ⟨kk, kn, kt⟩ ∧ Keeps (fun _ => False) w wr ∧ IsVar wr (w.heap.size + 1) ⟨kk, kn, kt⟩ ∧ IsVar wr (w.heap.size + 2) V.null) (fun n _ => ls.length - (intOf n).toNat)
  case atStart => exact ⟨0, ⟨vk, vn, vt⟩, ls, by simp, rfl, I0.out, HDL.out, rfl, K0.out, I1.out, I2.out⟩
  case round =>
    clear I0 I1 I2 K0 HDL
    obtain ⟨k, v, l', hkl, rfl, hV, hD, hT, hK, hKey, hRes⟩ := hrel
    have HV := hidden hV
    have HT := hidden hT
    have HK := hidden hK
    have HKEY := hidden hKey
    have HRES := hidden hRes
    clear hV hT hK hKey hRes
    obtain ⟨a0, a1, a2, a3, a4, a5⟩ := HV.out.cells
    have haz := blk_lt HV.out
    cases hD with
    | nil hk =>
      rw [hk] at a0
      have HT2 := hidden (show tabR ls ⟨kk, kn, kt⟩ = (V.null, 3) from HT.out)
      clear hk HT
      have hk2 : k = ls.length := by simpa using hkl
      clear hkl
      have hkb : k ≤ 1048576 := by omega
      clear hk2
      go_wp2_with fail
      refine (CN.out _).mono ?_
      rintro e w2 ⟨rfl, hK⟩
      have HR2 := hidden (HRES.out.keeps hK (fun h => h))
      have HM2 := hidden (HK.out.trans hK (fun _ _ h => h))
      clear hK HK HRES
      obtain ⟨v0, v1, v2, v3, v4, v5⟩ := HR2.out.cells
      have hvz := blk_lt HR2.out
      simp only [V.null] at v0 v1 v2
      go_wp2_with fail
      obtain ⟨d0, d1, d2, _⟩ := (HR2.out.set V.null).cells
      simp only [V.null] at d0 d1 d2
      rw [HT2.out] at hR
      exact bodyPost_ret (v := .tuple #[V.val V.null, .int .i64 3]) (by simp [results, Try.results66, go_sem, d0, d1, d2, V.val, V.null]) rfl (hR.out _ _ ⟨rfl, HM2.out.var (r := w.heap.size + 2) (fun h => by omega) _ _ _⟩)
    | @cons i2 p2 tb2 c2 L2 sr2 b2 bs2 l2 hi hk hc hs hv ht =>
      have CO := hidden (fun (W : World) (hk' : Keeps (fun _ => False) w W) => heap_Of_ok (HH.out.calm hk') hi 2 ⟨#[]⟩ (.inr hk))
      have CG := hidden (fun (W : World) (hk' : Keeps (fun _ => False) w W) => show W.cell? ⟨p2, 3, none⟩ = some (.pointer (some ⟨tb2, 0, none⟩)) ∧ p2 < W.heap.size ∧ Calls Try.prog 67 #[.pointer (some ⟨tb2, 0, none⟩), V.val ⟨kk, kn, kt⟩] W fun e w' => e = .returned (.tuple #[(getR L2 ⟨kk, kn, kt⟩).1.val, .int .i64 (getR L2 ⟨kk, kn, kt⟩).2]) ∧ Keeps (fun _ => False) W w' from by
        obtain ⟨Ft, h1, h2, h3, h4, h5, h6, h7⟩ := held_tab2 (HH.out.calm hk') hi hc
        exact ⟨h2, h3, t_Get h1 (by omega) hkz⟩)
      have HC0 := hidden (fun (W : World) (hk' : Keeps (fun _ => False) w W) => held_val0 (HH.out.calm hk') hi hv)
      have HDT := hidden ht
      unfold V.val at CO CG
      simp only [rV] at a0 a1 a2
      have hkl2 : k + 1 + l2.length = ls.length := by rw [← hkl, List.length_cons]; omega
      have HKL := hidden hkl2
      have hkb : k < 1048576 := by omega
      have hkb2 : k < ls.length := by omega
      have hpw := (CG.out _ (Keeps.refl _ w)).2.1
      have HTS := hidden (show tabR ls ⟨kk, kn, kt⟩ = if (getR L2 ⟨kk, kn, kt⟩).2 = 0 then getR L2 ⟨kk, kn, kt⟩ else tabR l2 ⟨kk, kn, kt⟩ from HT.out)
      have HGC := hidden ((getR_cases L2 ⟨kk, kn, kt⟩).imp (fun h => h.2) (fun h => h.elim fun x h => show ∃ x : V, getR L2 ⟨kk, kn, kt⟩ = (x, 0) from ⟨_, h.2.2⟩))
      clear hi hk hc hs hv ht hkl hkl2 HT
      generalize getR L2 ⟨kk, kn, kt⟩ = gg at *
      obtain ⟨⟨gk, gn, gt⟩, ge⟩ := gg
      simp only at CG
      go_wp2_with fail
      refine (CO.out _ HK.out).mono ?_
      rintro e w1 ⟨rfl, hK⟩
      have HK1 := hidden (HK.out.trans hK (fun _ _ h => h))
      have HV1 := hidden (HV.out.keeps hK (fun h => h))
      have HKEY1 := hidden (HKEY.out.keeps hK (fun h => h))
      have HRES1 := hidden (HRES.out.keeps hK (fun h => h))
      clear hK HK HV HKEY HRES CO a0 a1 a2 a3 a4 a5 haz
      have SK := hidden (fun (W : World) (hk' : Keeps (fun _ => False) w1 W) => show W.cell? ⟨p2, 3, none⟩ = some (.pointer (some ⟨tb2, 0, none⟩)) ∧ W.cell? ⟨w.heap.size + 1, 0, none⟩ = some (.int .i64 kk) ∧ W.cell? ⟨w.heap.size + 1, 1, none⟩ = some (.int .i64 kn) ∧ W.cell? ⟨w.heap.size + 1, 2, none⟩ = some (.string kt) from (have b := (HKEY1.out.keeps hk' (fun h => h)).cells; ⟨(CG.out _ (HK1.out.trans hk' (fun _ _ h => h))).1, b.1, b.2.1, b.2.2.1⟩))
      have CGG := hidden (fun (W : World) (hk' : Keeps (fun _ => False) w1 W) => (CG.out W (HK1.out.trans hk' (fun _ _ h => h))).2.2)
      go_wp2_with fail
      go_cut [11, 12] from 30 to 38 (fun u e wx => ∃ vx : Nat, u = .pointer (some ⟨vx, 0, none⟩) ∧ e = .int .i64 ge ∧ IsVar wx vx ⟨gk, gn, gt⟩ ∧ Keeps (fun _ => False) w1 wx)
      case first =>
        go_region_held3 (fun W => W.cell? ⟨p2, 3, none⟩ = some (.pointer (some ⟨tb2, 0, none⟩)) ∧ W.cell? ⟨w.heap.size + 1, 0, none⟩ = some (.int .i64 kk) ∧ W.cell? ⟨w.heap.size + 1, 1, none⟩ = some (.int .i64 kn) ∧ W.cell? ⟨w.heap.size + 1, 2, none⟩ = some (.string kt)) (((refine SK.out _ ?_); (repeat (first | exact Keeps.refl _ _ | exact K14.out | refine Keeps.alloc ?_ _ | refine Keeps.drewN ?_ _ | refine Keeps.drew ?_ | exact K14.out.var (r := w1.heap.size) (fun h => absurd h (Nat.lt_irrefl _)) _ _ _)))) (first | (go_at_call 67; refine (CGG.out _ (by repeat (first | exact Keeps.refl _ _ | refine Keeps.alloc ?_ _ | refine Keeps.drewN ?_ _ | refine Keeps.drew ?_))).mono ?_; rintro e w14 ⟨rfl, h1⟩; have K14 := hidden (Keeps.trans (S := fun _ => False) (show Keeps (fun _ => False) w1 _ from (by repeat (first | exact Keeps.refl _ _ | refine Keeps.alloc ?_ _ | refine Keeps.drewN ?_ _ | refine Keeps.drew ?_))) h1 (fun _ _ h => h)); (try have X14 := hidden (show IsVar w14 w1.heap.size V.null from h1.heap (blk_new w1 _) (fun h => h))); (try (obtain ⟨v0, v1, v2, v3, v4, v5⟩ := X14.out.cells; have hvz := blk_lt X14.out; simp only [V.null] at v0 v1 v2)); clear h1))
        all_goals
          go_wp2_with fail
          go_meet
          first
            | exact ⟨_, rfl, rfl, X14.out.set ⟨gk, gn, gt⟩, K14.out.var (r := w1.heap.size) (fun h => absurd h (Nat.lt_irrefl _)) _ _ _⟩
            | exact ⟨_, rfl, rfl, IsVar.new w14 ⟨gk, gn, gt⟩, K14.out.alloc _⟩
      case rest =>
      obtain ⟨vx, rfl, rfl, hX, hK⟩ := hcut
      have VX := hidden hX
      have K15 := hidden hK
      have HKc := hidden (HK1.out.trans hK (fun _ _ h => h))
      have HVc := hidden (HV1.out.keeps hK (fun h => h))
      have HKEYc := hidden (HKEY1.out.keeps hK (fun h => h))
      have HRESc := hidden (HRES1.out.keeps hK (fun h => h))
      clear hX hK SK CGG CG HK1 HV1 HKEY1 HRES1 K15
      rcases HGC.out with e0 | ⟨x, e0⟩
      · simp only [V.null, Prod.mk.injEq, V.mk.injEq] at e0
        obtain ⟨⟨rfl, rfl, rfl⟩, rfl⟩ := e0
        clear HGC
        have HTS2 := hidden (show tabR ls ⟨kk, kn, kt⟩ = tabR l2 ⟨kk, kn, kt⟩ from HTS.out.trans (if_neg (by decide)))
        clear HTS
        obtain ⟨g, o, cap, hpz, hgz, y1, q0, q1, q2⟩ := HC0.out _ HKc.out
        obtain ⟨bk, bn, bt⟩ := b2
        simp only at q0 q1 q2
        obtain ⟨a0, a1, a2, a3, a4, a5⟩ := HVc.out.cells
        have haz := blk_lt HVc.out
        clear HC0
        go_wp2_with fail
        go_roundw
        case rel => exact ⟨k + 1, ⟨bk, bn, bt⟩, l2, HKL.out, by go_num, HVc.out.set ⟨bk, bn, bt⟩, HDT.out, HTS2.out, HKc.out.var (r := w.heap.size) (fun h => absurd h (Nat.lt_irrefl _)) _ _ _, HKEYc.out.keeps ((Keeps.refl (fun k => k = w.heap.size) wc).var (r := w.heap.size) (fun _ => rfl) _ _ _) (by simp), HRESc.out.keeps ((Keeps.refl (fun k => k = w.heap.size) wc).var (r := w.heap.size) (fun _ => rfl) _ _ _) (by simp)⟩
        case measure => simp [intOf]; omega
      · simp only [Prod.mk.injEq] at e0
        obtain ⟨-, rfl⟩ := e0
        clear HGC HC0
        obtain ⟨x0, x1, x2, -⟩ := VX.out.cells
        have hxz := blk_lt VX.out
        obtain ⟨v0, v1, v2, v3, v4, v5⟩ := HRESc.out.cells
        have hvz := blk_lt HRESc.out
        simp only [V.null] at x0 x1 x2 v0 v1 v2
        go_wp2_with fail
        obtain ⟨d0, d1, d2, _⟩ := (HRESc.out.set ⟨gk, gn, gt⟩).cells
        simp only at d0 d1 d2
        rw [HTS.out, if_pos (by first | trivial | rfl)] at hR
        exact bodyPost_ret (v := .tuple #[V.val ⟨gk, gn, gt⟩, .int .i64 0]) (by simp [results, Try.results66, go_sem, d0, d1, d2, V.val]) rfl (hR.out _ _ ⟨rfl, HKc.out.var (r := w.heap.size + 2) (fun h => by omega) _ _ _⟩)
end
end Go.Proofs.Ytmefdniocgcckaa
/- Layer 17: slot: SetDelegate. -/
namespace Go.Proofs.Ytmefdniocgcckaa
open Go.RowKit
set_option maxRecDepth 100000

/-- A table and what it hands on to, as values. -/
inductive DCh (H : Hp) : V → List V → Prop where
  | nil {v : V} (h : v.k = 0) : DCh H v []
  | cons {i p : Nat} {c : Cl} {b : V} {bs l : List V} (hi : H[i]? = some (some (p, c))) (hk : c.kind = 2) (hv : c.vals = b :: bs) (ht : DCh H b l) : DCh H (rV (i : Nat)) (rV (i : Nat) :: l)
section
variable {w : World} {F : Nat → Prop} {hb : Nat} {H : List (Option (Nat × Cl))} {s : HSt} {i p : Nat} {c : Cl}
set_option maxHeartbeats 8000000 in
theorem slot_SetDelegate_ok (h : IsHeap w F hb H s) (hi : H[i]? = some (some (p, c))) (hk : c.kind = 2) {b : V} {bs : List V} (hv : c.vals = b :: bs) {dt : V} {l : List V} (hch : DCh H dt l) (hl : l.length < 63) (hm : ¬ rV (i : Nat) ∈ l) :
    Calls Try.prog 15 #[.pointer (some ⟨hb, 0, none⟩), V.val ⟨4, i, ⟨#[]⟩⟩, dt.val] w fun e w' => ∃ F', e = .returned (.int .i64 0) ∧ IsHeap w' F' hb (H.set i (some (p, { c with vals := dt :: bs }))) s ∧ Keeps F w w' ∧ Fresh F F' w := by
  have HH := hidden h
  have HI := hidden hi
  have CO := hidden (fun (W : World) (hk' : Keeps (fun _ => False) w W) => heap_Of_ok (h.calm hk') hi 2 ⟨#[]⟩ (.inr hk))
  have CD := hidden (fun (W : World) (hk' : Keeps (fun _ => False) w W) (i p : Nat) (c : Cl) (b : V) (bs : List V) (hi : H[i]? = some (some (p, c))) (hk : c.kind = 2) (hv : c.vals = b :: bs) => slot_Delegate_ok (h.calm hk') hi hk hv ⟨#[]⟩)
  have CT := hidden (fun (W : World) (hk' : Keeps (fun _ => False) w W) => heap_Of (h.calm hk') dt 2)
  have CS := hidden (fun (W : World) (a b : V) => value_Same a b W)
  unfold V.val at CO CD CS CT
  have HVV := hidden hv
  have HCH := hidden hch
  have HTO := hidden (show dt.k = 0 ∨ (dt.k = 4 ∧ (ofR H dt 2).2 = 0) from by
    cases hch with
    | nil h0 => exact .inl h0
    | cons hi2 hk2 _ _ => exact .inr ⟨rfl, by rw [show rV _ = (⟨4, _, ⟨#[]⟩⟩ : V) from rfl, ofR_ok hi2 ⟨#[]⟩ (.inr hk2)]⟩)
  have hnm := hidden hm
  clear hm
  clear h hi hk hv hch
  generalize (ofR H dt 2).1 = opa at *
  generalize (ofR H dt 2).2 = oea at *
  obtain ⟨tk, tn, tt⟩ := dt
  simp only at CT HTO
  refine post_gen fun R hR => ?_
  unfold V.val
  go_enter Try.func15, Try.ntmps15
  go_wp2_with fail
  refine (CO.out _ (by repeat (first | exact Keeps.refl _ _ | refine Keeps.alloc ?_ _))).mono ?_
  rintro e w1 ⟨rfl, hK⟩
  have HM1 := hidden ((((Keeps.refl (fun _ => False) w).alloc _).alloc _).trans hK (fun _ _ h => h))
  have HT1 := hidden (show IsVar w1 (w.heap.size + 1) ⟨tk, tn, tt⟩ from hK.heap (new2t w _ _) (fun h => h))
  have HI1 := hidden (show IsVar w1 w.heap.size ⟨4, i, ⟨#[]⟩⟩ from hK.heap (blk_alloc (blk_new w _) _) (fun h => h))
  clear hK CO
  obtain ⟨e0, e1, e2, -⟩ := HT1.out.cells
  have hez := blk_lt HT1.out
  simp only at e0 e1 e2
  rcases HTO.out with h0 | ⟨h0, rfl⟩
  ·
    have hz0 : (tk != 0) = false := by rw [h0]; rfl
    clear h0
    have HK := HM1
    have HTO1 := HT1
    clear HTO CT
    obtain ⟨Fv, A9, cap, lp9, tp9, An9, cn9, hblk, hFp, hnp, hsub, hrow, -, hput⟩ := held_vals (HH.out.calm HK.out) HI.out
    have hlenv : c.vals.length = bs.length + 1 := by rw [HVV.out]; rfl
    obtain ⟨g, rfl, hFg, hgz, -, -, -, hf0, hf1, hf2⟩ := hrow.open3 (i := 0) (by rw [hlenv]; omega)
    obtain ⟨g0, g1, g2⟩ := (show w1.cell? ⟨g, 0 * 3, none⟩ = some (.int .i64 b.k) ∧ w1.cell? ⟨g, 0 * 3 + 1, none⟩ = some (.int .i64 b.n) ∧ w1.cell? ⟨g, 0 * 3 + 2, none⟩ = some (.string b.t) from (by
      obtain ⟨g', e', -, -, q0, q1, q2, -⟩ := hrow.open3 (i := 0) (by rw [hlenv]; omega)
      simp only [Option.some.injEq, Addr.mk.injEq, and_true] at e'
      subst e'
      have hb0 : c.vals[0]'(by rw [hlenv]; omega) = b := by simp [HVV.out]
      rw [hb0] at q0 q1 q2
      exact ⟨q0, q1, q2⟩))
    rw [Nat.zero_mul] at hf0 hf1 hf2 g0 g1 g2
    rw [hlenv] at hblk
    have hgp : g ≠ p := fun e => hnp (e ▸ hFg)
    have hpg : p ≠ g := fun e => hgp e.symm
    have hgw : g < w.heap.size := HH.out.inw g (hsub g hFg)
    have hg1 : g ≠ w.heap.size + 1 := by omega
    have PUT := hidden (fun (W2 : World) (hk2 : Keeps (fun _ => False) w1 W2) => (by
      have hr2 := (hrow.keeps hk2 (Apart.no _)).put3 (i := 0) (by rw [hlenv]; omega) (⟨tk, tn, tt⟩ : V)
      have hK2 : Keeps Fv w1 (put3 W2 g 0 ⟨tk, tn, tt⟩) := (hk2.mono (T := Fv) (fun _ _ h => h.elim)).trans ((SameBut.refl g W2).put3 0 ⟨tk, tn, tt⟩).keeps (fun k _ e => by rw [e]; exact hFg)
      obtain ⟨F2, r1, r2, r3⟩ := hput _ (c.vals.set 0 ⟨tk, tn, tt⟩) hK2 (by simp) hr2
      rw [show c.vals.set 0 ⟨tk, tn, tt⟩ = (⟨tk, tn, tt⟩ : V) :: bs by rw [HVV.out]; rfl] at r1
      exact (⟨F2, r1, (HK.out.mono (T := F) (fun _ _ h => h.elim)).trans r2 (fun _ _ h => h), fun k h => (r3 k h).imp id (fun h => Nat.le_trans HK.out.size h)⟩ : ∃ F2, IsHeap (put3 W2 g 0 ⟨tk, tn, tt⟩) F2 hb (H.set i (some (p, { c with vals := (⟨tk, tn, tt⟩ : V) :: bs }))) s ∧ Keeps F w (put3 W2 g 0 ⟨tk, tn, tt⟩) ∧ Fresh F F2 w)))
    have SK := hidden (fun (W : World) (hk' : Keeps (fun _ => False) w1 W) => show W.cell? ⟨p, 1, none⟩ = some (.slice (some ⟨g, 0, none⟩) (bs.length + 1) cap) ∧ W.cell? ⟨w.heap.size + 1, 0, none⟩ = some (.int .i64 tk) ∧ W.cell? ⟨w.heap.size + 1, 1, none⟩ = some (.int .i64 tn) ∧ W.cell? ⟨w.heap.size + 1, 2, none⟩ = some (.string tt) from (have b := (HTO1.out.keeps hk' (fun h => h)).cells; ⟨hk'.cell (blk_cell hblk 1) (fun h => h), b.1, b.2.1, b.2.2.1⟩))
    clear hblk hrow hput hFp hnp hsub
    go_wp2_with fail
    go_region_held3 (fun W => W.cell? ⟨p, 1, none⟩ = some (.slice (some ⟨g, 0, none⟩) (bs.length + 1) cap) ∧ W.cell? ⟨w.heap.size + 1, 0, none⟩ = some (.int .i64 tk) ∧ W.cell? ⟨w.heap.size + 1, 1, none⟩ = some (.int .i64 tn) ∧ W.cell? ⟨w.heap.size + 1, 2, none⟩ = some (.string tt)) (first | ((refine SK.out _ ?_); (repeat (first | exact Keeps.refl _ _ | refine Keeps.drewN ?_ _ | refine Keeps.drew ?_)); done) | exact (have s := SK.out _ ((Keeps.refl _ w1).drewN 1); have kv := (Keeps.refl (fun k => k = g) (w1.drewN 1)).var (r := g) (fun _ => rfl) (.int .i64 tk) (.int .i64 tn) (.string tt); ⟨kv.cell s.1 hpg, kv.cell s.2.1 (fun e => hg1 e.symm), kv.cell s.2.2.1 (fun e => hg1 e.symm), kv.cell s.2.2.2 (fun e => hg1 e.symm)⟩)) (fail)
    obtain ⟨F2, r1, r2, r3⟩ := PUT.out (w1.drewN 1) ((Keeps.refl _ w1).drewN 1)
    go_wp2_with fail
    exact hR.out _ _ ⟨F2, rfl, r1, r2, r3⟩
  ·
    have hz0 : (tk != 0) = true := by rw [h0]; rfl
    clear h0
    clear HTO
    go_wp2_with fail
    refine (CT.out _ HM1.out).mono ?_
    rintro e w2 ⟨rfl, hK⟩
    have HM2 := hidden (HM1.out.trans hK (fun _ _ h => h))
    have HT2 := hidden (HT1.out.keeps hK (fun h => h))
    have HI2 := hidden (HI1.out.keeps hK (fun h => h))
    clear hK HM1 HT1 HI1 e0 e1 e2 hez CT
    obtain ⟨e0, e1, e2, -⟩ := HT2.out.cells
    have hez := blk_lt HT2.out
    simp only at e0 e1 e2
    go_wp2_with fail
    clear e0 e1 e2 hez
    go_loopw [11, 12] (fun n u wr => ∃ (k vb : Nat) (x : V) (l' : List V), k + l'.length = l.length ∧ n = .int .i64 (k + 1) ∧ u = .pointer (some ⟨vb, 0, none⟩) ∧ IsVar wr vb x ∧ DCh H x l' ∧ (rV (i : Nat) ∈ l ↔ rV (i : Nat) ∈ l') ∧ Keeps (fun _ => False) w wr ∧ IsVar wr w.heap.size ⟨4, i, ⟨#[]⟩⟩ ∧ IsVar wr (w.heap.size + 1) ⟨tk, tn, tt⟩) (fun n _ _ => l.length + 1 - (intOf n).toNat)
    case atStart => exact ⟨0, w2.heap.size, ⟨tk, tn, tt⟩, l, by simp, rfl, rfl, IsVar.new w2 ⟨tk, tn, tt⟩, HCH.out, Iff.rfl, HM2.out.alloc _, blk_alloc HI2.out _, blk_alloc HT2.out _⟩
    case round =>
      obtain ⟨k, vb, x, l', hkl, rfl, rfl, hX, hch, hmem, hK, hI, hTo⟩ := hrel
      have HX := hidden hX
      have HMEM := hidden hmem
      have HK := hidden hK
      have HII := hidden hI
      have HTO1 := hidden hTo
      clear hX hmem hK hI hTo HM2 HI2 HT2
      obtain ⟨a0, a1, a2, -⟩ := HX.out.cells
      have haz := blk_lt HX.out
      cases hch with
      | nil h0 =>
        rw [h0] at a0
        clear h0
        clear a1 a2 HMEM HX
        obtain ⟨Fv, A9, cap, lp9, tp9, An9, cn9, hblk, hFp, hnp, hsub, hrow, -, hput⟩ := held_vals (HH.out.calm HK.out) HI.out
        have hlenv : c.vals.length = bs.length + 1 := by rw [HVV.out]; rfl
        obtain ⟨g, rfl, hFg, hgz, -, -, -, hf0, hf1, hf2⟩ := hrow.open3 (i := 0) (by rw [hlenv]; omega)
        obtain ⟨g0, g1, g2⟩ := (show wr.cell? ⟨g, 0 * 3, none⟩ = some (.int .i64 b.k) ∧ wr.cell? ⟨g, 0 * 3 + 1, none⟩ = some (.int .i64 b.n) ∧ wr.cell? ⟨g, 0 * 3 + 2, none⟩ = some (.string b.t) from (by
          obtain ⟨g', e', -, -, q0, q1, q2, -⟩ := hrow.open3 (i := 0) (by rw [hlenv]; omega)
          simp only [Option.some.injEq, Addr.mk.injEq, and_true] at e'
          subst e'
          have hb0 : c.vals[0]'(by rw [hlenv]; omega) = b := by simp [HVV.out]
          rw [hb0] at q0 q1 q2
          exact ⟨q0, q1, q2⟩))
        rw [Nat.zero_mul] at hf0 hf1 hf2 g0 g1 g2
        rw [hlenv] at hblk
        have hgp : g ≠ p := fun e => hnp (e ▸ hFg)
        have hpg : p ≠ g := fun e => hgp e.symm
        have hgw : g < w.heap.size := HH.out.inw g (hsub g hFg)
        have hg1 : g ≠ w.heap.size + 1 := by omega
        have PUT := hidden (fun (W2 : World) (hk2 : Keeps (fun _ => False) wr W2) => (by
          have hr2 := (hrow.keeps hk2 (Apart.no _)).put3 (i := 0) (by rw [hlenv]; omega) (⟨tk, tn, tt⟩ : V)
          have hK2 : Keeps Fv wr (put3 W2 g 0 ⟨tk, tn, tt⟩) := (hk2.mono (T := Fv) (fun _ _ h => h.elim)).trans ((SameBut.refl g W2).put3 0 ⟨tk, tn, tt⟩).keeps (fun k _ e => by rw [e]; exact hFg)
          obtain ⟨F2, r1, r2, r3⟩ := hput _ (c.vals.set 0 ⟨tk, tn, tt⟩) hK2 (by simp) hr2
          rw [show c.vals.set 0 ⟨tk, tn, tt⟩ = (⟨tk, tn, tt⟩ : V) :: bs by rw [HVV.out]; rfl] at r1
          exact (⟨F2, r1, (HK.out.mono (T := F) (fun _ _ h => h.elim)).trans r2 (fun _ _ h => h), fun k h => (r3 k h).imp id (fun h => Nat.le_trans HK.out.size h)⟩ : ∃ F2, IsHeap (put3 W2 g 0 ⟨tk, tn, tt⟩) F2 hb (H.set i (some (p, { c with vals := (⟨tk, tn, tt⟩ : V) :: bs }))) s ∧ Keeps F w (put3 W2 g 0 ⟨tk, tn, tt⟩) ∧ Fresh F F2 w)))
        have SK := hidden (fun (W : World) (hk' : Keeps (fun _ => False) wr W) => show W.cell? ⟨p, 1, none⟩ = some (.slice (some ⟨g, 0, none⟩) (bs.length + 1) cap) ∧ W.cell? ⟨w.heap.size + 1, 0, none⟩ = some (.int .i64 tk) ∧ W.cell? ⟨w.heap.size + 1, 1, none⟩ = some (.int .i64 tn) ∧ W.cell? ⟨w.heap.size + 1, 2, none⟩ = some (.string tt) from (have b := (HTO1.out.keeps hk' (fun h => h)).cells; ⟨hk'.cell (blk_cell hblk 1) (fun h => h), b.1, b.2.1, b.2.2.1⟩))
        clear hblk hrow hput hFp hnp hsub
        go_wp2_with fail
        go_region_held3 (fun W => W.cell? ⟨p, 1, none⟩ = some (.slice (some ⟨g, 0, none⟩) (bs.length + 1) cap) ∧ W.cell? ⟨w.heap.size + 1, 0, none⟩ = some (.int .i64 tk) ∧ W.cell? ⟨w.heap.size + 1, 1, none⟩ = some (.int .i64 tn) ∧ W.cell? ⟨w.heap.size + 1, 2, none⟩ = some (.string tt)) (first | ((refine SK.out _ ?_); (repeat (first | exact Keeps.refl _ _ | refine Keeps.drewN ?_ _ | refine Keeps.drew ?_)); done) | exact (have s := SK.out _ ((Keeps.refl _ wr).drewN 1); have kv := (Keeps.refl (fun k => k = g) (wr.drewN 1)).var (r := g) (fun _ => rfl) (.int .i64 tk) (.int .i64 tn) (.string tt); ⟨kv.cell s.1 hpg, kv.cell s.2.1 (fun e => hg1 e.symm), kv.cell s.2.2.1 (fun e => hg1 e.symm), kv.cell s.2.2.2 (fun e => hg1 e.symm)⟩)) (fail)
        obtain ⟨F2, r1, r2, r3⟩ := PUT.out (wr.drewN 1) ((Keeps.refl _ wr).drewN 1)
        go_wp2_with fail
        exact hR.out _ _ ⟨F2, rfl, r1, r2, r3⟩
      | @cons i2 p2 c2 b2 bs2 l2 hi2 hk2 hv2 ht2 =>
        have C2 := hidden (fun (W : World) (hk' : Keeps (fun _ => False) w W) => CD.out W hk' i2 p2 c2 b2 bs2 hi2 hk2 hv2)
        have HT := hidden ht2
        clear hi2 hk2 hv2 ht2
        simp only [rV] at a0 a1 a2
        obtain ⟨ck, cn, ct⟩ := b2
        simp only at C2
        have hkl2 : k + 1 + l2.length = l.length := by rw [← hkl, List.length_cons]; omega
        have HKL := hidden hkl2
        have hkb : k < 62 := by omega
        have hkb2 : k < l.length := by omega
        clear hkl hkl2
        obtain ⟨c0, c1, c3, -⟩ := HII.out.cells
        have hcz := blk_lt HII.out
        simp only at c0 c1 c3
        have he : ¬ (⟨4, (i2 : Nat), ⟨#[]⟩⟩ : V) = ⟨4, (i : Nat), ⟨#[]⟩⟩ := fun e => hnm.out (HMEM.out.2 (List.mem_cons.2 (.inl e.symm)))
        have hS := hidden (fun (W : World) => CS.out W ⟨4, i2, ⟨#[]⟩⟩ ⟨4, i, ⟨#[]⟩⟩)
        rw [decide_eq_false he] at hS
        have HMEM2 := hidden (show rV (i : Nat) ∈ l ↔ rV (i : Nat) ∈ l2 from HMEM.out.trans ⟨fun h => (List.mem_cons.1 h).elim (fun e => absurd e.symm he) id, fun h => List.mem_cons.2 (.inr h)⟩)
        clear he HMEM
        go_wp2_with fail
        refine (hS.out _).mono ?_
        rintro e w4 ⟨rfl, hK⟩
        have HM4 := hidden (HK.out.trans hK (fun _ _ h => h))
        have HI4 := hidden (HII.out.keeps hK (fun h => h))
        have HT4 := hidden (HTO1.out.keeps hK (fun h => h))
        have HX4 := hidden (HX.out.keeps hK (fun h => h))
        clear hK HK HII HTO1 HX a0 a1 a2 haz c0 c1 c3 hcz
        obtain ⟨a0, a1, a2, -⟩ := HX4.out.cells
        have haz := blk_lt HX4.out
        simp only [rV] at a0 a1 a2
        go_wp2_with fail
        refine (C2.out _ (HM4.out.alloc _)).mono ?_
        rintro e w5 ⟨rfl, hK⟩
        have HV5 := hidden (show IsVar w5 w4.heap.size ⟨4, i2, ⟨#[]⟩⟩ from hK.heap (blk_new w4 _) (fun h => h))
        have HM5 := hidden ((HM4.out.alloc _).trans hK (fun _ _ h => h))
        have HI5 := hidden (HI4.out.keeps (((Keeps.refl (fun _ => False) w4).alloc _).trans hK (fun _ _ h => h)) (fun h => h))
        have HT5 := hidden (HT4.out.keeps (((Keeps.refl (fun _ => False) w4).alloc _).trans hK (fun _ _ h => h)) (fun h => h))
        have hz4 := hidden HM4.out.size
        have hz4b := hidden (blk_lt HI4.out)
        have hz4c := hidden (blk_lt HT4.out)
        clear hK HM4 HI4 HT4 HX4 a0 a1 a2 haz
        obtain ⟨v0, v1, v2, v3, v4, v5⟩ := HV5.out.cells
        have hvz := blk_lt HV5.out
        simp only at v0 v1 v2
        go_wp2_with fail
        go_roundw
        case rel => exact ⟨k + 1, w4.heap.size, ⟨ck, cn, ct⟩, l2, HKL.out, by go_num, rfl, HV5.out.set ⟨ck, cn, ct⟩, HT.out, HMEM2.out, HM5.out.var (r := w4.heap.size) (fun h => by have := hz4.out; omega) _ _ _, HI5.out.keeps ((Keeps.refl (fun k => k = w4.heap.size) w5).var (r := w4.heap.size) (fun _ => rfl) _ _ _) (fun h => by have := hz4b.out; omega), HT5.out.keeps ((Keeps.refl (fun k => k = w4.heap.size) w5).var (r := w4.heap.size) (fun _ => rfl) _ _ _) (fun h => by have := hz4c.out; omega)⟩
        case measure => simp [intOf]; omega
set_option maxHeartbeats 8000000 in
theorem slot_SetDelegate_twice (h : IsHeap w F hb H s) (hi : H[i]? = some (some (p, c))) (hk : c.kind = 2) {b : V} {bs : List V} (hv : c.vals = b :: bs) {dt : V} {l : List V} (hch : DCh H dt l) (hl : l.length < 63) (hm : rV (i : Nat) ∈ l) :
    Calls Try.prog 15 #[.pointer (some ⟨hb, 0, none⟩), V.val ⟨4, i, ⟨#[]⟩⟩, dt.val] w fun e w' => e = .returned (.int .i64 4) ∧ Keeps (fun _ => False) w w' := by
  have HH := hidden h
  have HI := hidden hi
  have CO := hidden (fun (W : World) (hk' : Keeps (fun _ => False) w W) => heap_Of_ok (h.calm hk') hi 2 ⟨#[]⟩ (.inr hk))
  have CD := hidden (fun (W : World) (hk' : Keeps (fun _ => False) w W) (i p : Nat) (c : Cl) (b : V) (bs : List V) (hi : H[i]? = some (some (p, c))) (hk : c.kind = 2) (hv : c.vals = b :: bs) => slot_Delegate_ok (h.calm hk') hi hk hv ⟨#[]⟩)
  have CT := hidden (fun (W : World) (hk' : Keeps (fun _ => False) w W) => heap_Of (h.calm hk') dt 2)
  have CS := hidden (fun (W : World) (a b : V) => value_Same a b W)
  unfold V.val at CO CD CS CT
  have HVV := hidden hv
  have HCH := hidden hch
  have HTO := hidden (show dt.k = 0 ∨ (dt.k = 4 ∧ (ofR H dt 2).2 = 0) from by
    cases hch with
    | nil h0 => exact .inl h0
    | cons hi2 hk2 _ _ => exact .inr ⟨rfl, by rw [show rV _ = (⟨4, _, ⟨#[]⟩⟩ : V) from rfl, ofR_ok hi2 ⟨#[]⟩ (.inr hk2)]⟩)
  have hnm := hidden hm
  clear hm
  clear h hi hk hv hch
  generalize (ofR H dt 2).1 = opa at *
  generalize (ofR H dt 2).2 = oea at *
  obtain ⟨tk, tn, tt⟩ := dt
  simp only at CT HTO
  refine post_gen fun R hR => ?_
  unfold V.val
  go_enter Try.func15, Try.ntmps15
  go_wp2_with fail
  refine (CO.out _ (by repeat (first | exact Keeps.refl _ _ | refine Keeps.alloc ?_ _))).mono ?_
  rintro e w1 ⟨rfl, hK⟩
  have HM1 := hidden ((((Keeps.refl (fun _ => False) w).alloc _).alloc _).trans hK (fun _ _ h => h))
  have HT1 := hidden (show IsVar w1 (w.heap.size + 1) ⟨tk, tn, tt⟩ from hK.heap (new2t w _ _) (fun h => h))
  have HI1 := hidden (show IsVar w1 w.heap.size ⟨4, i, ⟨#[]⟩⟩ from hK.heap (blk_alloc (blk_new w _) _) (fun h => h))
  clear hK CO
  obtain ⟨e0, e1, e2, -⟩ := HT1.out.cells
  have hez := blk_lt HT1.out
  simp only at e0 e1 e2
  rcases HTO.out with h0 | ⟨h0, rfl⟩
  ·
    have hz0 : (tk != 0) = false := by rw [h0]; rfl
    clear h0
    exfalso
    have h0 := HCH.out
    generalize hx : (⟨tk, tn, tt⟩ : V) = x at h0
    cases h0 with
    | nil _ => exact absurd hnm.out (by simp)
    | cons hi2 hk2 hv2 ht2 =>
      have h4 := congrArg V.k hx
      simp only [rV] at h4
      rw [h4] at hz0
      cases hz0
  ·
    have hz0 : (tk != 0) = true := by rw [h0]; rfl
    clear h0
    clear HTO
    go_wp2_with fail
    refine (CT.out _ HM1.out).mono ?_
    rintro e w2 ⟨rfl, hK⟩
    have HM2 := hidden (HM1.out.trans hK (fun _ _ h => h))
    have HT2 := hidden (HT1.out.keeps hK (fun h => h))
    have HI2 := hidden (HI1.out.keeps hK (fun h => h))
    clear hK HM1 HT1 HI1 e0 e1 e2 hez CT
    obtain ⟨e0, e1, e2, -⟩ := HT2.out.cells
    have hez := blk_lt HT2.out
    simp only at e0 e1 e2
    go_wp2_with fail
    clear e0 e1 e2 hez
    go_loopw [11, 12] (fun n u wr => ∃ (k vb : Nat) (x : V) (l' : List V), k + l'.length = l.length ∧ n = .int .i64 (k + 1) ∧ u = .pointer (some ⟨vb, 0, none⟩) ∧ IsVar wr vb x ∧ DCh H x l' ∧ (rV (i : Nat) ∈ l ↔ rV (i : Nat) ∈ l') ∧ Keeps (fun _ => False) w wr ∧ IsVar wr w.heap.size ⟨4, i, ⟨#[]⟩⟩ ∧ IsVar wr (w.heap.size + 1) ⟨tk, tn, tt⟩) (fun n _ _ => l.length + 1 - (intOf n).toNat)
    case atStart => exact ⟨0, w2.heap.size, ⟨tk, tn, tt⟩, l, by simp, rfl, rfl, IsVar.new w2 ⟨tk, tn, tt⟩, HCH.out, Iff.rfl, HM2.out.alloc _, blk_alloc HI2.out _, blk_alloc HT2.out _⟩
    case round =>
      obtain ⟨k, vb, x, l', hkl, rfl, rfl, hX, hch, hmem, hK, hI, hTo⟩ := hrel
      have HX := hidden hX
      have HMEM := hidden hmem
      have HK := hidden hK
      have HII := hidden hI
      have HTO1 := hidden hTo
      clear hX hmem hK hI hTo HM2 HI2 HT2
      obtain ⟨a0, a1, a2, -⟩ := HX.out.cells
      have haz := blk_lt HX.out
      cases hch with
      | nil h0 =>
        rw [h0] at a0
        clear h0
        exact absurd (HMEM.out.1 hnm.out) (by simp)
      | @cons i2 p2 c2 b2 bs2 l2 hi2 hk2 hv2 ht2 =>
        have C2 := hidden (fun (W : World) (hk' : Keeps (fun _ => False) w W) => CD.out W hk' i2 p2 c2 b2 bs2 hi2 hk2 hv2)
        have HT := hidden ht2
        clear hi2 hk2 hv2 ht2
        simp only [rV] at a0 a1 a2
        obtain ⟨ck, cn, ct⟩ := b2
        simp only at C2
        have hkl2 : k + 1 + l2.length = l.length := by rw [← hkl, List.length_cons]; omega
        have HKL := hidden hkl2
        have hkb : k < 62 := by omega
        have hkb2 : k < l.length := by omega
        clear hkl hkl2
        obtain ⟨c0, c1, c3, -⟩ := HII.out.cells
        have hcz := blk_lt HII.out
        simp only at c0 c1 c3
        by_cases he : (⟨4, (i2 : Nat), ⟨#[]⟩⟩ : V) = ⟨4, (i : Nat), ⟨#[]⟩⟩
        · have hS := hidden (fun (W : World) => CS.out W ⟨4, i2, ⟨#[]⟩⟩ ⟨4, i, ⟨#[]⟩⟩)
          rw [decide_eq_true he] at hS
          clear he
          go_wp2_with fail
          refine (hS.out _).mono ?_
          rintro e w4 ⟨rfl, hK⟩
          have HM4 := hidden (HK.out.trans hK (fun _ _ h => h))
          clear hK
          go_wp2_with fail
          exact hR.out _ _ ⟨rfl, HM4.out⟩
        ·
          have hS := hidden (fun (W : World) => CS.out W ⟨4, i2, ⟨#[]⟩⟩ ⟨4, i, ⟨#[]⟩⟩)
          rw [decide_eq_false he] at hS
          have HMEM2 := hidden (show rV (i : Nat) ∈ l ↔ rV (i : Nat) ∈ l2 from HMEM.out.trans ⟨fun h => (List.mem_cons.1 h).elim (fun e => absurd e.symm he) id, fun h => List.mem_cons.2 (.inr h)⟩)
          clear he HMEM
          go_wp2_with fail
          refine (hS.out _).mono ?_
          rintro e w4 ⟨rfl, hK⟩
          have HM4 := hidden (HK.out.trans hK (fun _ _ h => h))
          have HI4 := hidden (HII.out.keeps hK (fun h => h))
          have HT4 := hidden (HTO1.out.keeps hK (fun h => h))
          have HX4 := hidden (HX.out.keeps hK (fun h => h))
          clear hK HK HII HTO1 HX a0 a1 a2 haz c0 c1 c3 hcz
          obtain ⟨a0, a1, a2, -⟩ := HX4.out.cells
          have haz := blk_lt HX4.out
          simp only [rV] at a0 a1 a2
          go_wp2_with fail
          refine (C2.out _ (HM4.out.alloc _)).mono ?_
          rintro e w5 ⟨rfl, hK⟩
          have HV5 := hidden (show IsVar w5 w4.heap.size ⟨4, i2, ⟨#[]⟩⟩ from hK.heap (blk_new w4 _) (fun h => h))
          have HM5 := hidden ((HM4.out.alloc _).trans hK (fun _ _ h => h))
          have HI5 := hidden (HI4.out.keeps (((Keeps.refl (fun _ => False) w4).alloc _).trans hK (fun _ _ h => h)) (fun h => h))
          have HT5 := hidden (HT4.out.keeps (((Keeps.refl (fun _ => False) w4).alloc _).trans hK (fun _ _ h => h)) (fun h => h))
          have hz4 := hidden HM4.out.size
          have hz4b := hidden (blk_lt HI4.out)
          have hz4c := hidden (blk_lt HT4.out)
          clear hK HM4 HI4 HT4 HX4 a0 a1 a2 haz
          obtain ⟨v0, v1, v2, v3, v4, v5⟩ := HV5.out.cells
          have hvz := blk_lt HV5.out
          simp only at v0 v1 v2
          go_wp2_with fail
          go_roundw
          case rel => exact ⟨k + 1, w4.heap.size, ⟨ck, cn, ct⟩, l2, HKL.out, by go_num, rfl, HV5.out.set ⟨ck, cn, ct⟩, HT.out, HMEM2.out, HM5.out.var (r := w4.heap.size) (fun h => by have := hz4.out; omega) _ _ _, HI5.out.keeps ((Keeps.refl (fun k => k = w4.heap.size) w5).var (r := w4.heap.size) (fun _ => rfl) _ _ _) (fun h => by have := hz4b.out; omega), HT5.out.keeps ((Keeps.refl (fun k => k = w4.heap.size) w5).var (r := w4.heap.size) (fun _ => rfl) _ _ _) (fun h => by have := hz4c.out; omega)⟩
          case measure => simp [intOf]; omega
end
end Go.Proofs.Ytmefdniocgcckaa
/- Layer 17: slot: Get, of a table. -/
namespace Go.Proofs.Ytmefdniocgcckaa
open Go.RowKit
set_option maxRecDepth 100000

section
variable {w : World} {F : Nat → Prop} {hb : Nat} {H : List (Option (Nat × Cl))} {s : HSt} {i p : Nat} {c : Cl}
set_option maxHeartbeats 4000000 in
theorem slot_Get_table (h : IsHeap w F hb H s) {ls : List (List Ent)} (hi : H[i]? = some (some (p, c))) (hk : c.kind = 2) (hd : Dels H (rV (i : Nat)) ls) (hl : ls.length ≤ 1048576) (key : V) (hkz : key.t.size ≤ 140737488351232) :
    Calls Try.prog 40 #[.pointer (some ⟨hb, 0, none⟩), V.val ⟨4, i, ⟨#[]⟩⟩, key.val] w fun e w' => e = .returned (.tuple #[(tabR ls key).1.val, .int .i64 (tabR ls key).2]) ∧ Keeps (fun _ => False) w w' := by
  have CO := hidden (fun (W : World) (hk' : Keeps (fun _ => False) w W) => heap_Of_ok (h.calm hk') hi 0 ⟨#[]⟩ (.inl rfl))
  have CT := hidden (fun (W : World) (hk' : Keeps (fun _ => False) w W) => slot_table (h.calm hk') hd hl key hkz)
  have HP := hidden (fun (W : World) (hk' : Keeps (fun _ => False) w W) => show W.cell? ⟨p, 0, none⟩ = some (.int .i64 2) ∧ p < W.heap.size from (by
    obtain ⟨A, cap, lp, tp, An, cn, hblk, -⟩ := held_cell (h.calm hk') hi
    rw [hk] at hblk
    exact ⟨blk_cell hblk 0, blk_lt hblk⟩))
  unfold rV at CT
  unfold V.val at CO CT
  clear h hi hk hd
  generalize tabR ls key = gg at *
  obtain ⟨⟨gk, gn, gt⟩, ge⟩ := gg
  obtain ⟨kk, kn, kt⟩ := key
  simp only at CT
  refine post_gen fun R hR => ?_
  unfold V.val
  go_enter Try.func40, Try.ntmps40
  go_wp2_with fail
  have I0 := hidden (blk_alloc (blk_alloc (blk_new w (.cells #[.int .i64 4, .int .i64 i, .string ⟨#[]⟩] 29)) (.cells #[.int .i64 kk, .int .i64 kn, .string kt] 29)) (.cells #[.int .i64 0, .int .i64 0, .string ⟨#[]⟩] 29))
  have I1 := hidden (new3 w (.cells #[.int .i64 4, .int .i64 i, .string ⟨#[]⟩] 29) (.cells #[.int .i64 kk, .int .i64 kn, .string kt] 29) (.cells #[.int .i64 0, .int .i64 0, .string ⟨#[]⟩] 29))
  have I2 := hidden (new3b w (.cells #[.int .i64 4, .int .i64 i, .string ⟨#[]⟩] 29) (.cells #[.int .i64 kk, .int .i64 kn, .string kt] 29) (.cells #[.int .i64 0, .int .i64 0, .string ⟨#[]⟩] 29))
  refine (CO.out _ (by repeat (first | exact Keeps.refl _ _ | refine Keeps.alloc ?_ _))).mono ?_
  rintro e w1 ⟨rfl, hK⟩
  have HM1 := hidden (((((Keeps.refl (fun _ => False) w).alloc _).alloc _).alloc _).trans hK (fun _ _ h => h))
  have V0 := hidden (show IsVar w1 w.heap.size ⟨4, i, ⟨#[]⟩⟩ from hK.heap I0.out (fun h => h))
  have V1 := hidden (show IsVar w1 (w.heap.size + 1) ⟨kk, kn, kt⟩ from hK.heap I1.out (fun h => h))
  have V2 := hidden (show IsVar w1 (w.heap.size + 2) V.null from hK.heap I2.out (fun h => h))
  clear hK CO I0 I1 I2
  obtain ⟨z0, hpz⟩ := HP.out _ HM1.out
  obtain ⟨a0, a1, a2, -⟩ := V0.out.cells
  obtain ⟨b0, b1, b2, -⟩ := V1.out.cells
  have haz := blk_lt V0.out
  have hbz := blk_lt V1.out
  simp only at a0 a1 a2 b0 b1 b2
  go_wp2_with fail
  refine (CT.out _ HM1.out).mono ?_
  rintro e w2 ⟨rfl, hK⟩
  have HR2 := hidden (V2.out.keeps hK (fun h => h))
  have HM2 := hidden (HM1.out.trans hK (fun _ _ h => h))
  clear hK HM1 V0 V1 V2 z0 hpz a0 a1 a2 b0 b1 b2 haz hbz
  obtain ⟨v0, v1, v2, v3, v4, v5⟩ := HR2.out.cells
  have hvz := blk_lt HR2.out
  simp only [V.null] at v0 v1 v2
  go_wp2_with fail
  obtain ⟨d0, d1, d2, _⟩ := (HR2.out.set ⟨gk, gn, gt⟩).cells
  simp only at d0 d1 d2
  exact bodyPost_ret (v := .tuple #[V.val ⟨gk, gn, gt⟩, .int .i64 ge]) (by simp [results, Try.results40, go_sem, d0, d1, d2, V.val]) rfl (hR.out _ _ ⟨rfl, HM2.out.var (r := w.heap.size + 2) (fun h => by omega) _ _ _⟩)
end
/-- What is thrown for an error. -/
def thrown (e : Int) : ByteArray :=
  if e = 3 then ⟨#[110, 111, 32, 115, 117, 99, 104, 32, 115, 108, 111, 116]⟩ else if e = 1 then ⟨#[111, 117, 116, 32, 111, 102, 32, 114, 97, 110, 103, 101]⟩ else if e = 10 then ⟨#[100, 105, 118, 105, 115, 105, 111, 110, 32, 98, 121, 32, 122, 101, 114, 111]⟩ else if e = 2 ∨ e = 6 ∨ e = 4 then ⟨#[116, 111, 111, 32, 108, 111, 110, 103]⟩ else ⟨#[119, 114, 111, 110, 103, 32, 116, 121, 112, 101]⟩
theorem meta_Text (w : World) (e : Int) : Calls Try.prog 7 #[.int .i64 e] w fun r w' => r = .returned (.string (thrown e)) ∧ w = w' := by
  refine post_gen fun R hR => ?_
  unfold thrown at hR
  go_enter Try.func7, Try.ntmps7
  go_wp2
  all_goals
    refine hR.out _ _ ⟨show Ending.returned (.string _) = .returned (.string _) from ret_str ?_, rfl⟩
    clear hR
    simp_all
end Go.Proofs.Ytmefdniocgcckaa
/- Layer 18: meta: Find. -/
namespace Go.Proofs.Ytmefdniocgcckaa
open Go.RowKit
set_option maxRecDepth 100000

theorem tabR_cases (ls : List (List Ent)) (key : V) : tabR ls key = (V.null, 3) ∨ ∃ x, tabR ls key = (x, 0) := by
  induction ls with
  | nil => exact .inl rfl
  | cons L ls ih =>
    show (if (getR L key).2 = 0 then getR L key else tabR ls key) = _ ∨ ∃ x, (if (getR L key).2 = 0 then getR L key else tabR ls key) = _
    rcases getR_cases L key with ⟨-, e⟩ | ⟨x, -, -, e⟩
    · rw [e, if_neg (by decide)]; exact ih
    · rw [e, if_pos rfl]; exact .inr ⟨_, rfl⟩
section
variable {w : World} {F : Nat → Prop} {hb : Nat} {H : List (Option (Nat × Cl))} {s : HSt} {i p : Nat} {c : Cl}
set_option maxHeartbeats 8000000 in
theorem meta_Find_table (h : IsHeap w F hb H s) (hi : H[i]? = some (some (p, c))) (hk : c.kind = 2) {j q : Nat} {cd : Cl} {bs : List V} (hv : c.vals = ⟨4, (j : Nat), ⟨#[]⟩⟩ :: bs) {ls : List (List Ent)} (hj : H[j]? = some (some (q, cd))) (hkj : cd.kind = 2) (hd : Dels H (rV (j : Nat)) ls) (hl : ls.length ≤ 1048576) (name : ByteArray) (hnz : name.size ≤ 140737488351232) :
    Calls Try.prog 20 #[.pointer (some ⟨hb, 0, none⟩), V.val ⟨4, i, ⟨#[]⟩⟩, .string name] w fun e w' => e = .returned (.tuple #[(tabR ls ⟨3, 0, name⟩).1.val, .bool (decide ((tabR ls ⟨3, 0, name⟩).2 = 0) && methB H (tabR ls ⟨3, 0, name⟩).1)]) ∧ Keeps (fun _ => False) w w' := by
  have CS := hidden (fun (W : World) => value_Str name W)
  have CM := hidden (fun (W : World) (hk' : Keeps (fun _ => False) w W) (x : V) => lay_Method (h.calm hk') x)
  unfold V.val at CS CM
  have CD := hidden (fun (W : World) (hk' : Keeps (fun _ => False) w W) => slot_Delegate_ok (h.calm hk') hi hk hv ⟨#[]⟩)
  have CG := hidden (fun (W : World) (hk' : Keeps (fun _ => False) w W) => slot_Get_table (h.calm hk') hj hkj hd hl ⟨3, 0, name⟩ hnz)
  have HGC := hidden (tabR_cases ls ⟨3, 0, name⟩)
  unfold V.val at CD CG
  clear h hi hk hv hj hkj hd
  generalize tabR ls ⟨3, 0, name⟩ = gg at *
  obtain ⟨⟨gk, gn, gt⟩, ge⟩ := gg
  simp only at CG
  refine post_gen fun R hR => ?_
  unfold V.val
  go_enter Try.func20, Try.ntmps20
  go_wp2_with fail
  have I0 := hidden (blk_alloc (blk_alloc (blk_new w (.cells #[.int .i64 4, .int .i64 i, .string ⟨#[]⟩] 29)) (.cells #[.int .i64 0, .int .i64 0, .string ⟨#[]⟩] 29)) (.cells #[.int .i64 0, .int .i64 0, .string ⟨#[]⟩] 29))
  have I1 := hidden (new3 w (.cells #[.int .i64 4, .int .i64 i, .string ⟨#[]⟩] 29) (.cells #[.int .i64 0, .int .i64 0, .string ⟨#[]⟩] 29) (.cells #[.int .i64 0, .int .i64 0, .string ⟨#[]⟩] 29))
  have I2 := hidden (new3b w (.cells #[.int .i64 4, .int .i64 i, .string ⟨#[]⟩] 29) (.cells #[.int .i64 0, .int .i64 0, .string ⟨#[]⟩] 29) (.cells #[.int .i64 0, .int .i64 0, .string ⟨#[]⟩] 29))
  refine (CD.out _ (by repeat (first | exact Keeps.refl _ _ | refine Keeps.alloc ?_ _))).mono ?_
  rintro e w1 ⟨rfl, hK⟩
  have HM1 := hidden (((((Keeps.refl (fun _ => False) w).alloc _).alloc _).alloc _).trans hK (fun _ _ h => h))
  have V0 := hidden (show IsVar w1 w.heap.size ⟨4, i, ⟨#[]⟩⟩ from hK.heap I0.out (fun h => h))
  have V1 := hidden (show IsVar w1 (w.heap.size + 1) V.null from hK.heap I1.out (fun h => h))
  have V2 := hidden (show IsVar w1 (w.heap.size + 2) V.null from hK.heap I2.out (fun h => h))
  clear hK CD I0 I1 I2
  go_wp2_with fail
  have VD := hidden (IsVar.new w1 ⟨4, j, ⟨#[]⟩⟩)
  have k2 := ((Keeps.refl (fun _ => False) w1).alloc (.cells #[.int .i64 4, .int .i64 j, .string ⟨#[]⟩] 29))
  have HM3 := hidden (HM1.out.trans k2 (fun _ _ h => h))
  have X3 := hidden (V2.out.keeps k2 (fun h => h))
  have R3 := hidden (V1.out.keeps k2 (fun h => h))
  have HVD := hidden (show w.heap.size + 2 < w1.heap.size from blk_lt V2.out)
  simp only at VD
  clear k2 HM1 V0 V1 V2
  generalize w1.heap.size = vd at *
  generalize w1.alloc (.cells #[.int .i64 4, .int .i64 j, .string ⟨#[]⟩] 29) = w3 at *
  have SK := hidden (fun (W : World) (hk' : Keeps (fun _ => False) w3 W) => show W.cell? ⟨vd, 0, none⟩ = some (.int .i64 4) ∧ W.cell? ⟨vd, 1, none⟩ = some (.int .i64 j) ∧ W.cell? ⟨vd, 2, none⟩ = some (.string ⟨#[]⟩) from (have b := (VD.out.keeps hk' (fun h => h)).cells; ⟨b.1, b.2.1, b.2.2.1⟩))
  have hvd2 : vd ≠ w.heap.size + 2 := by have := HVD.out; omega
  go_region_held3 (fun W => W.cell? ⟨vd, 0, none⟩ = some (.int .i64 4) ∧ W.cell? ⟨vd, 1, none⟩ = some (.int .i64 j) ∧ W.cell? ⟨vd, 2, none⟩ = some (.string ⟨#[]⟩)) (first | exact SP.out _ _ _ | ((refine SK.out _ ?_); (repeat (first | exact K5.out | exact K4.out | exact Keeps.refl _ _ | refine Keeps.drewN ?_ _ | refine Keeps.drew ?_)); done)) (first | (go_at_call 16; refine (CS.out _).mono ?_; rintro e w4 ⟨rfl, h1⟩; have K4 := hidden (((Keeps.refl (fun _ => False) w3).drewN _).trans h1 (fun _ _ h => h)); clear h1) | (go_at_call 40; refine (CG.out _ (HM3.out.trans K4.out (fun _ _ h => h))).mono ?_; rintro e w5 ⟨rfl, h1⟩; have K5 := hidden (K4.out.trans h1 (fun _ _ h => h)); have X5 := hidden (X3.out.keeps K5.out (fun h => h)); have SP := hidden (fun (x y z : Value) => show (((w5.setCell ⟨w.heap.size + 2, 0, none⟩ x).setCell ⟨w.heap.size + 2, 1, none⟩ y).setCell ⟨w.heap.size + 2, 2, none⟩ z).cell? ⟨vd, 0, none⟩ = some (.int .i64 4) ∧ (((w5.setCell ⟨w.heap.size + 2, 0, none⟩ x).setCell ⟨w.heap.size + 2, 1, none⟩ y).setCell ⟨w.heap.size + 2, 2, none⟩ z).cell? ⟨vd, 1, none⟩ = some (.int .i64 j) ∧ (((w5.setCell ⟨w.heap.size + 2, 0, none⟩ x).setCell ⟨w.heap.size + 2, 1, none⟩ y).setCell ⟨w.heap.size + 2, 2, none⟩ z).cell? ⟨vd, 2, none⟩ = some (.string ⟨#[]⟩) from (have s0 := SK.out _ K5.out; have kv := (Keeps.refl (fun k => k = w.heap.size + 2) w5).var (r := w.heap.size + 2) (fun _ => rfl) x y z; ⟨kv.cell s0.1 hvd2, kv.cell s0.2.1 hvd2, kv.cell s0.2.2 hvd2⟩)); obtain ⟨v0, v1, v2, v3, v4, v5⟩ := X5.out.cells; have hvz := blk_lt X5.out; simp only [V.null] at v0 v1 v2; clear h1))
  have X6 := hidden (X5.out.set ⟨gk, gn, gt⟩)
  have k6 := ((Keeps.refl (fun k => k = w.heap.size + 2) w5).var (r := w.heap.size + 2) (fun _ => rfl) (.int .i64 gk) (.int .i64 gn) (.string gt))
  have R6 := hidden ((R3.out.keeps K5.out (fun h => h)).keeps k6 (by simp))
  have HM6 := hidden ((HM3.out.trans K5.out (fun _ _ h => h)).var (r := w.heap.size + 2) (fun h => absurd h (by omega)) (.int .i64 gk) (.int .i64 gn) (.string gt))
  clear SP SK K5 K4 X5 X3 R3 HM3 VD HVD v0 v1 v2 v3 v4 v5 hvz k6 CG hvd2
  simp only at X6
  generalize ((w5.setCell ⟨w.heap.size + 2, 0, none⟩ (.int .i64 gk)).setCell ⟨w.heap.size + 2, 1, none⟩ (.int .i64 gn)).setCell ⟨w.heap.size + 2, 2, none⟩ (.string gt) = w6 at *
  have SK := hidden (fun (W : World) (hk' : Keeps (fun _ => False) w6 W) => show W.cell? ⟨w.heap.size + 2, 0, none⟩ = some (.int .i64 gk) ∧ W.cell? ⟨w.heap.size + 2, 1, none⟩ = some (.int .i64 gn) ∧ W.cell? ⟨w.heap.size + 2, 2, none⟩ = some (.string gt) from (have b := (X6.out.keeps hk' (fun h => h)).cells; ⟨b.1, b.2.1, b.2.2.1⟩))
  rcases HGC.out with e0 | ⟨x, e0⟩
  · simp only [V.null, Prod.mk.injEq, V.mk.injEq] at e0
    obtain ⟨⟨rfl, rfl, rfl⟩, rfl⟩ := e0
    obtain ⟨v0, v1, v2, v3, v4, v5⟩ := R6.out.cells
    have hvz := blk_lt R6.out
    simp only [V.null] at v0 v1 v2
    go_wp2_with fail
    refine wp_region_noPanic ?_
    refine wp_region_held_drew (S := (fun W => W.cell? ⟨w.heap.size + 2, 0, none⟩ = some (.int .i64 0) ∧ W.cell? ⟨w.heap.size + 2, 1, none⟩ = some (.int .i64 0) ∧ W.cell? ⟨w.heap.size + 2, 2, none⟩ = some (.string ⟨#[]⟩))) (by kernel_rfl) ?_ (fun hHeld => ?_)
    · ((try dsimp only); (first | ((refine SK.out _ ?_); (repeat (first | exact Keeps.refl _ _ | refine Keeps.drewN ?_ _ | refine Keeps.drew ?_)); done) | exact (have s := SK.out _ ((Keeps.refl _ w6).drewN 1); have kv := (Keeps.refl (fun k => k = w.heap.size + 1) (w6.drewN 1)).var (r := w.heap.size + 1) (fun _ => rfl) (.int .i64 0) (.int .i64 0) (.string ⟨#[]⟩); ⟨kv.cell s.1 (by simp), kv.cell s.2.1 (by simp), kv.cell s.2.2 (by simp)⟩)))
    refine wpAnyH_take (i := 0) (oi := ⟨_, _, _, _, _, _⟩) (v := ?_) rfl (by kernel_rfl) (by kernel_rfl) (by kernel_rfl) (fun _ _ _ h => h) (Or.inl ⟨by rfl, ?_⟩) hHeld ?_
    rotate_left
    · (intro w' hSw; (try dsimp only at hSw); go_simp; (try with_reducible rfl))
    try simp only [Act.put, List.setIfInBounds_toArray, List.set_cons_zero, List.set_cons_succ]
    refine wpAnyH_take (i := 1) (oi := ⟨_, _, _, _, _, _⟩) (v := ?_) rfl (by kernel_rfl) (by kernel_rfl) (by kernel_rfl) (fun _ _ _ h => h) (Or.inl ⟨by rfl, ?_⟩) hHeld ?_
    rotate_left
    · (intro w' hSw; (try dsimp only at hSw); go_simp; (try with_reducible rfl))
    try simp only [Act.put, List.setIfInBounds_toArray, List.set_cons_zero, List.set_cons_succ]
    refine wpAnyH_take (i := 2) (oi := ⟨_, _, _, _, _, _⟩) (v := ?_) rfl (by kernel_rfl) (by kernel_rfl) (by kernel_rfl) (fun _ _ _ h => h) (Or.inl ⟨by rfl, ?_⟩) hHeld ?_
    rotate_left
    · (intro w' hSw; (try dsimp only at hSw); go_simp; (try with_reducible rfl))
    try simp only [Act.put, List.setIfInBounds_toArray, List.set_cons_zero, List.set_cons_succ]
    refine wpAnyH_take (i := 3) (oi := ⟨_, _, _, _, _, _⟩) (v := ?_) rfl (by kernel_rfl) (by kernel_rfl) (by kernel_rfl) (fun _ _ _ h => h) (Or.inl ⟨by rfl, ?_⟩) hHeld ?_
    rotate_left
    · (intro w' hSw; (try dsimp only at hSw); go_simp; (try with_reducible rfl))
    try simp only [Act.put, List.setIfInBounds_toArray, List.set_cons_zero, List.set_cons_succ]
    refine wpAnyH_take (i := 4) (oi := ⟨_, _, _, _, _, _⟩) (v := undef) rfl (by kernel_rfl) (by kernel_rfl) (by kernel_rfl) (fun _ _ _ h => h) (Or.inr ⟨by rfl, rfl⟩) hHeld ?_
    try simp only [Act.put, List.setIfInBounds_toArray, List.set_cons_zero, List.set_cons_succ]
    refine wpAnyH_take (i := 5) (oi := ⟨_, _, _, _, _, _⟩) (v := undef) rfl (by kernel_rfl) (by kernel_rfl) (by kernel_rfl) (fun _ _ _ h => h) (Or.inr ⟨by rfl, rfl⟩) hHeld ?_
    try simp only [Act.put, List.setIfInBounds_toArray, List.set_cons_zero, List.set_cons_succ]
    refine wpAnyH_take (i := 6) (oi := ⟨_, _, _, _, _, _⟩) (v := undef) rfl (by kernel_rfl) (by kernel_rfl) (by kernel_rfl) (fun _ _ _ h => h) (Or.inr ⟨by rfl, rfl⟩) hHeld ?_
    try simp only [Act.put, List.setIfInBounds_toArray, List.set_cons_zero, List.set_cons_succ]
    refine wpAnyH_take (i := 7) (oi := ⟨_, _, _, _, _, _⟩) (v := ?_) rfl (by kernel_rfl) (by kernel_rfl) (by kernel_rfl) (fun _ _ _ h => h) (Or.inl ⟨by rfl, ?_⟩) hHeld ?_
    rotate_left
    · (intro w' hSw; (try dsimp only at hSw); go_simp; (try with_reducible rfl))
    try simp only [Act.put, List.setIfInBounds_toArray, List.set_cons_zero, List.set_cons_succ]
    refine wpAnyH_ready (rs := [8]) (by kernel_rfl) (by simp) ?_
    refine AllReadyH.cons (o := ⟨_, _, _, _, _, _⟩) rfl (fun K hK => ?_) AllReadyH.nil
    go_simp
    refine hK.out _ _ ?_ (fun hH2 => ?_)
    · ((try dsimp only); (first | ((refine SK.out _ ?_); (repeat (first | exact Keeps.refl _ _ | refine Keeps.drewN ?_ _ | refine Keeps.drew ?_)); done) | exact (have s := SK.out _ ((Keeps.refl _ w6).drewN 1); have kv := (Keeps.refl (fun k => k = w.heap.size + 1) (w6.drewN 1)).var (r := w.heap.size + 1) (fun _ => rfl) (.int .i64 0) (.int .i64 0) (.string ⟨#[]⟩); ⟨kv.cell s.1 (by simp), kv.cell s.2.1 (by simp), kv.cell s.2.2 (by simp)⟩)))
    clear hK K hHeld
    have hHeld := hH2
    clear hH2
    try simp only [Act.put, List.setIfInBounds_toArray, List.set_cons_zero, List.set_cons_succ]
    refine wpAnyH_take (i := 9) (oi := ⟨_, _, _, _, _, _⟩) (v := ?_) rfl (by kernel_rfl) (by kernel_rfl) (by kernel_rfl) (fun _ _ _ h => h) (Or.inl ⟨by rfl, ?_⟩) hHeld ?_
    rotate_left
    · (intro w' hSw; (try dsimp only at hSw); go_simp; (try with_reducible rfl))
    try simp only [Act.put, List.setIfInBounds_toArray, List.set_cons_zero, List.set_cons_succ]
    refine wpAnyH_done (by kernel_rfl) ?_ _
    refine NoPanic.normal ?_
    clear hHeld
    go_wp2_with fail
    obtain ⟨d0, d1, d2, _⟩ := ((R6.out.set V.null).keeps ((Keeps.refl (fun _ => False) _).drew) (fun h => h)).cells
    simp only [V.null] at d0 d1 d2
    exact bodyPost_ret (v := .tuple #[V.val V.null, .bool false]) (by simp [results, Try.results20, go_sem, d0, d1, d2, V.val, V.null]) rfl (hR.out _ _ ⟨rfl, (HM6.out.var (r := w.heap.size + 1) (fun h => by omega) _ _ _).drew⟩)
  · simp only [Prod.mk.injEq] at e0
    obtain ⟨-, rfl⟩ := e0
    have CMM := hidden (fun (W : World) (hk' : Keeps (fun _ => False) w6 W) => CM.out W (HM6.out.trans hk' (fun _ _ h => h)) ⟨gk, gn, gt⟩)
    simp only at CMM
    generalize methB H ⟨gk, gn, gt⟩ = mb at *
    go_wp2_with fail
    go_region_held3 (fun W => W.cell? ⟨w.heap.size + 2, 0, none⟩ = some (.int .i64 gk) ∧ W.cell? ⟨w.heap.size + 2, 1, none⟩ = some (.int .i64 gn) ∧ W.cell? ⟨w.heap.size + 2, 2, none⟩ = some (.string gt)) (first | exact SP.out _ _ _ | ((refine SK.out _ ?_); (repeat (first | exact K7.out | exact Keeps.refl _ _ | refine Keeps.drewN ?_ _ | refine Keeps.drew ?_)); done)) (first | (go_at_call 39; refine (CMM.out _ ((Keeps.refl _ w6).drewN _)).mono ?_; rintro e w7 ⟨rfl, h1⟩; have K7 := hidden (((Keeps.refl (fun _ => False) w6).drewN _).trans h1 (fun _ _ h => h)); have R7 := hidden (R6.out.keeps K7.out (fun h => h)); have SP := hidden (fun (x y z : Value) => show (((w7.setCell ⟨w.heap.size + 1, 0, none⟩ x).setCell ⟨w.heap.size + 1, 1, none⟩ y).setCell ⟨w.heap.size + 1, 2, none⟩ z).cell? ⟨w.heap.size + 2, 0, none⟩ = some (.int .i64 gk) ∧ (((w7.setCell ⟨w.heap.size + 1, 0, none⟩ x).setCell ⟨w.heap.size + 1, 1, none⟩ y).setCell ⟨w.heap.size + 1, 2, none⟩ z).cell? ⟨w.heap.size + 2, 1, none⟩ = some (.int .i64 gn) ∧ (((w7.setCell ⟨w.heap.size + 1, 0, none⟩ x).setCell ⟨w.heap.size + 1, 1, none⟩ y).setCell ⟨w.heap.size + 1, 2, none⟩ z).cell? ⟨w.heap.size + 2, 2, none⟩ = some (.string gt) from (have s0 := SK.out _ K7.out; have kv := (Keeps.refl (fun k => k = w.heap.size + 1) w7).var (r := w.heap.size + 1) (fun _ => rfl) x y z; ⟨kv.cell s0.1 (by simp), kv.cell s0.2.1 (by simp), kv.cell s0.2.2 (by simp)⟩)); obtain ⟨v0, v1, v2, v3, v4, v5⟩ := R7.out.cells; have hvz := blk_lt R7.out; simp only [V.null] at v0 v1 v2; clear h1))
    all_goals
      go_wp2_with fail
      obtain ⟨d0, d1, d2, _⟩ := (R7.out.set ⟨gk, gn, gt⟩).cells
      simp only at d0 d1 d2
      exact bodyPost_ret (v := .tuple #[V.val ⟨gk, gn, gt⟩, .bool mb]) (by simp [results, Try.results20, go_sem, d0, d1, d2, V.val]) rfl (hR.out _ _ ⟨by simp [V.val], (HM6.out.trans K7.out (fun _ _ h => h)).var (r := w.heap.size + 1) (fun h => by omega) _ _ _⟩)
end
end Go.Proofs.Ytmefdniocgcckaa
/- Layer 18: meta: Find. -/
namespace Go.Proofs.Ytmefdniocgcckaa
open Go.RowKit
set_option maxRecDepth 100000

section
variable {w : World} {F : Nat → Prop} {hb : Nat} {H : List (Option (Nat × Cl))} {s : HSt} {i p : Nat} {c : Cl}
set_option maxHeartbeats 8000000 in
theorem meta_Find_instance (h : IsHeap w F hb H s) (hi : H[i]? = some (some (p, c))) (hk : c.kind = 4) (hof : (ofR H ⟨4, i, ⟨#[]⟩⟩ 2).2 ≠ 0) {j q : Nat} {cd : Cl} {bs : List V} (hv : c.vals = ⟨4, (j : Nat), ⟨#[]⟩⟩ :: bs) (hj : H[j]? = some (some (q, cd))) (hkj : cd.kind = 3) {tb : Nat} {L : List Ent} {sr : Int} (hc : cd.tab = some (tb, L, sr)) (hs : sr < 1073741824) (name : ByteArray) (hnz : name.size ≤ 140737488351232) :
    Calls Try.prog 20 #[.pointer (some ⟨hb, 0, none⟩), V.val ⟨4, i, ⟨#[]⟩⟩, .string name] w fun e w' => e = .returned (.tuple #[(getR L ⟨3, 0, name⟩).1.val, .bool (decide ((getR L ⟨3, 0, name⟩).2 = 0) && methB H (getR L ⟨3, 0, name⟩).1)]) ∧ Keeps (fun _ => False) w w' := by
  have CS := hidden (fun (W : World) => value_Str name W)
  have CM := hidden (fun (W : World) (hk' : Keeps (fun _ => False) w W) (x : V) => lay_Method (h.calm hk') x)
  unfold V.val at CS CM
  have CD := hidden (fun (W : World) (hk' : Keeps (fun _ => False) w W) => slot_Delegate_no (h.calm hk') ⟨4, i, ⟨#[]⟩⟩ hof)
  have CO := hidden (fun (W : World) (hk' : Keeps (fun _ => False) w W) => lay_Of_ok (h.calm hk') hi hk hv ⟨#[]⟩)
  have CG := hidden (fun (W : World) (hk' : Keeps (fun _ => False) w W) => lay_Find (h.calm hk') hj hkj hc hs ⟨#[]⟩ ⟨3, 0, name⟩ hnz)
  have HGC := hidden (show getR L ⟨3, 0, name⟩ = (V.null, 3) ∨ ∃ x, getR L ⟨3, 0, name⟩ = (x, 0) from by
    rcases getR_cases L ⟨3, 0, name⟩ with ⟨-, e⟩ | ⟨x, -, -, e⟩
    · exact .inl e
    · exact .inr ⟨_, e⟩)
  unfold V.val at CD CO CG
  clear h hi hk hv hj hkj hc hs hof
  generalize getR L ⟨3, 0, name⟩ = gg at *
  obtain ⟨⟨gk, gn, gt⟩, ge⟩ := gg
  simp only at CG
  refine post_gen fun R hR => ?_
  unfold V.val
  go_enter Try.func20, Try.ntmps20
  go_wp2_with fail
  have I0 := hidden (blk_alloc (blk_alloc (blk_new w (.cells #[.int .i64 4, .int .i64 i, .string ⟨#[]⟩] 29)) (.cells #[.int .i64 0, .int .i64 0, .string ⟨#[]⟩] 29)) (.cells #[.int .i64 0, .int .i64 0, .string ⟨#[]⟩] 29))
  have I1 := hidden (new3 w (.cells #[.int .i64 4, .int .i64 i, .string ⟨#[]⟩] 29) (.cells #[.int .i64 0, .int .i64 0, .string ⟨#[]⟩] 29) (.cells #[.int .i64 0, .int .i64 0, .string ⟨#[]⟩] 29))
  have I2 := hidden (new3b w (.cells #[.int .i64 4, .int .i64 i, .string ⟨#[]⟩] 29) (.cells #[.int .i64 0, .int .i64 0, .string ⟨#[]⟩] 29) (.cells #[.int .i64 0, .int .i64 0, .string ⟨#[]⟩] 29))
  refine (CD.out _ (by repeat (first | exact Keeps.refl _ _ | refine Keeps.alloc ?_ _))).mono ?_
  rintro e w1 ⟨rfl, hK⟩
  have HM1 := hidden (((((Keeps.refl (fun _ => False) w).alloc _).alloc _).alloc _).trans hK (fun _ _ h => h))
  have V0 := hidden (show IsVar w1 w.heap.size ⟨4, i, ⟨#[]⟩⟩ from hK.heap I0.out (fun h => h))
  have V1 := hidden (show IsVar w1 (w.heap.size + 1) V.null from hK.heap I1.out (fun h => h))
  have V2 := hidden (show IsVar w1 (w.heap.size + 2) V.null from hK.heap I2.out (fun h => h))
  clear hK CD I0 I1 I2
  obtain ⟨a0, a1, a2, a3, a4, a5⟩ := V0.out.cells
  have hvz := blk_lt V0.out
  simp only at a0 a1 a2
  simp only [V.null]
  go_wp2_with fail
  refine (CO.out _ (HM1.out.alloc _)).mono ?_
  rintro e w2 ⟨rfl, hK⟩
  have HK2 := hidden (((Keeps.refl (fun _ => False) w1).alloc _).trans hK (fun _ _ h => h))
  have HM2 := hidden (HM1.out.trans HK2.out (fun _ _ h => h))
  have U1 := hidden (V1.out.keeps HK2.out (fun h => h))
  have U2 := hidden (V2.out.keeps HK2.out (fun h => h))
  clear hK CO a0 a1 a2 a3 a4 a5 hvz HM1 V0 V1 V2 HK2
  go_wp2_with fail
  have VD := hidden (IsVar.new w2 ⟨4, j, ⟨#[]⟩⟩)
  have k2 := ((Keeps.refl (fun _ => False) w2).alloc (.cells #[.int .i64 4, .int .i64 j, .string ⟨#[]⟩] 29))
  have HM3 := hidden (HM2.out.trans k2 (fun _ _ h => h))
  have X3 := hidden (U2.out.keeps k2 (fun h => h))
  have R3 := hidden (U1.out.keeps k2 (fun h => h))
  have HVD := hidden (show w.heap.size + 2 < w2.heap.size from blk_lt U2.out)
  simp only at VD
  clear k2 HM2 U1 U2
  generalize w2.heap.size = vd at *
  generalize w2.alloc (.cells #[.int .i64 4, .int .i64 j, .string ⟨#[]⟩] 29) = w3 at *
  have SK := hidden (fun (W : World) (hk' : Keeps (fun _ => False) w3 W) => show W.cell? ⟨vd, 0, none⟩ = some (.int .i64 4) ∧ W.cell? ⟨vd, 1, none⟩ = some (.int .i64 j) ∧ W.cell? ⟨vd, 2, none⟩ = some (.string ⟨#[]⟩) from (have b := (VD.out.keeps hk' (fun h => h)).cells; ⟨b.1, b.2.1, b.2.2.1⟩))
  have hvd2 : vd ≠ w.heap.size + 2 := by have := HVD.out; omega
  go_region_held3 (fun W => W.cell? ⟨vd, 0, none⟩ = some (.int .i64 4) ∧ W.cell? ⟨vd, 1, none⟩ = some (.int .i64 j) ∧ W.cell? ⟨vd, 2, none⟩ = some (.string ⟨#[]⟩)) (first | exact SP.out _ _ _ | ((refine SK.out _ ?_); (repeat (first | exact K5.out | exact K4.out | exact Keeps.refl _ _ | refine Keeps.drewN ?_ _ | refine Keeps.drew ?_)); done)) (first | (go_at_call 16; refine (CS.out _).mono ?_; rintro e w4 ⟨rfl, h1⟩; have K4 := hidden (((Keeps.refl (fun _ => False) w3).drewN _).trans h1 (fun _ _ h => h)); clear h1) | (go_at_call 42; refine (CG.out _ (HM3.out.trans K4.out (fun _ _ h => h))).mono ?_; rintro e w5 ⟨rfl, h1⟩; have K5 := hidden (K4.out.trans h1 (fun _ _ h => h)); have X5 := hidden (X3.out.keeps K5.out (fun h => h)); have SP := hidden (fun (x y z : Value) => show (((w5.setCell ⟨w.heap.size + 2, 0, none⟩ x).setCell ⟨w.heap.size + 2, 1, none⟩ y).setCell ⟨w.heap.size + 2, 2, none⟩ z).cell? ⟨vd, 0, none⟩ = some (.int .i64 4) ∧ (((w5.setCell ⟨w.heap.size + 2, 0, none⟩ x).setCell ⟨w.heap.size + 2, 1, none⟩ y).setCell ⟨w.heap.size + 2, 2, none⟩ z).cell? ⟨vd, 1, none⟩ = some (.int .i64 j) ∧ (((w5.setCell ⟨w.heap.size + 2, 0, none⟩ x).setCell ⟨w.heap.size + 2, 1, none⟩ y).setCell ⟨w.heap.size + 2, 2, none⟩ z).cell? ⟨vd, 2, none⟩ = some (.string ⟨#[]⟩) from (have s0 := SK.out _ K5.out; have kv := (Keeps.refl (fun k => k = w.heap.size + 2) w5).var (r := w.heap.size + 2) (fun _ => rfl) x y z; ⟨kv.cell s0.1 hvd2, kv.cell s0.2.1 hvd2, kv.cell s0.2.2 hvd2⟩)); obtain ⟨v0, v1, v2, v3, v4, v5⟩ := X5.out.cells; have hvz := blk_lt X5.out; simp only [V.null] at v0 v1 v2; clear h1))
  have X6 := hidden (X5.out.set ⟨gk, gn, gt⟩)
  have k6 := ((Keeps.refl (fun k => k = w.heap.size + 2) w5).var (r := w.heap.size + 2) (fun _ => rfl) (.int .i64 gk) (.int .i64 gn) (.string gt))
  have R6 := hidden ((R3.out.keeps K5.out (fun h => h)).keeps k6 (by simp))
  have HM6 := hidden ((HM3.out.trans K5.out (fun _ _ h => h)).var (r := w.heap.size + 2) (fun h => absurd h (by omega)) (.int .i64 gk) (.int .i64 gn) (.string gt))
  clear SP SK K5 K4 X5 X3 R3 HM3 VD HVD v0 v1 v2 v3 v4 v5 hvz k6 CG hvd2
  simp only at X6
  generalize ((w5.setCell ⟨w.heap.size + 2, 0, none⟩ (.int .i64 gk)).setCell ⟨w.heap.size + 2, 1, none⟩ (.int .i64 gn)).setCell ⟨w.heap.size + 2, 2, none⟩ (.string gt) = w6 at *
  have SK := hidden (fun (W : World) (hk' : Keeps (fun _ => False) w6 W) => show W.cell? ⟨w.heap.size + 2, 0, none⟩ = some (.int .i64 gk) ∧ W.cell? ⟨w.heap.size + 2, 1, none⟩ = some (.int .i64 gn) ∧ W.cell? ⟨w.heap.size + 2, 2, none⟩ = some (.string gt) from (have b := (X6.out.keeps hk' (fun h => h)).cells; ⟨b.1, b.2.1, b.2.2.1⟩))
  rcases HGC.out with e0 | ⟨x, e0⟩
  · simp only [V.null, Prod.mk.injEq, V.mk.injEq] at e0
    obtain ⟨⟨rfl, rfl, rfl⟩, rfl⟩ := e0
    obtain ⟨v0, v1, v2, v3, v4, v5⟩ := R6.out.cells
    have hvz := blk_lt R6.out
    simp only [V.null] at v0 v1 v2
    go_wp2_with fail
    refine wp_region_noPanic ?_
    refine wp_region_held_drew (S := (fun W => W.cell? ⟨w.heap.size + 2, 0, none⟩ = some (.int .i64 0) ∧ W.cell? ⟨w.heap.size + 2, 1, none⟩ = some (.int .i64 0) ∧ W.cell? ⟨w.heap.size + 2, 2, none⟩ = some (.string ⟨#[]⟩))) (by kernel_rfl) ?_ (fun hHeld => ?_)
    · ((try dsimp only); (first | ((refine SK.out _ ?_); (repeat (first | exact Keeps.refl _ _ | refine Keeps.drewN ?_ _ | refine Keeps.drew ?_)); done) | exact (have s := SK.out _ ((Keeps.refl _ w6).drewN 1); have kv := (Keeps.refl (fun k => k = w.heap.size + 1) (w6.drewN 1)).var (r := w.heap.size + 1) (fun _ => rfl) (.int .i64 0) (.int .i64 0) (.string ⟨#[]⟩); ⟨kv.cell s.1 (by simp), kv.cell s.2.1 (by simp), kv.cell s.2.2 (by simp)⟩)))
    refine wpAnyH_take (i := 0) (oi := ⟨_, _, _, _, _, _⟩) (v := ?_) rfl (by kernel_rfl) (by kernel_rfl) (by kernel_rfl) (fun _ _ _ h => h) (Or.inl ⟨by rfl, ?_⟩) hHeld ?_
    rotate_left
    · (intro w' hSw; (try dsimp only at hSw); go_simp; (try with_reducible rfl))
    try simp only [Act.put, List.setIfInBounds_toArray, List.set_cons_zero, List.set_cons_succ]
    refine wpAnyH_take (i := 1) (oi := ⟨_, _, _, _, _, _⟩) (v := ?_) rfl (by kernel_rfl) (by kernel_rfl) (by kernel_rfl) (fun _ _ _ h => h) (Or.inl ⟨by rfl, ?_⟩) hHeld ?_
    rotate_left
    · (intro w' hSw; (try dsimp only at hSw); go_simp; (try with_reducible rfl))
    try simp only [Act.put, List.setIfInBounds_toArray, List.set_cons_zero, List.set_cons_succ]
    refine wpAnyH_take (i := 2) (oi := ⟨_, _, _, _, _, _⟩) (v := ?_) rfl (by kernel_rfl) (by kernel_rfl) (by kernel_rfl) (fun _ _ _ h => h) (Or.inl ⟨by rfl, ?_⟩) hHeld ?_
    rotate_left
    · (intro w' hSw; (try dsimp only at hSw); go_simp; (try with_reducible rfl))
    try simp only [Act.put, List.setIfInBounds_toArray, List.set_cons_zero, List.set_cons_succ]
    refine wpAnyH_take (i := 3) (oi := ⟨_, _, _, _, _, _⟩) (v := ?_) rfl (by kernel_rfl) (by kernel_rfl) (by kernel_rfl) (fun _ _ _ h => h) (Or.inl ⟨by rfl, ?_⟩) hHeld ?_
    rotate_left
    · (intro w' hSw; (try dsimp only at hSw); go_simp; (try with_reducible rfl))
    try simp only [Act.put, List.setIfInBounds_toArray, List.set_cons_zero, List.set_cons_succ]
    refine wpAnyH_take (i := 4) (oi := ⟨_, _, _, _, _, _⟩) (v := undef) rfl (by kernel_rfl) (by kernel_rfl) (by kernel_rfl) (fun _ _ _ h => h) (Or.inr ⟨by rfl, rfl⟩) hHeld ?_
    try simp only [Act.put, List.setIfInBounds_toArray, List.set_cons_zero, List.set_cons_succ]
    refine wpAnyH_take (i := 5) (oi := ⟨_, _, _, _, _, _⟩) (v := undef) rfl (by kernel_rfl) (by kernel_rfl) (by kernel_rfl) (fun _ _ _ h => h) (Or.inr ⟨by rfl, rfl⟩) hHeld ?_
    try simp only [Act.put, List.setIfInBounds_toArray, List.set_cons_zero, List.set_cons_succ]
    refine wpAnyH_take (i := 6) (oi := ⟨_, _, _, _, _, _⟩) (v := undef) rfl (by kernel_rfl) (by kernel_rfl) (by kernel_rfl) (fun _ _ _ h => h) (Or.inr ⟨by rfl, rfl⟩) hHeld ?_
    try simp only [Act.put, List.setIfInBounds_toArray, List.set_cons_zero, List.set_cons_succ]
    refine wpAnyH_take (i := 7) (oi := ⟨_, _, _, _, _, _⟩) (v := ?_) rfl (by kernel_rfl) (by kernel_rfl) (by kernel_rfl) (fun _ _ _ h => h) (Or.inl ⟨by rfl, ?_⟩) hHeld ?_
    rotate_left
    · (intro w' hSw; (try dsimp only at hSw); go_simp; (try with_reducible rfl))
    try simp only [Act.put, List.setIfInBounds_toArray, List.set_cons_zero, List.set_cons_succ]
    refine wpAnyH_ready (rs := [8]) (by kernel_rfl) (by simp) ?_
    refine AllReadyH.cons (o := ⟨_, _, _, _, _, _⟩) rfl (fun K hK => ?_) AllReadyH.nil
    go_simp
    refine hK.out _ _ ?_ (fun hH2 => ?_)
    · ((try dsimp only); (first | ((refine SK.out _ ?_); (repeat (first | exact Keeps.refl _ _ | refine Keeps.drewN ?_ _ | refine Keeps.drew ?_)); done) | exact (have s := SK.out _ ((Keeps.refl _ w6).drewN 1); have kv := (Keeps.refl (fun k => k = w.heap.size + 1) (w6.drewN 1)).var (r := w.heap.size + 1) (fun _ => rfl) (.int .i64 0) (.int .i64 0) (.string ⟨#[]⟩); ⟨kv.cell s.1 (by simp), kv.cell s.2.1 (by simp), kv.cell s.2.2 (by simp)⟩)))
    clear hK K hHeld
    have hHeld := hH2
    clear hH2
    try simp only [Act.put, List.setIfInBounds_toArray, List.set_cons_zero, List.set_cons_succ]
    refine wpAnyH_take (i := 9) (oi := ⟨_, _, _, _, _, _⟩) (v := ?_) rfl (by kernel_rfl) (by kernel_rfl) (by kernel_rfl) (fun _ _ _ h => h) (Or.inl ⟨by rfl, ?_⟩) hHeld ?_
    rotate_left
    · (intro w' hSw; (try dsimp only at hSw); go_simp; (try with_reducible rfl))
    try simp only [Act.put, List.setIfInBounds_toArray, List.set_cons_zero, List.set_cons_succ]
    refine wpAnyH_done (by kernel_rfl) ?_ _
    refine NoPanic.normal ?_
    clear hHeld
    go_wp2_with fail
    obtain ⟨d0, d1, d2, _⟩ := ((R6.out.set V.null).keeps ((Keeps.refl (fun _ => False) _).drew) (fun h => h)).cells
    simp only [V.null] at d0 d1 d2
    exact bodyPost_ret (v := .tuple #[V.val V.null, .bool false]) (by simp [results, Try.results20, go_sem, d0, d1, d2, V.val, V.null]) rfl (hR.out _ _ ⟨rfl, (HM6.out.var (r := w.heap.size + 1) (fun h => by omega) _ _ _).drew⟩)
  · simp only [Prod.mk.injEq] at e0
    obtain ⟨-, rfl⟩ := e0
    have CMM := hidden (fun (W : World) (hk' : Keeps (fun _ => False) w6 W) => CM.out W (HM6.out.trans hk' (fun _ _ h => h)) ⟨gk, gn, gt⟩)
    simp only at CMM
    generalize methB H ⟨gk, gn, gt⟩ = mb at *
    go_wp2_with fail
    go_region_held3 (fun W => W.cell? ⟨w.heap.size + 2, 0, none⟩ = some (.int .i64 gk) ∧ W.cell? ⟨w.heap.size + 2, 1, none⟩ = some (.int .i64 gn) ∧ W.cell? ⟨w.heap.size + 2, 2, none⟩ = some (.string gt)) (first | exact SP.out _ _ _ | ((refine SK.out _ ?_); (repeat (first | exact K7.out | exact Keeps.refl _ _ | refine Keeps.drewN ?_ _ | refine Keeps.drew ?_)); done)) (first | (go_at_call 39; refine (CMM.out _ ((Keeps.refl _ w6).drewN _)).mono ?_; rintro e w7 ⟨rfl, h1⟩; have K7 := hidden (((Keeps.refl (fun _ => False) w6).drewN _).trans h1 (fun _ _ h => h)); have R7 := hidden (R6.out.keeps K7.out (fun h => h)); have SP := hidden (fun (x y z : Value) => show (((w7.setCell ⟨w.heap.size + 1, 0, none⟩ x).setCell ⟨w.heap.size + 1, 1, none⟩ y).setCell ⟨w.heap.size + 1, 2, none⟩ z).cell? ⟨w.heap.size + 2, 0, none⟩ = some (.int .i64 gk) ∧ (((w7.setCell ⟨w.heap.size + 1, 0, none⟩ x).setCell ⟨w.heap.size + 1, 1, none⟩ y).setCell ⟨w.heap.size + 1, 2, none⟩ z).cell? ⟨w.heap.size + 2, 1, none⟩ = some (.int .i64 gn) ∧ (((w7.setCell ⟨w.heap.size + 1, 0, none⟩ x).setCell ⟨w.heap.size + 1, 1, none⟩ y).setCell ⟨w.heap.size + 1, 2, none⟩ z).cell? ⟨w.heap.size + 2, 2, none⟩ = some (.string gt) from (have s0 := SK.out _ K7.out; have kv := (Keeps.refl (fun k => k = w.heap.size + 1) w7).var (r := w.heap.size + 1) (fun _ => rfl) x y z; ⟨kv.cell s0.1 (by simp), kv.cell s0.2.1 (by simp), kv.cell s0.2.2 (by simp)⟩)); obtain ⟨v0, v1, v2, v3, v4, v5⟩ := R7.out.cells; have hvz := blk_lt R7.out; simp only [V.null] at v0 v1 v2; clear h1))
    all_goals
      go_wp2_with fail
      obtain ⟨d0, d1, d2, _⟩ := (R7.out.set ⟨gk, gn, gt⟩).cells
      simp only at d0 d1 d2
      exact bodyPost_ret (v := .tuple #[V.val ⟨gk, gn, gt⟩, .bool mb]) (by simp [results, Try.results20, go_sem, d0, d1, d2, V.val]) rfl (hR.out _ _ ⟨by simp [V.val], (HM6.out.trans K7.out (fun _ _ h => h)).var (r := w.heap.size + 1) (fun h => by omega) _ _ _⟩)
end
end Go.Proofs.Ytmefdniocgcckaa
