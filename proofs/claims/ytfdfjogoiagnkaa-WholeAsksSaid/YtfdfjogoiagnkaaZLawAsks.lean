/- dreytop.WholeAsks: the walk. -/
import Derived.Test.YtfdfjogoiagnkaaGrpH
import Derived.Deep.CutBlock
import Derived.Deep.DeepCutAuto
set_option linter.unusedSimpArgs false
set_option linter.unusedVariables false
namespace Go.Proofs.Ytfdfjogoiagnkaa
open Go.RowKit
set_option maxRecDepth 100000
set_option linter.unusedSimpArgs false

theorem IsVar.al {w : World} {r : Nat} {v : V} (h : IsVar w r v) (o : Obj) : IsVar (w.alloc o) r v := blk_alloc h o
theorem IsVar.new' {r : Nat} (w : World) (v : V) (h : w.heap.size = r) : IsVar (w.alloc (.cells #[.int .i64 v.k, .int .i64 v.n, .string v.t] 26)) r v := h ▸ IsVar.new w v
theorem IsVar.dr {w : World} {r : Nat} {v : V} (h : IsVar w r v) : IsVar w.drew r v := h
theorem IsVar.far {w : World} {r s : Nat} {v : V} (h : IsVar w r v) (hn : r ≠ s) (x y z : Value) : IsVar (((w.setCell ⟨s, 0, none⟩ x).setCell ⟨s, 1, none⟩ y).setCell ⟨s, 2, none⟩ z) r v := h.keeps ((Keeps.refl (fun k => k = s) w).var (r := s) (fun _ => rfl) x y z) hn
set_option maxHeartbeats 16000000 in
theorem wholeAsks_walk (w : World) (name : ByteArray) (between : Int) :
    Calls Try.prog 6 #[.string name, .int .i64 between] w fun e w' => e = .returned (.bool true) ∧ Below w.heap.size w w' := by
  have CN := hidden (fun (W : World) => value_Null W)
  have CS := hidden (fun (W : World) => value_Str name W)
  have CR := hidden (fun (W : World) (n : Int) => heap_Ref n W)
  unfold V.val at CN CS CR
  unfold V.null at CN
  refine post_gen fun R hR => ?_
  go_enter Try.func6, Try.ntmps6
  go_wp2_with fail
  refine (heap_New w 500).mono ?_
  rintro e w1 ⟨hb, F0, rfl, hH, hK, hF⟩
  have H1 := hidden (show Hd w hb F0 [] ⟨[], 0, 500, 0, 0⟩ w1 from ⟨hH, HOk.new 500, fun k h => (hF k h).elim (fun h => h.elim) id, hK.mono (fun _ _ h => h.elim)⟩)
  clear hH hK hF
  have CA := hidden (ask_Alloc 5 (by decide) H1.out (by decide))
  go_wp2_with fail
  refine CA.out.mono ?_
  rintro e w2 ⟨f, pf, F1, HA, s1, rfl, hM⟩
  have H2 := hidden (H1.out.made hM (fun k h => h.elim))
  have NF := hidden (show HA[f]? = some (some (pf, funcCl)) from hM.new.at_)
  have S1 := hidden (show s1.live = 1 ∧ s1.limit = 500 from ⟨hM.live, hM.limit⟩)
  clear hM CA H1
  go_wp2_with fail
  refine (meta_Text w2 3).mono ?_
  rintro e _ ⟨rfl, rfl⟩
  rw [show thrown 3 = ⟨#[110, 111, 32, 115, 117, 99, 104, 32, 115, 108, 111, 116]⟩ from rfl]
  by_cases hb0 : between < 0
  · go_wp2_with fail
    exact hR.out _ _ ⟨rfl, H2.out.K.below (Nat.le_refl _) (fun _ h => h)⟩
  by_cases hb1 : 40 < between
  · go_wp2_with fail
    exact hR.out _ _ ⟨rfl, H2.out.K.below (Nat.le_refl _) (fun _ h => h)⟩
  by_cases hn0 : (50 : Int) < name.size
  · go_wp2_with fail
    exact hR.out _ _ ⟨rfl, H2.out.K.below (Nat.le_refl _) (fun _ h => h)⟩
  have CT := hidden (heap_NewTable_nil _ _ _ _ _ H2.out.heap H2.out.ok (by rw [S1.out.1, S1.out.2]; decide))
  unfold V.val at CT
  go_wp2_with fail
  refine CT.out.mono ?_
  rintro e w3 ⟨t, pt, tt, F2, HB, s2, rfl, hM⟩
  have H3 := hidden (H2.out.made hM (fun k h => h.elim))
  have NF3 := hidden (show ∃ pf, HB[f]? = some (some (pf, funcCl)) from ⟨_, hM.new.old NF.out⟩)
  have NT3 := hidden (show ∃ p tb, HB[t]? = some (some (p, tableCl tb [] 0)) from ⟨_, _, hM.new.at_⟩)
  have S2 := hidden (show s2.live = 2 ∧ s2.limit = 500 from ⟨by rw [hM.live, S1.out.1]; decide, by rw [hM.limit, S1.out.2]⟩)
  have IN3 := hidden hM.heap.inw
  clear hM CT H2 NF S1
  go_wp2_with fail
  have VT4 := hidden (show Vr F2 (w3.alloc (.cells #[.int .i64 4, .int .i64 t, .string ⟨#[]⟩] 26)) w3.heap.size (rV t) from Vr.new (rV t) IN3.out)
  have H4 := hidden (H3.out.calm ((Keeps.refl (fun _ => False) w3).alloc (.cells #[.int .i64 4, .int .i64 t, .string ⟨#[]⟩] 26)))
  clear H3 IN3
  generalize w3.heap.size = vt at *
  generalize w3.alloc (.cells #[.int .i64 4, .int .i64 t, .string ⟨#[]⟩] 26) = w4 at *
  have SK := hidden (fun (W : World) (hk : Keeps (fun _ => False) w4 W) => show W.cell? ⟨vt, 0, none⟩ = some (.int .i64 4) ∧ W.cell? ⟨vt, 1, none⟩ = some (.int .i64 t) ∧ W.cell? ⟨vt, 2, none⟩ = some (.string ⟨#[]⟩) from (have h := (VT4.out.calm hk).cells; ⟨h.1, h.2.1, h.2.2.1⟩))
  go_cut [10, 11] from 51 to 52 (fun u c wx => ∃ vl vc : Nat, u = .pointer (some ⟨vl, 0, none⟩) ∧ c = .pointer (some ⟨vc, 0, none⟩) ∧ IsVar wx vl (rV t) ∧ IsVar wx vc V.null ∧ w4.heap.size ≤ vl ∧ w4.heap.size ≤ vc ∧ vl ≠ vc ∧ Keeps (fun _ => False) w4 wx)
  case first =>

    refine wp_region_noPanic ?_
    refine wp_region_held_drew (S := (fun W => W.cell? ⟨vt, 0, none⟩ = some (.int .i64 4) ∧ W.cell? ⟨vt, 1, none⟩ = some (.int .i64 t) ∧ W.cell? ⟨vt, 2, none⟩ = some (.string ⟨#[]⟩))) (by kernel_rfl) ?_ (fun hHeld => ?_)
    · ((try dsimp only); ((refine SK.out _ ?_); (repeat with_reducible (first | exact Keeps.refl _ _ | exact K5.out | refine Keeps.alloc ?_ _ | refine Keeps.drewN ?_ _ | refine Keeps.drew ?_ | refine Keeps.var ?_ (fun h => absurd h (Nat.not_lt.2 (by first | exact Nat.le_refl _ | exact Nat.le_succ _ | exact K5.out.size | exact Nat.le_succ_of_le K5.out.size))) _ _ _))))
    refine wpAnyH_take (i := 0) (oi := ⟨_, _, _, _, _, _⟩) (v := ?_) rfl (by kernel_rfl) (by kernel_rfl) (by kernel_rfl) (fun _ _ _ h => h) (Or.inl ⟨by rfl, ?_⟩) hHeld ?_
    rotate_left
    · (intro w' hSw; (try dsimp only at hSw); go_simp; (try with_reducible rfl))
    try simp only [Act.put, List.setIfInBounds_toArray, List.set_cons_zero, List.set_cons_succ]
    refine wpAnyH_ready (rs := [1, 2, 3]) (by kernel_rfl) (by simp) ?_
    refine AllReadyH.cons (o := ⟨_, _, _, _, _, _⟩) rfl (fun K hK => ?_) (AllReadyH.cons (o := ⟨_, _, _, _, _, _⟩) rfl (fun K hK => ?_) (AllReadyH.cons (o := ⟨_, _, _, _, _, _⟩) rfl (fun K hK => ?_) AllReadyH.nil))
    · go_simp
      (first | (go_at_call 12; refine (CN.out _).mono ?_; rintro e w5 ⟨rfl, h1⟩; have K5 := hidden (Keeps.trans (S := fun _ => False) (show Keeps (fun _ => False) w4 _ from (by repeat (first | exact Keeps.refl _ _ | refine Keeps.alloc ?_ _ | refine Keeps.drewN ?_ _ | refine Keeps.drew ?_))) h1 (fun _ _ h => h)); clear h1))
      go_wp2_with fail
      refine hK.out _ _ ?_ (fun hH2 => ?_)
      · ((try dsimp only); ((refine SK.out _ ?_); (repeat with_reducible (first | exact Keeps.refl _ _ | exact K5.out | refine Keeps.alloc ?_ _ | refine Keeps.drewN ?_ _ | refine Keeps.drew ?_ | refine Keeps.var ?_ (fun h => absurd h (Nat.not_lt.2 (by first | exact Nat.le_refl _ | exact Nat.le_succ _ | exact K5.out.size | exact Nat.le_succ_of_le K5.out.size))) _ _ _))))
      clear hK K hHeld
      have hHeld := hH2
      clear hH2
      try simp only [Act.put, List.setIfInBounds_toArray, List.set_cons_zero, List.set_cons_succ]
      refine wpAnyH_ready (rs := [2, 3]) (by kernel_rfl) (by simp) ?_
      refine AllReadyH.cons (o := ⟨_, _, _, _, _, _⟩) rfl (fun K hK => ?_) (AllReadyH.cons (o := ⟨_, _, _, _, _, _⟩) rfl (fun K hK => ?_) AllReadyH.nil)
      · go_simp
        refine hK.out _ _ ?_ (fun hH2 => ?_)
        · ((try dsimp only); ((refine SK.out _ ?_); (repeat with_reducible (first | exact Keeps.refl _ _ | exact K5.out | refine Keeps.alloc ?_ _ | refine Keeps.drewN ?_ _ | refine Keeps.drew ?_ | refine Keeps.var ?_ (fun h => absurd h (Nat.not_lt.2 (by first | exact Nat.le_refl _ | exact Nat.le_succ _ | exact K5.out.size | exact Nat.le_succ_of_le K5.out.size))) _ _ _))))
        clear hK K hHeld
        have hHeld := hH2
        clear hH2
        try simp only [Act.put, List.setIfInBounds_toArray, List.set_cons_zero, List.set_cons_succ]
        refine wpAnyH_ready (rs := [3]) (by kernel_rfl) (by simp) ?_
        refine AllReadyH.cons (o := ⟨_, _, _, _, _, _⟩) rfl (fun K hK => ?_) AllReadyH.nil
        go_simp
        refine hK.out _ _ ?_ (fun hH2 => ?_)
        · ((try dsimp only); ((refine SK.out _ ?_); (repeat with_reducible (first | exact Keeps.refl _ _ | exact K5.out | refine Keeps.alloc ?_ _ | refine Keeps.drewN ?_ _ | refine Keeps.drew ?_ | refine Keeps.var ?_ (fun h => absurd h (Nat.not_lt.2 (by first | exact Nat.le_refl _ | exact Nat.le_succ _ | exact K5.out.size | exact Nat.le_succ_of_le K5.out.size))) _ _ _))))
        clear hK K hHeld
        have hHeld := hH2
        clear hH2
        try simp only [Act.put, List.setIfInBounds_toArray, List.set_cons_zero, List.set_cons_succ]
        refine wpAnyH_ready (rs := [4]) (by kernel_rfl) (by simp) ?_
        refine AllReadyH.cons (o := ⟨_, _, _, _, _, _⟩) rfl (fun K hK => ?_) AllReadyH.nil
        go_simp
        refine hK.out _ _ ?_ (fun hH2 => ?_)
        · ((try dsimp only); ((refine SK.out _ ?_); (repeat with_reducible (first | exact Keeps.refl _ _ | exact K5.out | refine Keeps.alloc ?_ _ | refine Keeps.drewN ?_ _ | refine Keeps.drew ?_ | refine Keeps.var ?_ (fun h => absurd h (Nat.not_lt.2 (by first | exact Nat.le_refl _ | exact Nat.le_succ _ | exact K5.out.size | exact Nat.le_succ_of_le K5.out.size))) _ _ _))))
        clear hK K hHeld
        have hHeld := hH2
        clear hH2
        try simp only [Act.put, List.setIfInBounds_toArray, List.set_cons_zero, List.set_cons_succ]
        refine wpAnyH_ready (rs := [5]) (by kernel_rfl) (by simp) ?_
        refine AllReadyH.cons (o := ⟨_, _, _, _, _, _⟩) rfl (fun K hK => ?_) AllReadyH.nil
        go_simp
        refine hK.out _ _ ?_ (fun hH2 => ?_)
        · ((try dsimp only); ((refine SK.out _ ?_); (repeat with_reducible (first | exact Keeps.refl _ _ | exact K5.out | refine Keeps.alloc ?_ _ | refine Keeps.drewN ?_ _ | refine Keeps.drew ?_ | refine Keeps.var ?_ (fun h => absurd h (Nat.not_lt.2 (by first | exact Nat.le_refl _ | exact Nat.le_succ _ | exact K5.out.size | exact Nat.le_succ_of_le K5.out.size))) _ _ _))))
        clear hK K hHeld
        have hHeld := hH2
        clear hH2
        try simp only [Act.put, List.setIfInBounds_toArray, List.set_cons_zero, List.set_cons_succ]
        refine wpAnyH_done (by kernel_rfl) ?_ _
        refine NoPanic.normal ?_
        clear hHeld
        go_wp2_with fail
        go_meet
        have hz := K5.out.size
        exact ⟨_, _, rfl, rfl, (IsVar.new w5 ⟨4, t, ⟨#[]⟩⟩).al _, IsVar.new' _ V.null (by simp), by omega, by omega, by omega, (by repeat with_reducible (first | exact Keeps.refl _ _ | exact K5.out | refine Keeps.alloc ?_ _ | refine Keeps.drewN ?_ _ | refine Keeps.drew ?_ | refine Keeps.var ?_ (fun h => absurd h (Nat.not_lt.2 (by first | exact Nat.le_refl _ | exact Nat.le_succ _ | exact K5.out.size | exact Nat.le_succ_of_le K5.out.size))) _ _ _))⟩
      · go_simp
        refine hK.out _ _ ?_ (fun hH2 => ?_)
        · ((try dsimp only); ((refine SK.out _ ?_); (repeat with_reducible (first | exact Keeps.refl _ _ | exact K5.out | refine Keeps.alloc ?_ _ | refine Keeps.drewN ?_ _ | refine Keeps.drew ?_ | refine Keeps.var ?_ (fun h => absurd h (Nat.not_lt.2 (by first | exact Nat.le_refl _ | exact Nat.le_succ _ | exact K5.out.size | exact Nat.le_succ_of_le K5.out.size))) _ _ _))))
        clear hK K hHeld
        have hHeld := hH2
        clear hH2
        try simp only [Act.put, List.setIfInBounds_toArray, List.set_cons_zero, List.set_cons_succ]
        refine wpAnyH_ready (rs := [2]) (by kernel_rfl) (by simp) ?_
        refine AllReadyH.cons (o := ⟨_, _, _, _, _, _⟩) rfl (fun K hK => ?_) AllReadyH.nil
        go_simp
        refine hK.out _ _ ?_ (fun hH2 => ?_)
        · ((try dsimp only); ((refine SK.out _ ?_); (repeat with_reducible (first | exact Keeps.refl _ _ | exact K5.out | refine Keeps.alloc ?_ _ | refine Keeps.drewN ?_ _ | refine Keeps.drew ?_ | refine Keeps.var ?_ (fun h => absurd h (Nat.not_lt.2 (by first | exact Nat.le_refl _ | exact Nat.le_succ _ | exact K5.out.size | exact Nat.le_succ_of_le K5.out.size))) _ _ _))))
        clear hK K hHeld
        have hHeld := hH2
        clear hH2
        try simp only [Act.put, List.setIfInBounds_toArray, List.set_cons_zero, List.set_cons_succ]
        refine wpAnyH_ready (rs := [4]) (by kernel_rfl) (by simp) ?_
        refine AllReadyH.cons (o := ⟨_, _, _, _, _, _⟩) rfl (fun K hK => ?_) AllReadyH.nil
        go_simp
        refine hK.out _ _ ?_ (fun hH2 => ?_)
        · ((try dsimp only); ((refine SK.out _ ?_); (repeat with_reducible (first | exact Keeps.refl _ _ | exact K5.out | refine Keeps.alloc ?_ _ | refine Keeps.drewN ?_ _ | refine Keeps.drew ?_ | refine Keeps.var ?_ (fun h => absurd h (Nat.not_lt.2 (by first | exact Nat.le_refl _ | exact Nat.le_succ _ | exact K5.out.size | exact Nat.le_succ_of_le K5.out.size))) _ _ _))))
        clear hK K hHeld
        have hHeld := hH2
        clear hH2
        try simp only [Act.put, List.setIfInBounds_toArray, List.set_cons_zero, List.set_cons_succ]
        refine wpAnyH_ready (rs := [5]) (by kernel_rfl) (by simp) ?_
        refine AllReadyH.cons (o := ⟨_, _, _, _, _, _⟩) rfl (fun K hK => ?_) AllReadyH.nil
        go_simp
        refine hK.out _ _ ?_ (fun hH2 => ?_)
        · ((try dsimp only); ((refine SK.out _ ?_); (repeat with_reducible (first | exact Keeps.refl _ _ | exact K5.out | refine Keeps.alloc ?_ _ | refine Keeps.drewN ?_ _ | refine Keeps.drew ?_ | refine Keeps.var ?_ (fun h => absurd h (Nat.not_lt.2 (by first | exact Nat.le_refl _ | exact Nat.le_succ _ | exact K5.out.size | exact Nat.le_succ_of_le K5.out.size))) _ _ _))))
        clear hK K hHeld
        have hHeld := hH2
        clear hH2
        try simp only [Act.put, List.setIfInBounds_toArray, List.set_cons_zero, List.set_cons_succ]
        refine wpAnyH_done (by kernel_rfl) ?_ _
        refine NoPanic.normal ?_
        clear hHeld
        go_wp2_with fail
        go_meet
        have hz := K5.out.size
        exact ⟨_, _, rfl, rfl, IsVar.new' _ ⟨4, t, ⟨#[]⟩⟩ (by simp), (IsVar.new w5 V.null).al _, by omega, by omega, by omega, (by repeat with_reducible (first | exact Keeps.refl _ _ | exact K5.out | refine Keeps.alloc ?_ _ | refine Keeps.drewN ?_ _ | refine Keeps.drew ?_ | refine Keeps.var ?_ (fun h => absurd h (Nat.not_lt.2 (by first | exact Nat.le_refl _ | exact Nat.le_succ _ | exact K5.out.size | exact Nat.le_succ_of_le K5.out.size))) _ _ _))⟩
    · go_simp
      refine hK.out _ _ ?_ (fun hH2 => ?_)
      · ((try dsimp only); ((refine SK.out _ ?_); (repeat with_reducible (first | exact Keeps.refl _ _ | exact K5.out | refine Keeps.alloc ?_ _ | refine Keeps.drewN ?_ _ | refine Keeps.drew ?_ | refine Keeps.var ?_ (fun h => absurd h (Nat.not_lt.2 (by first | exact Nat.le_refl _ | exact Nat.le_succ _ | exact K5.out.size | exact Nat.le_succ_of_le K5.out.size))) _ _ _))))
      clear hK K hHeld
      have hHeld := hH2
      clear hH2
      try simp only [Act.put, List.setIfInBounds_toArray, List.set_cons_zero, List.set_cons_succ]
      refine wpAnyH_ready (rs := [1, 3]) (by kernel_rfl) (by simp) ?_
      refine AllReadyH.cons (o := ⟨_, _, _, _, _, _⟩) rfl (fun K hK => ?_) (AllReadyH.cons (o := ⟨_, _, _, _, _, _⟩) rfl (fun K hK => ?_) AllReadyH.nil)
      · go_simp
        (first | (go_at_call 12; refine (CN.out _).mono ?_; rintro e w5 ⟨rfl, h1⟩; have K5 := hidden (Keeps.trans (S := fun _ => False) (show Keeps (fun _ => False) w4 _ from (by repeat (first | exact Keeps.refl _ _ | refine Keeps.alloc ?_ _ | refine Keeps.drewN ?_ _ | refine Keeps.drew ?_))) h1 (fun _ _ h => h)); have X1 := hidden (show IsVar w5 w4.heap.size V.null from h1.heap (blk_new w4 _) (fun h => h)); obtain ⟨v0, v1, v2, v3, v4, v5⟩ := X1.out.cells; have hvz := blk_lt X1.out; simp only [V.null] at v0 v1 v2; clear h1))
        go_wp2_with fail
        refine hK.out _ _ ?_ (fun hH2 => ?_)
        · ((try dsimp only); ((refine SK.out _ ?_); (repeat with_reducible (first | exact Keeps.refl _ _ | exact K5.out | refine Keeps.alloc ?_ _ | refine Keeps.drewN ?_ _ | refine Keeps.drew ?_ | refine Keeps.var ?_ (fun h => absurd h (Nat.not_lt.2 (by first | exact Nat.le_refl _ | exact Nat.le_succ _ | exact K5.out.size | exact Nat.le_succ_of_le K5.out.size))) _ _ _))))
        clear hK K hHeld
        have hHeld := hH2
        clear hH2
        try simp only [Act.put, List.setIfInBounds_toArray, List.set_cons_zero, List.set_cons_succ]
        refine wpAnyH_ready (rs := [3]) (by kernel_rfl) (by simp) ?_
        refine AllReadyH.cons (o := ⟨_, _, _, _, _, _⟩) rfl (fun K hK => ?_) AllReadyH.nil
        go_simp
        refine hK.out _ _ ?_ (fun hH2 => ?_)
        · ((try dsimp only); ((refine SK.out _ ?_); (repeat with_reducible (first | exact Keeps.refl _ _ | exact K5.out | refine Keeps.alloc ?_ _ | refine Keeps.drewN ?_ _ | refine Keeps.drew ?_ | refine Keeps.var ?_ (fun h => absurd h (Nat.not_lt.2 (by first | exact Nat.le_refl _ | exact Nat.le_succ _ | exact K5.out.size | exact Nat.le_succ_of_le K5.out.size))) _ _ _))))
        clear hK K hHeld
        have hHeld := hH2
        clear hH2
        try simp only [Act.put, List.setIfInBounds_toArray, List.set_cons_zero, List.set_cons_succ]
        refine wpAnyH_ready (rs := [4]) (by kernel_rfl) (by simp) ?_
        refine AllReadyH.cons (o := ⟨_, _, _, _, _, _⟩) rfl (fun K hK => ?_) AllReadyH.nil
        go_simp
        refine hK.out _ _ ?_ (fun hH2 => ?_)
        · ((try dsimp only); ((refine SK.out _ ?_); (repeat with_reducible (first | exact Keeps.refl _ _ | exact K5.out | refine Keeps.alloc ?_ _ | refine Keeps.drewN ?_ _ | refine Keeps.drew ?_ | refine Keeps.var ?_ (fun h => absurd h (Nat.not_lt.2 (by first | exact Nat.le_refl _ | exact Nat.le_succ _ | exact K5.out.size | exact Nat.le_succ_of_le K5.out.size))) _ _ _))))
        clear hK K hHeld
        have hHeld := hH2
        clear hH2
        try simp only [Act.put, List.setIfInBounds_toArray, List.set_cons_zero, List.set_cons_succ]
        refine wpAnyH_ready (rs := [5]) (by kernel_rfl) (by simp) ?_
        refine AllReadyH.cons (o := ⟨_, _, _, _, _, _⟩) rfl (fun K hK => ?_) AllReadyH.nil
        go_simp
        refine hK.out _ _ ?_ (fun hH2 => ?_)
        · ((try dsimp only); ((refine SK.out _ ?_); (repeat with_reducible (first | exact Keeps.refl _ _ | exact K5.out | refine Keeps.alloc ?_ _ | refine Keeps.drewN ?_ _ | refine Keeps.drew ?_ | refine Keeps.var ?_ (fun h => absurd h (Nat.not_lt.2 (by first | exact Nat.le_refl _ | exact Nat.le_succ _ | exact K5.out.size | exact Nat.le_succ_of_le K5.out.size))) _ _ _))))
        clear hK K hHeld
        have hHeld := hH2
        clear hH2
        try simp only [Act.put, List.setIfInBounds_toArray, List.set_cons_zero, List.set_cons_succ]
        refine wpAnyH_done (by kernel_rfl) ?_ _
        refine NoPanic.normal ?_
        clear hHeld
        go_wp2_with fail
        go_meet
        have hz := K5.out.size
        exact ⟨_, _, rfl, rfl, (X1.out.set ⟨4, t, ⟨#[]⟩⟩).al _, IsVar.new' _ V.null (by simp [World.setCell]), by omega, by omega, by omega, (by repeat with_reducible (first | exact Keeps.refl _ _ | exact K5.out | refine Keeps.alloc ?_ _ | refine Keeps.drewN ?_ _ | refine Keeps.drew ?_ | refine Keeps.var ?_ (fun h => absurd h (Nat.not_lt.2 (by first | exact Nat.le_refl _ | exact Nat.le_succ _ | exact K5.out.size | exact Nat.le_succ_of_le K5.out.size))) _ _ _))⟩
      · go_simp
        refine hK.out _ _ ?_ (fun hH2 => ?_)
        · ((try dsimp only); ((refine SK.out _ ?_); (repeat with_reducible (first | exact Keeps.refl _ _ | exact K5.out | refine Keeps.alloc ?_ _ | refine Keeps.drewN ?_ _ | refine Keeps.drew ?_ | refine Keeps.var ?_ (fun h => absurd h (Nat.not_lt.2 (by first | exact Nat.le_refl _ | exact Nat.le_succ _ | exact K5.out.size | exact Nat.le_succ_of_le K5.out.size))) _ _ _))))
        clear hK K hHeld
        have hHeld := hH2
        clear hH2
        try simp only [Act.put, List.setIfInBounds_toArray, List.set_cons_zero, List.set_cons_succ]
        refine wpAnyH_ready (rs := [1]) (by kernel_rfl) (by simp) ?_
        refine AllReadyH.cons (o := ⟨_, _, _, _, _, _⟩) rfl (fun K hK => ?_) AllReadyH.nil
        go_simp
        (first | (go_at_call 12; refine (CN.out _).mono ?_; rintro e w5 ⟨rfl, h1⟩; have K5 := hidden (Keeps.trans (S := fun _ => False) (show Keeps (fun _ => False) w4 _ from (by repeat (first | exact Keeps.refl _ _ | refine Keeps.alloc ?_ _ | refine Keeps.drewN ?_ _ | refine Keeps.drew ?_))) h1 (fun _ _ h => h)); have X1 := hidden (show IsVar w5 w4.heap.size V.null from h1.heap (blk_alloc (blk_new w4 _) _) (fun h => h)); obtain ⟨v0, v1, v2, v3, v4, v5⟩ := X1.out.cells; have hvz := blk_lt X1.out; simp only [V.null] at v0 v1 v2; have X2 := hidden (show IsVar w5 (w4.heap.size + 1) V.null from h1.heap (var2 w4 _ V.null) (fun h => h)); obtain ⟨u0, u1, u2, u3, u4, u5⟩ := X2.out.cells; have huz := blk_lt X2.out; simp only [V.null] at u0 u1 u2; clear h1))
        go_wp2_with fail
        refine hK.out _ _ ?_ (fun hH2 => ?_)
        · ((try dsimp only); ((refine SK.out _ ?_); (repeat with_reducible (first | exact Keeps.refl _ _ | exact K5.out | refine Keeps.alloc ?_ _ | refine Keeps.drewN ?_ _ | refine Keeps.drew ?_ | refine Keeps.var ?_ (fun h => absurd h (Nat.not_lt.2 (by first | exact Nat.le_refl _ | exact Nat.le_succ _ | exact K5.out.size | exact Nat.le_succ_of_le K5.out.size))) _ _ _))))
        clear hK K hHeld
        have hHeld := hH2
        clear hH2
        try simp only [Act.put, List.setIfInBounds_toArray, List.set_cons_zero, List.set_cons_succ]
        refine wpAnyH_ready (rs := [4]) (by kernel_rfl) (by simp) ?_
        refine AllReadyH.cons (o := ⟨_, _, _, _, _, _⟩) rfl (fun K hK => ?_) AllReadyH.nil
        go_simp
        refine hK.out _ _ ?_ (fun hH2 => ?_)
        · ((try dsimp only); ((refine SK.out _ ?_); (repeat with_reducible (first | exact Keeps.refl _ _ | exact K5.out | refine Keeps.alloc ?_ _ | refine Keeps.drewN ?_ _ | refine Keeps.drew ?_ | refine Keeps.var ?_ (fun h => absurd h (Nat.not_lt.2 (by first | exact Nat.le_refl _ | exact Nat.le_succ _ | exact K5.out.size | exact Nat.le_succ_of_le K5.out.size))) _ _ _))))
        clear hK K hHeld
        have hHeld := hH2
        clear hH2
        try simp only [Act.put, List.setIfInBounds_toArray, List.set_cons_zero, List.set_cons_succ]
        refine wpAnyH_ready (rs := [5]) (by kernel_rfl) (by simp) ?_
        refine AllReadyH.cons (o := ⟨_, _, _, _, _, _⟩) rfl (fun K hK => ?_) AllReadyH.nil
        go_simp
        refine hK.out _ _ ?_ (fun hH2 => ?_)
        · ((try dsimp only); ((refine SK.out _ ?_); (repeat with_reducible (first | exact Keeps.refl _ _ | exact K5.out | refine Keeps.alloc ?_ _ | refine Keeps.drewN ?_ _ | refine Keeps.drew ?_ | refine Keeps.var ?_ (fun h => absurd h (Nat.not_lt.2 (by first | exact Nat.le_refl _ | exact Nat.le_succ _ | exact K5.out.size | exact Nat.le_succ_of_le K5.out.size))) _ _ _))))
        clear hK K hHeld
        have hHeld := hH2
        clear hH2
        try simp only [Act.put, List.setIfInBounds_toArray, List.set_cons_zero, List.set_cons_succ]
        refine wpAnyH_done (by kernel_rfl) ?_ _
        refine NoPanic.normal ?_
        clear hHeld
        go_wp2_with fail
        go_meet
        have hz := K5.out.size
        exact ⟨_, _, rfl, rfl, (X1.out.set ⟨4, t, ⟨#[]⟩⟩).far (by omega) _ _ _, (X2.out.far (by omega) _ _ _).set V.null, by omega, by omega, by omega, (by repeat with_reducible (first | exact Keeps.refl _ _ | exact K5.out | refine Keeps.alloc ?_ _ | refine Keeps.drewN ?_ _ | refine Keeps.drew ?_ | refine Keeps.var ?_ (fun h => absurd h (Nat.not_lt.2 (by first | exact Nat.le_refl _ | exact Nat.le_succ _ | exact K5.out.size | exact Nat.le_succ_of_le K5.out.size))) _ _ _))⟩
    · go_simp
      refine hK.out _ _ ?_ (fun hH2 => ?_)
      · ((try dsimp only); ((refine SK.out _ ?_); (repeat with_reducible (first | exact Keeps.refl _ _ | exact K5.out | refine Keeps.alloc ?_ _ | refine Keeps.drewN ?_ _ | refine Keeps.drew ?_ | refine Keeps.var ?_ (fun h => absurd h (Nat.not_lt.2 (by first | exact Nat.le_refl _ | exact Nat.le_succ _ | exact K5.out.size | exact Nat.le_succ_of_le K5.out.size))) _ _ _))))
      clear hK K hHeld
      have hHeld := hH2
      clear hH2
      try simp only [Act.put, List.setIfInBounds_toArray, List.set_cons_zero, List.set_cons_succ]
      refine wpAnyH_ready (rs := [1, 2]) (by kernel_rfl) (by simp) ?_
      refine AllReadyH.cons (o := ⟨_, _, _, _, _, _⟩) rfl (fun K hK => ?_) (AllReadyH.cons (o := ⟨_, _, _, _, _, _⟩) rfl (fun K hK => ?_) AllReadyH.nil)
      · go_simp
        (first | (go_at_call 12; refine (CN.out _).mono ?_; rintro e w5 ⟨rfl, h1⟩; have K5 := hidden (Keeps.trans (S := fun _ => False) (show Keeps (fun _ => False) w4 _ from (by repeat (first | exact Keeps.refl _ _ | refine Keeps.alloc ?_ _ | refine Keeps.drewN ?_ _ | refine Keeps.drew ?_))) h1 (fun _ _ h => h)); have X1 := hidden (show IsVar w5 w4.heap.size V.null from h1.heap (blk_new w4 _) (fun h => h)); obtain ⟨v0, v1, v2, v3, v4, v5⟩ := X1.out.cells; have hvz := blk_lt X1.out; simp only [V.null] at v0 v1 v2; clear h1))
        go_wp2_with fail
        refine hK.out _ _ ?_ (fun hH2 => ?_)
        · ((try dsimp only); ((refine SK.out _ ?_); (repeat with_reducible (first | exact Keeps.refl _ _ | exact K5.out | refine Keeps.alloc ?_ _ | refine Keeps.drewN ?_ _ | refine Keeps.drew ?_ | refine Keeps.var ?_ (fun h => absurd h (Nat.not_lt.2 (by first | exact Nat.le_refl _ | exact Nat.le_succ _ | exact K5.out.size | exact Nat.le_succ_of_le K5.out.size))) _ _ _))))
        clear hK K hHeld
        have hHeld := hH2
        clear hH2
        try simp only [Act.put, List.setIfInBounds_toArray, List.set_cons_zero, List.set_cons_succ]
        refine wpAnyH_ready (rs := [2]) (by kernel_rfl) (by simp) ?_
        refine AllReadyH.cons (o := ⟨_, _, _, _, _, _⟩) rfl (fun K hK => ?_) AllReadyH.nil
        go_simp
        refine hK.out _ _ ?_ (fun hH2 => ?_)
        · ((try dsimp only); ((refine SK.out _ ?_); (repeat with_reducible (first | exact Keeps.refl _ _ | exact K5.out | refine Keeps.alloc ?_ _ | refine Keeps.drewN ?_ _ | refine Keeps.drew ?_ | refine Keeps.var ?_ (fun h => absurd h (Nat.not_lt.2 (by first | exact Nat.le_refl _ | exact Nat.le_succ _ | exact K5.out.size | exact Nat.le_succ_of_le K5.out.size))) _ _ _))))
        clear hK K hHeld
        have hHeld := hH2
        clear hH2
        try simp only [Act.put, List.setIfInBounds_toArray, List.set_cons_zero, List.set_cons_succ]
        refine wpAnyH_ready (rs := [4]) (by kernel_rfl) (by simp) ?_
        refine AllReadyH.cons (o := ⟨_, _, _, _, _, _⟩) rfl (fun K hK => ?_) AllReadyH.nil
        go_simp
        refine hK.out _ _ ?_ (fun hH2 => ?_)
        · ((try dsimp only); ((refine SK.out _ ?_); (repeat with_reducible (first | exact Keeps.refl _ _ | exact K5.out | refine Keeps.alloc ?_ _ | refine Keeps.drewN ?_ _ | refine Keeps.drew ?_ | refine Keeps.var ?_ (fun h => absurd h (Nat.not_lt.2 (by first | exact Nat.le_refl _ | exact Nat.le_succ _ | exact K5.out.size | exact Nat.le_succ_of_le K5.out.size))) _ _ _))))
        clear hK K hHeld
        have hHeld := hH2
        clear hH2
        try simp only [Act.put, List.setIfInBounds_toArray, List.set_cons_zero, List.set_cons_succ]
        refine wpAnyH_ready (rs := [5]) (by kernel_rfl) (by simp) ?_
        refine AllReadyH.cons (o := ⟨_, _, _, _, _, _⟩) rfl (fun K hK => ?_) AllReadyH.nil
        go_simp
        refine hK.out _ _ ?_ (fun hH2 => ?_)
        · ((try dsimp only); ((refine SK.out _ ?_); (repeat with_reducible (first | exact Keeps.refl _ _ | exact K5.out | refine Keeps.alloc ?_ _ | refine Keeps.drewN ?_ _ | refine Keeps.drew ?_ | refine Keeps.var ?_ (fun h => absurd h (Nat.not_lt.2 (by first | exact Nat.le_refl _ | exact Nat.le_succ _ | exact K5.out.size | exact Nat.le_succ_of_le K5.out.size))) _ _ _))))
        clear hK K hHeld
        have hHeld := hH2
        clear hH2
        try simp only [Act.put, List.setIfInBounds_toArray, List.set_cons_zero, List.set_cons_succ]
        refine wpAnyH_done (by kernel_rfl) ?_ _
        refine NoPanic.normal ?_
        clear hHeld
        go_wp2_with fail
        go_meet
        have hz := K5.out.size
        exact ⟨_, _, rfl, rfl, IsVar.new' _ ⟨4, t, ⟨#[]⟩⟩ (by simp [World.setCell]), (X1.out.set V.null).al _, by omega, by omega, by omega, (by repeat with_reducible (first | exact Keeps.refl _ _ | exact K5.out | refine Keeps.alloc ?_ _ | refine Keeps.drewN ?_ _ | refine Keeps.drew ?_ | refine Keeps.var ?_ (fun h => absurd h (Nat.not_lt.2 (by first | exact Nat.le_refl _ | exact Nat.le_succ _ | exact K5.out.size | exact Nat.le_succ_of_le K5.out.size))) _ _ _))⟩
      · go_simp
        refine hK.out _ _ ?_ (fun hH2 => ?_)
        · ((try dsimp only); ((refine SK.out _ ?_); (repeat with_reducible (first | exact Keeps.refl _ _ | exact K5.out | refine Keeps.alloc ?_ _ | refine Keeps.drewN ?_ _ | refine Keeps.drew ?_ | refine Keeps.var ?_ (fun h => absurd h (Nat.not_lt.2 (by first | exact Nat.le_refl _ | exact Nat.le_succ _ | exact K5.out.size | exact Nat.le_succ_of_le K5.out.size))) _ _ _))))
        clear hK K hHeld
        have hHeld := hH2
        clear hH2
        try simp only [Act.put, List.setIfInBounds_toArray, List.set_cons_zero, List.set_cons_succ]
        refine wpAnyH_ready (rs := [1]) (by kernel_rfl) (by simp) ?_
        refine AllReadyH.cons (o := ⟨_, _, _, _, _, _⟩) rfl (fun K hK => ?_) AllReadyH.nil
        go_simp
        (first | (go_at_call 12; refine (CN.out _).mono ?_; rintro e w5 ⟨rfl, h1⟩; have K5 := hidden (Keeps.trans (S := fun _ => False) (show Keeps (fun _ => False) w4 _ from (by repeat (first | exact Keeps.refl _ _ | refine Keeps.alloc ?_ _ | refine Keeps.drewN ?_ _ | refine Keeps.drew ?_))) h1 (fun _ _ h => h)); have X1 := hidden (show IsVar w5 w4.heap.size V.null from h1.heap (blk_alloc (blk_new w4 _) _) (fun h => h)); obtain ⟨v0, v1, v2, v3, v4, v5⟩ := X1.out.cells; have hvz := blk_lt X1.out; simp only [V.null] at v0 v1 v2; have X2 := hidden (show IsVar w5 (w4.heap.size + 1) V.null from h1.heap (var2 w4 _ V.null) (fun h => h)); obtain ⟨u0, u1, u2, u3, u4, u5⟩ := X2.out.cells; have huz := blk_lt X2.out; simp only [V.null] at u0 u1 u2; clear h1))
        go_wp2_with fail
        refine hK.out _ _ ?_ (fun hH2 => ?_)
        · ((try dsimp only); ((refine SK.out _ ?_); (repeat with_reducible (first | exact Keeps.refl _ _ | exact K5.out | refine Keeps.alloc ?_ _ | refine Keeps.drewN ?_ _ | refine Keeps.drew ?_ | refine Keeps.var ?_ (fun h => absurd h (Nat.not_lt.2 (by first | exact Nat.le_refl _ | exact Nat.le_succ _ | exact K5.out.size | exact Nat.le_succ_of_le K5.out.size))) _ _ _))))
        clear hK K hHeld
        have hHeld := hH2
        clear hH2
        try simp only [Act.put, List.setIfInBounds_toArray, List.set_cons_zero, List.set_cons_succ]
        refine wpAnyH_ready (rs := [4]) (by kernel_rfl) (by simp) ?_
        refine AllReadyH.cons (o := ⟨_, _, _, _, _, _⟩) rfl (fun K hK => ?_) AllReadyH.nil
        go_simp
        refine hK.out _ _ ?_ (fun hH2 => ?_)
        · ((try dsimp only); ((refine SK.out _ ?_); (repeat with_reducible (first | exact Keeps.refl _ _ | exact K5.out | refine Keeps.alloc ?_ _ | refine Keeps.drewN ?_ _ | refine Keeps.drew ?_ | refine Keeps.var ?_ (fun h => absurd h (Nat.not_lt.2 (by first | exact Nat.le_refl _ | exact Nat.le_succ _ | exact K5.out.size | exact Nat.le_succ_of_le K5.out.size))) _ _ _))))
        clear hK K hHeld
        have hHeld := hH2
        clear hH2
        try simp only [Act.put, List.setIfInBounds_toArray, List.set_cons_zero, List.set_cons_succ]
        refine wpAnyH_ready (rs := [5]) (by kernel_rfl) (by simp) ?_
        refine AllReadyH.cons (o := ⟨_, _, _, _, _, _⟩) rfl (fun K hK => ?_) AllReadyH.nil
        go_simp
        refine hK.out _ _ ?_ (fun hH2 => ?_)
        · ((try dsimp only); ((refine SK.out _ ?_); (repeat with_reducible (first | exact Keeps.refl _ _ | exact K5.out | refine Keeps.alloc ?_ _ | refine Keeps.drewN ?_ _ | refine Keeps.drew ?_ | refine Keeps.var ?_ (fun h => absurd h (Nat.not_lt.2 (by first | exact Nat.le_refl _ | exact Nat.le_succ _ | exact K5.out.size | exact Nat.le_succ_of_le K5.out.size))) _ _ _))))
        clear hK K hHeld
        have hHeld := hH2
        clear hH2
        try simp only [Act.put, List.setIfInBounds_toArray, List.set_cons_zero, List.set_cons_succ]
        refine wpAnyH_done (by kernel_rfl) ?_ _
        refine NoPanic.normal ?_
        clear hHeld
        go_wp2_with fail
        go_meet
        have hz := K5.out.size
        exact ⟨_, _, rfl, rfl, (X2.out.set ⟨4, t, ⟨#[]⟩⟩).far (by omega) _ _ _, (X1.out.far (by omega) _ _ _).set V.null, by omega, by omega, by omega, (by repeat with_reducible (first | exact Keeps.refl _ _ | exact K5.out | refine Keeps.alloc ?_ _ | refine Keeps.drewN ?_ _ | refine Keeps.drew ?_ | refine Keeps.var ?_ (fun h => absurd h (Nat.not_lt.2 (by first | exact Nat.le_refl _ | exact Nat.le_succ _ | exact K5.out.size | exact Nat.le_succ_of_le K5.out.size))) _ _ _))⟩
  case rest =>
  obtain ⟨vl, vc, rfl, rfl, hV1, hV2, hg1, hg2, hne, hK⟩ := hcut
  have A0 := hidden (show AL w wc hb vl vc [(vt, rV (t : Nat))] t f 0 ⟨3, 0, name⟩ t V.null from AQ.mono (AQ.start (vs := [(vt, rV (t : Nat))]) (key := ⟨3, 0, name⟩) (H4.out.calm hK) S2.out.1 S2.out.2 NF3.out NT3.out ⟨hV1, fun h => by have := H4.out.heap.inw vl h; omega⟩ ⟨hV2, fun h => by have := H4.out.heap.inw vc h; omega⟩ (Nat.le_trans H4.out.K.size hg1) (Nat.le_trans H4.out.K.size hg2) hne (fun v hv => by simp only [List.mem_singleton] at hv; subst hv; exact VT4.out.calm hK) (fun v hv => by simp only [List.mem_singleton] at hv; subst hv; have := blk_lt VT4.out.var; exact ⟨fun e => by simp only at e; omega, fun e => by simp only at e; omega⟩)) (fun H _ => .inl ⟨rfl, rfl⟩))
  clear hV1 hV2 hg1 hg2 hK SK VT4 H4 S2 NF3 NT3
  clear hne
  go_wp2_with fail
  go_loopw [55] (fun i wr => ∃ k : Nat, (k : Int) ≤ between + 1 ∧ i = .int .i64 k ∧ ∃ z x, AL w wr hb vl vc [(vt, rV (t : Nat))] t f k ⟨3, 0, name⟩ z x) (fun i _ => (between + 1).toNat - (intOf i).toNat)
  case atStart => exact ⟨0, by omega, rfl, _, _, A0.out⟩
  case round =>
    clear A0
    obtain ⟨k, hk, rfl, z, x, hA⟩ := hrel
    by_cases hlt : (k : Int) < between + 1
    · have CT := hidden (hA.table (by omega))
      unfold V.val at CT
      clear hA
      go_wp2_with fail
      refine CT.out.mono ?_
      rintro e w5 ⟨d, rfl, hQ⟩
      have HQ := hidden hQ
      clear hQ CT
      have HQ6 := hidden (HQ.out.newv3 4 d ⟨#[]⟩)
      have CL := hidden (AL.link HQ6.out)
      unfold V.val at CL
      obtain ⟨a0, a1, a2, -⟩ := HQ.out.last.cells
      have haz := blk_lt HQ.out.last
      simp only [rV] at a0 a1 a2
      clear HQ HQ6
      go_wp2_with fail
      refine CL.out.mono ?_
      rintro e w6 ⟨rfl, hQ⟩
      have HQ6 := hidden hQ
      clear hQ CL a0 a1 a2 haz
      generalize w5.heap.size = vd at *
      obtain ⟨v0, v1, v2, v3, v4, v5⟩ := HQ6.out.last.cells
      have hvz := blk_lt HQ6.out.last
      obtain ⟨d0, d1, d2, -⟩ := (HQ6.out.var (List.mem_cons_self)).cells
      obtain ⟨xk, xn, xt⟩ := x
      obtain ⟨c0, c1, c2, -⟩ := HQ6.out.cls.cells
      have hcz := blk_lt HQ6.out.cls
      have hne := HQ6.out.ne
      simp only [rV] at v0 v1 v2 d0 d1 d2 c0 c1 c2
      have HQ7 := hidden ((HQ6.out.setl ⟨4, d, ⟨#[]⟩⟩).drop)
      dsimp only at HQ7
      have CC := hidden (AL.cls HQ7.out (by omega))
      unfold V.val at CC
      dsimp only at CC
      have hne' : vc ≠ vl := Ne.symm hne
      clear HQ6 HQ7
      go_wp2_with fail
      refine CC.out.mono ?_
      rintro e w8 ⟨c, rfl, hQ⟩
      have HQ8 := hidden hQ
      clear hQ CC v0 v1 v2 v3 v4 v5 hvz d0 d1 d2 c0 c1 c2 hcz hne hne'
      obtain ⟨v0, v1, v2, v3, v4, v5⟩ := HQ8.out.cls.cells
      have hvz := blk_lt HQ8.out.cls
      simp only at v0 v1 v2
      have HQ9 := hidden (HQ8.out.setc ⟨4, c, ⟨#[]⟩⟩)
      dsimp only at HQ9
      clear HQ8
      go_wp2_with fail
      clear v0 v1 v2 v3 v4 v5 hvz
      generalize ((w8.setCell ⟨vc, 0, none⟩ (.int .i64 4)).setCell ⟨vc, 1, none⟩ (.int .i64 c)).setCell ⟨vc, 2, none⟩ (.string ⟨#[]⟩) = w9 at *
      by_cases hk0 : k = 0
      · subst hk0
        have CM := hidden (fun (W : World) (hk : Keeps (fun _ => False) w9 W) => AQ.member ((HQ9.out.mono (fun H hd => by rw [if_pos rfl] at hd; exact hd)).calm hk) (by simp) (by simp only; omega))
        unfold V.val at CM
        dsimp only at CM
        have SK := hidden (fun (W : World) (hk : Keeps (fun _ => False) w9 W) => show W.cell? ⟨vc, 0, none⟩ = some (.int .i64 4) ∧ W.cell? ⟨vc, 1, none⟩ = some (.int .i64 c) ∧ W.cell? ⟨vc, 2, none⟩ = some (.string ⟨#[]⟩) from (have h := (HQ9.out.calm hk).cls.cells; ⟨h.1, h.2.1, h.2.2.1⟩))
        clear HQ9
        refine wp_region_noPanic ?_
        refine wp_region_held_drew (S := (fun W => W.cell? ⟨vc, 0, none⟩ = some (.int .i64 4) ∧ W.cell? ⟨vc, 1, none⟩ = some (.int .i64 c) ∧ W.cell? ⟨vc, 2, none⟩ = some (.string ⟨#[]⟩))) (by kernel_rfl) ?_ (fun hHeld => ?_)
        · ((try dsimp only); (first | exact SE.out | ((refine SK.out _ ?_); (repeat with_reducible (first | exact Keeps.refl _ _ | exact K11.out | exact K10.out | refine Keeps.drewN ?_ _ | refine Keeps.drew ?_)))))
        refine wpAnyH_take (i := 0) (oi := ⟨_, _, _, _, _, _⟩) (v := ?_) rfl (by kernel_rfl) (by kernel_rfl) (by kernel_rfl) (fun _ _ _ h => h) (Or.inl ⟨by rfl, ?_⟩) hHeld ?_
        rotate_left
        · (intro w' hSw; (try dsimp only at hSw); go_simp; (try with_reducible rfl))
        try simp only [Act.put, List.setIfInBounds_toArray, List.set_cons_zero, List.set_cons_succ]
        refine wpAnyH_take (i := 1) (oi := ⟨_, _, _, _, _, _⟩) (v := ?_) rfl (by kernel_rfl) (by kernel_rfl) (by kernel_rfl) (fun _ _ _ h => h) (Or.inl ⟨by rfl, ?_⟩) hHeld ?_
        rotate_left
        · (intro w' hSw; (try dsimp only at hSw); go_simp; (try with_reducible rfl))
        try simp only [Act.put, List.setIfInBounds_toArray, List.set_cons_zero, List.set_cons_succ]
        refine wpAnyH_take (i := 2) (oi := ⟨_, _, _, _, _, _⟩) (v := ?_) rfl (by kernel_rfl) (by kernel_rfl) (by kernel_rfl) (fun _ _ _ h => h) (Or.inl ⟨by rfl, ?_⟩) hHeld ?_
        rotate_left
        · (intro w' hSw; (try dsimp only at hSw); go_simp; (try with_reducible rfl))
        try simp only [Act.put, List.setIfInBounds_toArray, List.set_cons_zero, List.set_cons_succ]
        refine wpAnyH_take (i := 3) (oi := ⟨_, _, _, _, _, _⟩) (v := ?_) rfl (by kernel_rfl) (by kernel_rfl) (by kernel_rfl) (fun _ _ _ h => h) (Or.inl ⟨by rfl, ?_⟩) hHeld ?_
        rotate_left
        · (intro w' hSw; (try dsimp only at hSw); go_simp; (try with_reducible rfl))
        try simp only [Act.put, List.setIfInBounds_toArray, List.set_cons_zero, List.set_cons_succ]
        refine wpAnyH_take (i := 4) (oi := ⟨_, _, _, _, _, _⟩) (v := ?_) rfl (by kernel_rfl) (by kernel_rfl) (by kernel_rfl) (fun _ _ _ h => h) (Or.inl ⟨by rfl, ?_⟩) hHeld ?_
        rotate_left
        · (intro w' hSw; (try dsimp only at hSw); go_simp; (try with_reducible rfl))
        try simp only [Act.put, List.setIfInBounds_toArray, List.set_cons_zero, List.set_cons_succ]
        refine wpAnyH_take (i := 5) (oi := ⟨_, _, _, _, _, _⟩) (v := ?_) rfl (by kernel_rfl) (by kernel_rfl) (by kernel_rfl) (fun _ _ _ h => h) (Or.inl ⟨by rfl, ?_⟩) hHeld ?_
        rotate_left
        · (intro w' hSw; (try dsimp only at hSw); go_simp; (try with_reducible rfl))
        try simp only [Act.put, List.setIfInBounds_toArray, List.set_cons_zero, List.set_cons_succ]
        refine wpAnyH_take (i := 7) (oi := ⟨_, _, _, _, _, _⟩) (v := ?_) rfl (by kernel_rfl) (by kernel_rfl) (by kernel_rfl) (fun _ _ _ h => h) (Or.inl ⟨by rfl, ?_⟩) hHeld ?_
        rotate_left
        · (intro w' hSw; (try dsimp only at hSw); go_simp; (try with_reducible rfl))
        try simp only [Act.put, List.setIfInBounds_toArray, List.set_cons_zero, List.set_cons_succ]
        refine wpAnyH_ready (rs := [6]) (by kernel_rfl) (by simp) ?_
        refine AllReadyH.cons (o := ⟨_, _, _, _, _, _⟩) rfl (fun K hK => ?_) AllReadyH.nil
        go_simp
        (first | (go_at_call 34; refine (CS.out _).mono ?_; rintro e w10 ⟨rfl, h1⟩; have K10 := hidden (Keeps.trans (S := fun _ => False) (show Keeps (fun _ => False) w9 _ from (by repeat with_reducible (first | exact Keeps.refl _ _ | refine Keeps.drewN ?_ _ | refine Keeps.drew ?_))) h1 (fun _ _ h => h)); clear h1))
        go_wp2_with fail
        refine hK.out _ _ ?_ (fun hH2 => ?_)
        · ((try dsimp only); (first | exact SE.out | ((refine SK.out _ ?_); (repeat with_reducible (first | exact Keeps.refl _ _ | exact K11.out | exact K10.out | refine Keeps.drewN ?_ _ | refine Keeps.drew ?_)))))
        clear hK K hHeld
        have hHeld := hH2
        clear hH2
        try simp only [Act.put, List.setIfInBounds_toArray, List.set_cons_zero, List.set_cons_succ]
        refine wpAnyH_ready (rs := [8]) (by kernel_rfl) (by simp) ?_
        refine AllReadyH.cons (o := ⟨_, _, _, _, _, _⟩) rfl (fun K hK => ?_) AllReadyH.nil
        go_simp
        (first | (go_at_call 18; refine (CR.out _ _).mono ?_; rintro e w11 ⟨rfl, h1⟩; have K11 := hidden (Keeps.trans (S := fun _ => False) (show Keeps (fun _ => False) w9 _ from (by repeat with_reducible (first | exact K10.out | exact Keeps.refl _ _ | refine Keeps.drewN ?_ _ | refine Keeps.drew ?_))) h1 (fun _ _ h => h)); clear h1))
        go_wp2_with fail
        refine hK.out _ _ ?_ (fun hH2 => ?_)
        · ((try dsimp only); (first | exact SE.out | ((refine SK.out _ ?_); (repeat with_reducible (first | exact Keeps.refl _ _ | exact K11.out | exact K10.out | refine Keeps.drewN ?_ _ | refine Keeps.drew ?_)))))
        clear hK K hHeld
        have hHeld := hH2
        clear hH2
        try simp only [Act.put, List.setIfInBounds_toArray, List.set_cons_zero, List.set_cons_succ]
        refine wpAnyH_ready (rs := [9]) (by kernel_rfl) (by simp) ?_
        refine AllReadyH.cons (o := ⟨_, _, _, _, _, _⟩) rfl (fun K hK => ?_) AllReadyH.nil
        go_simp
        (first | (go_at_call 19; refine (CM.out _ (by repeat with_reducible (first | exact K11.out | refine Keeps.drewN ?_ _ | refine Keeps.drew ?_))).mono ?_; rintro e w12 ⟨rfl, h1⟩; have HQ12 := hidden h1; have SE := hidden (show w12.cell? ⟨vc, 0, none⟩ = some (.int .i64 4) ∧ w12.cell? ⟨vc, 1, none⟩ = some (.int .i64 c) ∧ w12.cell? ⟨vc, 2, none⟩ = some (.string ⟨#[]⟩) from (have h := HQ12.out.cls.cells; ⟨h.1, h.2.1, h.2.2.1⟩)); clear h1))
        go_wp2_with fail
        refine hK.out _ _ ?_ (fun hH2 => ?_)
        · ((try dsimp only); (first | exact SE.out | ((refine SK.out _ ?_); (repeat with_reducible (first | exact Keeps.refl _ _ | exact K11.out | exact K10.out | refine Keeps.drewN ?_ _ | refine Keeps.drew ?_)))))
        clear hK K hHeld
        have hHeld := hH2
        clear hH2
        try simp only [Act.put, List.setIfInBounds_toArray, List.set_cons_zero, List.set_cons_succ]
        refine wpAnyH_take (i := 10) (oi := ⟨_, _, _, _, _, _⟩) (v := ?_) rfl (by kernel_rfl) (by kernel_rfl) (by kernel_rfl) (fun _ _ _ h => h) (Or.inl ⟨by rfl, ?_⟩) hHeld ?_
        rotate_left
        · (intro w' hSw; (try dsimp only at hSw); go_simp; (try with_reducible rfl))
        try simp only [Act.put, List.setIfInBounds_toArray, List.set_cons_zero, List.set_cons_succ]
        refine wpAnyH_take (i := 11) (oi := ⟨_, _, _, _, _, _⟩) (v := ?_) rfl (by kernel_rfl) (by kernel_rfl) (by kernel_rfl) (fun _ _ _ h => h) (Or.inl ⟨by rfl, ?_⟩) hHeld ?_
        rotate_left
        · (intro w' hSw; (try dsimp only at hSw); go_simp; (try with_reducible rfl))
        try simp only [Act.put, List.setIfInBounds_toArray, List.set_cons_zero, List.set_cons_succ]
        refine wpAnyH_done (by kernel_rfl) ?_ _
        refine NoPanic.normal ?_
        clear hHeld
        clear SE SK CM K10 K11
        go_wp2_with fail
        go_roundw
        case rel => exact ⟨0 + 1, by omega, by go_num, d, _, AL.next HQ12.out⟩
        case measure => first | (simp [intOf]; done) | (simp [intOf]; omega)
      · have hkd : ((k : Int) == 0) = false := by simpa using hk0
        have HX := hidden (AL.next (HQ9.out.mono (fun H hd => by rw [if_neg hk0] at hd; exact hd)))
        clear HQ9
        refine wp_region_noPanic ?_
        refine wp_region_held_drew (S := (fun W => True)) (by kernel_rfl) ?_ (fun hHeld => ?_)
        · ((try dsimp only); (try exact True.intro))
        refine wpAnyH_take (i := 0) (oi := ⟨_, _, _, _, _, _⟩) (v := ?_) rfl (by kernel_rfl) (by kernel_rfl) (by kernel_rfl) (fun _ _ _ h => h) (Or.inl ⟨by rfl, ?_⟩) hHeld ?_
        rotate_left
        · (intro w' hSw; (try dsimp only at hSw); go_simp; (try with_reducible rfl))
        try simp only [Act.put, List.setIfInBounds_toArray, List.set_cons_zero, List.set_cons_succ]
        refine wpAnyH_take (i := 1) (oi := ⟨_, _, _, _, _, _⟩) (v := ?_) rfl (by kernel_rfl) (by kernel_rfl) (by kernel_rfl) (fun _ _ _ h => h) (Or.inl ⟨by rfl, ?_⟩) hHeld ?_
        rotate_left
        · (intro w' hSw; (try dsimp only at hSw); go_simp; (try with_reducible rfl))
        try simp only [Act.put, List.setIfInBounds_toArray, List.set_cons_zero, List.set_cons_succ]
        refine wpAnyH_take (i := 2) (oi := ⟨_, _, _, _, _, _⟩) (v := ?_) rfl (by kernel_rfl) (by kernel_rfl) (by kernel_rfl) (fun _ _ _ h => h) (Or.inl ⟨by rfl, ?_⟩) hHeld ?_
        rotate_left
        · (intro w' hSw; (try dsimp only at hSw); go_simp; (try with_reducible rfl))
        try simp only [Act.put, List.setIfInBounds_toArray, List.set_cons_zero, List.set_cons_succ]
        refine wpAnyH_take (i := 3) (oi := ⟨_, _, _, _, _, _⟩) (v := undef) rfl (by kernel_rfl) (by kernel_rfl) (by kernel_rfl) (fun _ _ _ h => h) (Or.inr ⟨by rfl, rfl⟩) hHeld ?_
        try simp only [Act.put, List.setIfInBounds_toArray, List.set_cons_zero, List.set_cons_succ]
        refine wpAnyH_take (i := 4) (oi := ⟨_, _, _, _, _, _⟩) (v := undef) rfl (by kernel_rfl) (by kernel_rfl) (by kernel_rfl) (fun _ _ _ h => h) (Or.inr ⟨by rfl, rfl⟩) hHeld ?_
        try simp only [Act.put, List.setIfInBounds_toArray, List.set_cons_zero, List.set_cons_succ]
        refine wpAnyH_take (i := 5) (oi := ⟨_, _, _, _, _, _⟩) (v := undef) rfl (by kernel_rfl) (by kernel_rfl) (by kernel_rfl) (fun _ _ _ h => h) (Or.inr ⟨by rfl, rfl⟩) hHeld ?_
        try simp only [Act.put, List.setIfInBounds_toArray, List.set_cons_zero, List.set_cons_succ]
        refine wpAnyH_take (i := 6) (oi := ⟨_, _, _, _, _, _⟩) (v := undef) rfl (by kernel_rfl) (by kernel_rfl) (by kernel_rfl) (fun _ _ _ h => h) (Or.inr ⟨by rfl, rfl⟩) hHeld ?_
        try simp only [Act.put, List.setIfInBounds_toArray, List.set_cons_zero, List.set_cons_succ]
        refine wpAnyH_take (i := 7) (oi := ⟨_, _, _, _, _, _⟩) (v := undef) rfl (by kernel_rfl) (by kernel_rfl) (by kernel_rfl) (fun _ _ _ h => h) (Or.inr ⟨by rfl, rfl⟩) hHeld ?_
        try simp only [Act.put, List.setIfInBounds_toArray, List.set_cons_zero, List.set_cons_succ]
        refine wpAnyH_take (i := 8) (oi := ⟨_, _, _, _, _, _⟩) (v := undef) rfl (by kernel_rfl) (by kernel_rfl) (by kernel_rfl) (fun _ _ _ h => h) (Or.inr ⟨by rfl, rfl⟩) hHeld ?_
        try simp only [Act.put, List.setIfInBounds_toArray, List.set_cons_zero, List.set_cons_succ]
        refine wpAnyH_take (i := 9) (oi := ⟨_, _, _, _, _, _⟩) (v := undef) rfl (by kernel_rfl) (by kernel_rfl) (by kernel_rfl) (fun _ _ _ h => h) (Or.inr ⟨by rfl, rfl⟩) hHeld ?_
        try simp only [Act.put, List.setIfInBounds_toArray, List.set_cons_zero, List.set_cons_succ]
        refine wpAnyH_take (i := 10) (oi := ⟨_, _, _, _, _, _⟩) (v := undef) rfl (by kernel_rfl) (by kernel_rfl) (by kernel_rfl) (fun _ _ _ h => h) (Or.inr ⟨by rfl, rfl⟩) hHeld ?_
        try simp only [Act.put, List.setIfInBounds_toArray, List.set_cons_zero, List.set_cons_succ]
        refine wpAnyH_take (i := 11) (oi := ⟨_, _, _, _, _, _⟩) (v := ?_) rfl (by kernel_rfl) (by kernel_rfl) (by kernel_rfl) (fun _ _ _ h => h) (Or.inl ⟨by rfl, ?_⟩) hHeld ?_
        rotate_left
        · (intro w' hSw; (try dsimp only at hSw); go_simp; (try with_reducible rfl))
        try simp only [Act.put, List.setIfInBounds_toArray, List.set_cons_zero, List.set_cons_succ]
        refine wpAnyH_done (by kernel_rfl) ?_ _
        refine NoPanic.normal ?_
        clear hHeld
        go_wp2_with fail
        go_roundw
        case rel => exact ⟨k + 1, by omega, by go_num, d, _, HX.out.calm (by repeat with_reducible (first | exact Keeps.refl _ _ | refine Keeps.drewN ?_ _ | refine Keeps.drew ?_))⟩
        case measure => first | (simp [intOf]; done) | (simp [intOf]; omega)
    · have HQ := hidden (AQ.mono (E := fun H => Named H ⟨3, 0, name⟩ f x) hA (fun H hd => hd.elim (fun e => absurd e.1 (by omega)) (fun e => e.2)))
      have hk1 : k ≠ 0 := by omega
      have hk2 : k ≤ 41 := by omega
      clear hA hk
      have CM := hidden (AQ.make HQ.out (by omega))
      obtain ⟨xk, xn, xt⟩ := x
      unfold V.val at CM
      dsimp only at CM
      obtain ⟨c0, c1, c2, -⟩ := HQ.out.cls.cells
      have hcz := blk_lt HQ.out.cls
      simp only at c0 c1 c2
      clear HQ
      go_wp2_with fail
      refine CM.out.mono ?_
      rintro e w5 ⟨o, rfl, hQ⟩
      clear CM c0 c1 c2 hcz
      have HQ6 := hidden (hQ.newv3 4 o ⟨#[]⟩)
      obtain ⟨a0, a1, a2, -⟩ := (hQ.var (List.mem_singleton.2 rfl)).cells
      have haz := blk_lt (hQ.var (List.mem_singleton.2 rfl))
      simp only [rV] at a0 a1 a2
      have CF := hidden (AQ.find0 (name := name) HQ6.out hk1 (by omega) (by omega))
      unfold V.val V.null at CF
      clear hQ
      go_wp2_with fail
      refine CF.out.mono ?_
      rintro e w6 ⟨rfl, hK⟩
      have HQ7 := hidden (HQ6.out.calm (hK.alloc (.cells #[.int .i64 0, .int .i64 0, .string ⟨#[]⟩] 26)))
      clear hK CF HQ6 a0 a1 a2 haz
      generalize w5.heap.size = vo at *
      go_wp2_with fail
      generalize w6.alloc (.cells #[.int .i64 0, .int .i64 0, .string ⟨#[]⟩] 26) = w7 at *
      have CG := hidden (fun (W : World) (hk : Keeps (fun _ => False) w7 W) => AQ.give (HQ7.out.calm hk) hk1 (by omega) (by simp) (by simp only; omega))
      unfold V.val at CG
      dsimp only at CG
      have SK := hidden (fun (W : World) (hk : Keeps (fun _ => False) w7 W) => show W.cell? ⟨vl, 0, none⟩ = some (.int .i64 4) ∧ W.cell? ⟨vl, 1, none⟩ = some (.int .i64 z) ∧ W.cell? ⟨vl, 2, none⟩ = some (.string ⟨#[]⟩) from (have h := (HQ7.out.calm hk).last.cells; ⟨h.1, h.2.1, h.2.2.1⟩))
      clear HQ7

      refine wp_region_noPanic ?_
      refine wp_region_held_drew (S := (fun W => W.cell? ⟨vl, 0, none⟩ = some (.int .i64 4) ∧ W.cell? ⟨vl, 1, none⟩ = some (.int .i64 z) ∧ W.cell? ⟨vl, 2, none⟩ = some (.string ⟨#[]⟩))) (by kernel_rfl) ?_ (fun hHeld => ?_)
      · ((try dsimp only); (first | exact SE.out | ((refine SK.out _ ?_); (repeat with_reducible (first | exact Keeps.refl _ _ | exact K9.out | exact K8.out | refine Keeps.drewN ?_ _ | refine Keeps.drew ?_)))))
      refine wpAnyH_take (i := 0) (oi := ⟨_, _, _, _, _, _⟩) (v := ?_) rfl (by kernel_rfl) (by kernel_rfl) (by kernel_rfl) (fun _ _ _ h => h) (Or.inl ⟨by rfl, ?_⟩) hHeld ?_
      rotate_left
      · (intro w' hSw; (try dsimp only at hSw); go_simp; (try with_reducible rfl))
      try simp only [Act.put, List.setIfInBounds_toArray, List.set_cons_zero, List.set_cons_succ]
      refine wpAnyH_take (i := 1) (oi := ⟨_, _, _, _, _, _⟩) (v := ?_) rfl (by kernel_rfl) (by kernel_rfl) (by kernel_rfl) (fun _ _ _ h => h) (Or.inl ⟨by rfl, ?_⟩) hHeld ?_
      rotate_left
      · (intro w' hSw; (try dsimp only at hSw); go_simp; (try with_reducible rfl))
      try simp only [Act.put, List.setIfInBounds_toArray, List.set_cons_zero, List.set_cons_succ]
      refine wpAnyH_take (i := 2) (oi := ⟨_, _, _, _, _, _⟩) (v := ?_) rfl (by kernel_rfl) (by kernel_rfl) (by kernel_rfl) (fun _ _ _ h => h) (Or.inl ⟨by rfl, ?_⟩) hHeld ?_
      rotate_left
      · (intro w' hSw; (try dsimp only at hSw); go_simp; (try with_reducible rfl))
      try simp only [Act.put, List.setIfInBounds_toArray, List.set_cons_zero, List.set_cons_succ]
      refine wpAnyH_take (i := 3) (oi := ⟨_, _, _, _, _, _⟩) (v := ?_) rfl (by kernel_rfl) (by kernel_rfl) (by kernel_rfl) (fun _ _ _ h => h) (Or.inl ⟨by rfl, ?_⟩) hHeld ?_
      rotate_left
      · (intro w' hSw; (try dsimp only at hSw); go_simp; (try with_reducible rfl))
      try simp only [Act.put, List.setIfInBounds_toArray, List.set_cons_zero, List.set_cons_succ]
      refine wpAnyH_take (i := 4) (oi := ⟨_, _, _, _, _, _⟩) (v := ?_) rfl (by kernel_rfl) (by kernel_rfl) (by kernel_rfl) (fun _ _ _ h => h) (Or.inl ⟨by rfl, ?_⟩) hHeld ?_
      rotate_left
      · (intro w' hSw; (try dsimp only at hSw); go_simp; (try with_reducible rfl))
      try simp only [Act.put, List.setIfInBounds_toArray, List.set_cons_zero, List.set_cons_succ]
      refine wpAnyH_take (i := 5) (oi := ⟨_, _, _, _, _, _⟩) (v := ?_) rfl (by kernel_rfl) (by kernel_rfl) (by kernel_rfl) (fun _ _ _ h => h) (Or.inl ⟨by rfl, ?_⟩) hHeld ?_
      rotate_left
      · (intro w' hSw; (try dsimp only at hSw); go_simp; (try with_reducible rfl))
      try simp only [Act.put, List.setIfInBounds_toArray, List.set_cons_zero, List.set_cons_succ]
      refine wpAnyH_take (i := 6) (oi := ⟨_, _, _, _, _, _⟩) (v := ?_) rfl (by kernel_rfl) (by kernel_rfl) (by kernel_rfl) (fun _ _ _ h => h) (Or.inl ⟨by rfl, ?_⟩) hHeld ?_
      rotate_left
      · (intro w' hSw; (try dsimp only at hSw); go_simp; (try with_reducible rfl))
      try simp only [Act.put, List.setIfInBounds_toArray, List.set_cons_zero, List.set_cons_succ]
      refine wpAnyH_take (i := 7) (oi := ⟨_, _, _, _, _, _⟩) (v := ?_) rfl (by kernel_rfl) (by kernel_rfl) (by kernel_rfl) (fun _ _ _ h => h) (Or.inl ⟨by rfl, ?_⟩) hHeld ?_
      rotate_left
      · (intro w' hSw; (try dsimp only at hSw); go_simp; (try with_reducible rfl))
      try simp only [Act.put, List.setIfInBounds_toArray, List.set_cons_zero, List.set_cons_succ]
      refine wpAnyH_take (i := 8) (oi := ⟨_, _, _, _, _, _⟩) (v := ?_) rfl (by kernel_rfl) (by kernel_rfl) (by kernel_rfl) (fun _ _ _ h => h) (Or.inl ⟨by rfl, ?_⟩) hHeld ?_
      rotate_left
      · (intro w' hSw; (try dsimp only at hSw); go_simp; (try with_reducible rfl))
      try simp only [Act.put, List.setIfInBounds_toArray, List.set_cons_zero, List.set_cons_succ]
      refine wpAnyH_take (i := 10) (oi := ⟨_, _, _, _, _, _⟩) (v := ?_) rfl (by kernel_rfl) (by kernel_rfl) (by kernel_rfl) (fun _ _ _ h => h) (Or.inl ⟨by rfl, ?_⟩) hHeld ?_
      rotate_left
      · (intro w' hSw; (try dsimp only at hSw); go_simp; (try with_reducible rfl))
      try simp only [Act.put, List.setIfInBounds_toArray, List.set_cons_zero, List.set_cons_succ]
      refine wpAnyH_ready (rs := [9]) (by kernel_rfl) (by simp) ?_
      refine AllReadyH.cons (o := ⟨_, _, _, _, _, _⟩) rfl (fun K hK => ?_) AllReadyH.nil
      go_simp
      (first | (go_at_call 34; refine (CS.out _).mono ?_; rintro e w8 ⟨rfl, h1⟩; have K8 := hidden (Keeps.trans (S := fun _ => False) (show Keeps (fun _ => False) w7 _ from (by repeat with_reducible (first | exact Keeps.refl _ _ | refine Keeps.drewN ?_ _ | refine Keeps.drew ?_))) h1 (fun _ _ h => h)); clear h1))
      go_wp2_with fail
      refine hK.out _ _ ?_ (fun hH2 => ?_)
      · ((try dsimp only); (first | exact SE.out | ((refine SK.out _ ?_); (repeat with_reducible (first | exact Keeps.refl _ _ | exact K9.out | exact K8.out | refine Keeps.drewN ?_ _ | refine Keeps.drew ?_)))))
      clear hK K hHeld
      have hHeld := hH2
      clear hH2
      try simp only [Act.put, List.setIfInBounds_toArray, List.set_cons_zero, List.set_cons_succ]
      refine wpAnyH_ready (rs := [11]) (by kernel_rfl) (by simp) ?_
      refine AllReadyH.cons (o := ⟨_, _, _, _, _, _⟩) rfl (fun K hK => ?_) AllReadyH.nil
      go_simp
      (first | (go_at_call 18; refine (CR.out _ _).mono ?_; rintro e w9 ⟨rfl, h1⟩; have K9 := hidden (Keeps.trans (S := fun _ => False) (show Keeps (fun _ => False) w7 _ from (by repeat with_reducible (first | exact K8.out | exact Keeps.refl _ _ | refine Keeps.drewN ?_ _ | refine Keeps.drew ?_))) h1 (fun _ _ h => h)); clear h1))
      go_wp2_with fail
      refine hK.out _ _ ?_ (fun hH2 => ?_)
      · ((try dsimp only); (first | exact SE.out | ((refine SK.out _ ?_); (repeat with_reducible (first | exact Keeps.refl _ _ | exact K9.out | exact K8.out | refine Keeps.drewN ?_ _ | refine Keeps.drew ?_)))))
      clear hK K hHeld
      have hHeld := hH2
      clear hH2
      try simp only [Act.put, List.setIfInBounds_toArray, List.set_cons_zero, List.set_cons_succ]
      refine wpAnyH_ready (rs := [12]) (by kernel_rfl) (by simp) ?_
      refine AllReadyH.cons (o := ⟨_, _, _, _, _, _⟩) rfl (fun K hK => ?_) AllReadyH.nil
      go_simp
      (first | (go_at_call 39; refine (CG.out _ (by repeat with_reducible (first | exact K9.out | refine Keeps.drewN ?_ _ | refine Keeps.drew ?_))).mono ?_; rintro e w10 ⟨rfl, h1⟩; have HF := hidden h1; have SE := hidden (show w10.cell? ⟨vl, 0, none⟩ = some (.int .i64 4) ∧ w10.cell? ⟨vl, 1, none⟩ = some (.int .i64 z) ∧ w10.cell? ⟨vl, 2, none⟩ = some (.string ⟨#[]⟩) from (have h := (HF.out.var (List.mem_cons_self)).cells; ⟨h.1, h.2.1, h.2.2.1⟩)); clear h1))
      go_wp2_with fail
      refine hK.out _ _ ?_ (fun hH2 => ?_)
      · ((try dsimp only); (first | exact SE.out | ((refine SK.out _ ?_); (repeat with_reducible (first | exact Keeps.refl _ _ | exact K9.out | exact K8.out | refine Keeps.drewN ?_ _ | refine Keeps.drew ?_)))))
      clear hK K hHeld
      have hHeld := hH2
      clear hH2
      try simp only [Act.put, List.setIfInBounds_toArray, List.set_cons_zero, List.set_cons_succ]
      refine wpAnyH_take (i := 13) (oi := ⟨_, _, _, _, _, _⟩) (v := ?_) rfl (by kernel_rfl) (by kernel_rfl) (by kernel_rfl) (fun _ _ _ h => h) (Or.inl ⟨by rfl, ?_⟩) hHeld ?_
      rotate_left
      · (intro w' hSw; (try dsimp only at hSw); go_simp; (try with_reducible rfl))
      try simp only [Act.put, List.setIfInBounds_toArray, List.set_cons_zero, List.set_cons_succ]
      refine wpAnyH_take (i := 14) (oi := ⟨_, _, _, _, _, _⟩) (v := ?_) rfl (by kernel_rfl) (by kernel_rfl) (by kernel_rfl) (fun _ _ _ h => h) (Or.inl ⟨by rfl, ?_⟩) hHeld ?_
      rotate_left
      · (intro w' hSw; (try dsimp only at hSw); go_simp; (try with_reducible rfl))
      try simp only [Act.put, List.setIfInBounds_toArray, List.set_cons_zero, List.set_cons_succ]
      refine wpAnyH_done (by kernel_rfl) ?_ _
      refine NoPanic.normal ?_
      clear hHeld
      clear SK CG SE K8 K9
      have HV0 := hidden (HF.out.var (i := vt) (v := rV (t : Nat)) (by simp))
      have HV2 := hidden (HF.out.var (i := vo) (v := ⟨4, o, ⟨#[]⟩⟩) (by simp))
      have CF := hidden (HF.out.findT (name := name) (by omega))
      unfold V.val at CF
      obtain ⟨a0, a1, a2, -⟩ := HV0.out.cells
      have haz := blk_lt HV0.out
      simp only [rV] at a0 a1 a2
      go_wp2_with fail
      refine CF.out.mono ?_
      rintro e w11 ⟨rfl, hK⟩
      have HF11 := hidden ((HF.out.calm hK).newv3 4 f ⟨#[]⟩)
      have CI := hidden (HF11.out.findI (name := name) (by omega))
      unfold V.val at CI
      obtain ⟨b0, b1, b2, -⟩ := (HV2.out.keeps hK (fun h => h)).cells
      have hbz := blk_lt (HV2.out.keeps hK (fun h => h))
      simp only at b0 b1 b2
      clear hK CF a0 a1 a2 haz HV0 HV2 HF
      go_wp2_with fail
      refine CI.out.mono ?_
      rintro e w12 ⟨rfl, hK⟩
      have HF12 := hidden ((HF11.out.calm hK).newv3 4 f ⟨#[]⟩)
      clear hK CI b0 b1 b2 hbz HF11
      generalize w11.heap.size = vx at *
      go_wp2_with fail
      generalize w12.heap.size = vy at *
      generalize w12.alloc (.cells #[.int .i64 4, .int .i64 f, .string ⟨#[]⟩] 26) = w13 at *
      have SK := hidden (fun (W : World) (hk : Keeps (fun _ => False) w13 W) => show W.cell? ⟨vx, 0, none⟩ = some (.int .i64 4) ∧ W.cell? ⟨vx, 1, none⟩ = some (.int .i64 f) ∧ W.cell? ⟨vx, 2, none⟩ = some (.string ⟨#[]⟩) ∧ W.cell? ⟨vy, 0, none⟩ = some (.int .i64 4) ∧ W.cell? ⟨vy, 1, none⟩ = some (.int .i64 f) ∧ W.cell? ⟨vy, 2, none⟩ = some (.string ⟨#[]⟩) from (have h1 := ((HF12.out.calm hk).var (i := vx) (v := ⟨4, f, ⟨#[]⟩⟩) (by simp)).cells; have h2 := ((HF12.out.calm hk).var (i := vy) (v := ⟨4, f, ⟨#[]⟩⟩) (by simp)).cells; ⟨h1.1, h1.2.1, h1.2.2.1, h2.1, h2.2.1, h2.2.2.1⟩))
      refine wp_region_noPanic ?_
      refine wp_region_held_drew (S := (fun W => W.cell? ⟨vx, 0, none⟩ = some (.int .i64 4) ∧ W.cell? ⟨vx, 1, none⟩ = some (.int .i64 f) ∧ W.cell? ⟨vx, 2, none⟩ = some (.string ⟨#[]⟩) ∧ W.cell? ⟨vy, 0, none⟩ = some (.int .i64 4) ∧ W.cell? ⟨vy, 1, none⟩ = some (.int .i64 f) ∧ W.cell? ⟨vy, 2, none⟩ = some (.string ⟨#[]⟩))) (by kernel_rfl) ?_ (fun hHeld => ?_)
      · ((try dsimp only); ((refine SK.out _ ?_); (repeat with_reducible (first | exact Keeps.refl _ _ | exact K14.out | refine Keeps.drewN ?_ _ | refine Keeps.drew ?_))))
      refine wpAnyH_take (i := 0) (oi := ⟨_, _, _, _, _, _⟩) (v := ?_) rfl (by kernel_rfl) (by kernel_rfl) (by kernel_rfl) (fun _ _ _ h => h) (Or.inl ⟨by rfl, ?_⟩) hHeld ?_
      rotate_left
      · (intro w' hSw; (try dsimp only at hSw); go_simp; (try with_reducible rfl))
      try simp only [Act.put, List.setIfInBounds_toArray, List.set_cons_zero, List.set_cons_succ]
      refine wpAnyH_take (i := 1) (oi := ⟨_, _, _, _, _, _⟩) (v := ?_) rfl (by kernel_rfl) (by kernel_rfl) (by kernel_rfl) (fun _ _ _ h => h) (Or.inl ⟨by rfl, ?_⟩) hHeld ?_
      rotate_left
      · (intro w' hSw; (try dsimp only at hSw); go_simp; (try with_reducible rfl))
      try simp only [Act.put, List.setIfInBounds_toArray, List.set_cons_zero, List.set_cons_succ]
      refine wpAnyH_take (i := 2) (oi := ⟨_, _, _, _, _, _⟩) (v := ?_) rfl (by kernel_rfl) (by kernel_rfl) (by kernel_rfl) (fun _ _ _ h => h) (Or.inl ⟨by rfl, ?_⟩) hHeld ?_
      rotate_left
      · (intro w' hSw; (try dsimp only at hSw); go_simp; (try with_reducible rfl))
      try simp only [Act.put, List.setIfInBounds_toArray, List.set_cons_zero, List.set_cons_succ]
      refine wpAnyH_take (i := 3) (oi := ⟨_, _, _, _, _, _⟩) (v := ?_) rfl (by kernel_rfl) (by kernel_rfl) (by kernel_rfl) (fun _ _ _ h => h) (Or.inl ⟨by rfl, ?_⟩) hHeld ?_
      rotate_left
      · (intro w' hSw; (try dsimp only at hSw); go_simp; (try with_reducible rfl))
      try simp only [Act.put, List.setIfInBounds_toArray, List.set_cons_zero, List.set_cons_succ]
      refine wpAnyH_take (i := 4) (oi := ⟨_, _, _, _, _, _⟩) (v := ?_) rfl (by kernel_rfl) (by kernel_rfl) (by kernel_rfl) (fun _ _ _ h => h) (Or.inl ⟨by rfl, ?_⟩) hHeld ?_
      rotate_left
      · (intro w' hSw; (try dsimp only at hSw); go_simp; (try with_reducible rfl))
      try simp only [Act.put, List.setIfInBounds_toArray, List.set_cons_zero, List.set_cons_succ]
      refine wpAnyH_take (i := 5) (oi := ⟨_, _, _, _, _, _⟩) (v := ?_) rfl (by kernel_rfl) (by kernel_rfl) (by kernel_rfl) (fun _ _ _ h => h) (Or.inl ⟨by rfl, ?_⟩) hHeld ?_
      rotate_left
      · (intro w' hSw; (try dsimp only at hSw); go_simp; (try with_reducible rfl))
      try simp only [Act.put, List.setIfInBounds_toArray, List.set_cons_zero, List.set_cons_succ]
      refine wpAnyH_take (i := 6) (oi := ⟨_, _, _, _, _, _⟩) (v := ?_) rfl (by kernel_rfl) (by kernel_rfl) (by kernel_rfl) (fun _ _ _ h => h) (Or.inl ⟨by rfl, ?_⟩) hHeld ?_
      rotate_left
      · (intro w' hSw; (try dsimp only at hSw); go_simp; (try with_reducible rfl))
      try simp only [Act.put, List.setIfInBounds_toArray, List.set_cons_zero, List.set_cons_succ]
      refine wpAnyH_ready (rs := [7]) (by kernel_rfl) (by simp) ?_
      refine AllReadyH.cons (o := ⟨_, _, _, _, _, _⟩) rfl (fun K hK => ?_) AllReadyH.nil
      go_simp
      (first | (go_at_call 18; refine (CR.out _ _).mono ?_; rintro e w14 ⟨rfl, h1⟩; have K14 := hidden (Keeps.trans (S := fun _ => False) (show Keeps (fun _ => False) w13 _ from (by repeat with_reducible (first | exact Keeps.refl _ _ | refine Keeps.drewN ?_ _ | refine Keeps.drew ?_))) h1 (fun _ _ h => h)); clear h1))
      go_wp2_with fail
      refine hK.out _ _ ?_ (fun hH2 => ?_)
      · ((try dsimp only); ((refine SK.out _ ?_); (repeat with_reducible (first | exact Keeps.refl _ _ | exact K14.out | refine Keeps.drewN ?_ _ | refine Keeps.drew ?_))))
      clear hK K hHeld
      have hHeld := hH2
      clear hH2
      try simp only [Act.put, List.setIfInBounds_toArray, List.set_cons_zero, List.set_cons_succ]
      refine wpAnyH_take (i := 8) (oi := ⟨_, _, _, _, _, _⟩) (v := ?_) rfl (by kernel_rfl) (by kernel_rfl) (by kernel_rfl) (fun _ _ _ h => h) (Or.inl ⟨by rfl, ?_⟩) hHeld ?_
      rotate_left
      · (intro w' hSw; (try dsimp only at hSw); go_simp; (try with_reducible rfl))
      try simp only [Act.put, List.setIfInBounds_toArray, List.set_cons_zero, List.set_cons_succ]
      refine wpAnyH_take (i := 9) (oi := ⟨_, _, _, _, _, _⟩) (v := ?_) rfl (by kernel_rfl) (by kernel_rfl) (by kernel_rfl) (fun _ _ _ h => h) (Or.inl ⟨by rfl, ?_⟩) hHeld ?_
      rotate_left
      · (intro w' hSw; (try dsimp only at hSw); go_simp; (try with_reducible rfl))
      try simp only [Act.put, List.setIfInBounds_toArray, List.set_cons_zero, List.set_cons_succ]
      refine wpAnyH_take (i := 10) (oi := ⟨_, _, _, _, _, _⟩) (v := ?_) rfl (by kernel_rfl) (by kernel_rfl) (by kernel_rfl) (fun _ _ _ h => h) (Or.inl ⟨by rfl, ?_⟩) hHeld ?_
      rotate_left
      · (intro w' hSw; (try dsimp only at hSw); go_simp; (try with_reducible rfl))
      try simp only [Act.put, List.setIfInBounds_toArray, List.set_cons_zero, List.set_cons_succ]
      refine wpAnyH_take (i := 11) (oi := ⟨_, _, _, _, _, _⟩) (v := ?_) rfl (by kernel_rfl) (by kernel_rfl) (by kernel_rfl) (fun _ _ _ h => h) (Or.inl ⟨by rfl, ?_⟩) hHeld ?_
      rotate_left
      · (intro w' hSw; (try dsimp only at hSw); go_simp; (try with_reducible rfl))
      try simp only [Act.put, List.setIfInBounds_toArray, List.set_cons_zero, List.set_cons_succ]
      refine wpAnyH_take (i := 12) (oi := ⟨_, _, _, _, _, _⟩) (v := ?_) rfl (by kernel_rfl) (by kernel_rfl) (by kernel_rfl) (fun _ _ _ h => h) (Or.inl ⟨by rfl, ?_⟩) hHeld ?_
      rotate_left
      · (intro w' hSw; (try dsimp only at hSw); go_simp; (try with_reducible rfl))
      try simp only [Act.put, List.setIfInBounds_toArray, List.set_cons_zero, List.set_cons_succ]
      refine wpAnyH_take (i := 13) (oi := ⟨_, _, _, _, _, _⟩) (v := ?_) rfl (by kernel_rfl) (by kernel_rfl) (by kernel_rfl) (fun _ _ _ h => h) (Or.inl ⟨by rfl, ?_⟩) hHeld ?_
      rotate_left
      · (intro w' hSw; (try dsimp only at hSw); go_simp; (try with_reducible rfl))
      try simp only [Act.put, List.setIfInBounds_toArray, List.set_cons_zero, List.set_cons_succ]
      refine wpAnyH_take (i := 14) (oi := ⟨_, _, _, _, _, _⟩) (v := ?_) rfl (by kernel_rfl) (by kernel_rfl) (by kernel_rfl) (fun _ _ _ h => h) (Or.inl ⟨by rfl, ?_⟩) hHeld ?_
      rotate_left
      · (intro w' hSw; (try dsimp only at hSw); go_simp; (try with_reducible rfl))
      try simp only [Act.put, List.setIfInBounds_toArray, List.set_cons_zero, List.set_cons_succ]
      refine wpAnyH_take (i := 15) (oi := ⟨_, _, _, _, _, _⟩) (v := ?_) rfl (by kernel_rfl) (by kernel_rfl) (by kernel_rfl) (fun _ _ _ h => h) (Or.inl ⟨by rfl, ?_⟩) hHeld ?_
      rotate_left
      · (intro w' hSw; (try dsimp only at hSw); go_simp; (try with_reducible rfl))
      try simp only [Act.put, List.setIfInBounds_toArray, List.set_cons_zero, List.set_cons_succ]
      refine wpAnyH_done (by kernel_rfl) ?_ _
      refine NoPanic.normal ?_
      clear hHeld
      go_wp2_with fail
      exact hR.out _ _ ⟨rfl, (HF12.out.calm K14.out).K.below (Nat.le_refl _) (fun _ h => h)⟩
end Go.Proofs.Ytfdfjogoiagnkaa
