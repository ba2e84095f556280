/- dreylaw16.LayoutDeep: the walk. -/
import Derived.Test.YtfdfjogoiagnkaaZHead16
set_option linter.unusedSimpArgs false
set_option linter.unusedVariables false
namespace Go.Proofs.Ytfdfjogoiagnkaa
open Go.RowKit
set_option maxRecDepth 100000

theorem Chain.old {H H' : Hp} {i : Nat} {y : Nat × Cl} {x : V} {l : List V} (h : Chain H x l) (hn : NewAt H H' i y) : Chain H' x l := by
  induction h with
  | nil h => exact .nil h
  | cons hi hk hv _ ih => exact .cons (hn.old hi) hk hv ih
/-- A class without members, or none. -/
def ClsEnd (H : Hp) (x : V) : Prop := x = V.null ∨ ∃ (i p tb : Nat) (b : V), x = ⟨4, (i : Nat), ⟨#[]⟩⟩ ∧ H[i]? = some (some (p, classCl tb [] 0 b))
section
variable {w : World} {F : Nat → Prop} {hb : Nat} {H : List (Option (Nat × Cl))} {s : HSt}
theorem deep_New (h : IsHeap w F hb H s) (ho : HOk H s) (hf : s.live < s.limit) {x : V} {l : List V} (hx : ClsEnd H x) (hch : Chain H x l) (hl : l.length < 64) :
    Calls Try.prog 13 #[.pointer (some ⟨hb, 0, none⟩), x.val] w fun e w' => ∃ (i p tb : Nat) (F' : Nat → Prop) (H' : Hp) (s' : HSt), e = .returned (.tuple #[V.val ⟨4, (i : Nat), ⟨#[]⟩⟩, .int .i64 0]) ∧ Made w w' F (fun _ => False) hb H s (classCl tb [] 0 x) i p F' H' s' := by
  rcases hx with rfl | ⟨i, p, tb, b, rfl, hi⟩
  · exact lay_New_null h ho hf
  · exact lay_New_ok h ho hf hi rfl (tb0 := tb) (L := []) (sr := 0) rfl (by decide) hch hl
end
/-- k classes, one from the other. -/
structure DS (w wr : World) (hb vc k : Nat) : Prop where
  lie : ∃ F H s x l, Hd w hb F H s wr ∧ s.live = k ∧ s.limit = 200 ∧ Vr F wr vc x ∧ Chain H x l ∧ l.length = k ∧ ClsEnd H x
  vge : w.heap.size ≤ vc
theorem DS.calm {w wr wj : World} {hb vc k : Nat} (h : DS w wr hb vc k) (hk : Keeps (fun _ => False) wr wj) : DS w wj hb vc k := by
  obtain ⟨⟨F, H, s, x, l, h1, h2, h3, h4, h5⟩, h6⟩ := h
  exact ⟨⟨F, H, s, x, l, h1.calm hk, h2, h3, h4.calm hk, h5⟩, h6⟩
theorem DS.more {w wr : World} {hb vc k : Nat} (h : DS w wr hb vc k) (hk : k < 64) :
    ∃ x : V, IsVar wr vc x ∧ Calls Try.prog 13 #[.pointer (some ⟨hb, 0, none⟩), x.val] wr fun e w' => ∃ i : Nat, e = .returned (.tuple #[V.val ⟨4, (i : Nat), ⟨#[]⟩⟩, .int .i64 0]) ∧ IsVar w' vc x ∧ DS w (((w'.setCell ⟨vc, 0, none⟩ (.int .i64 4)).setCell ⟨vc, 1, none⟩ (.int .i64 i)).setCell ⟨vc, 2, none⟩ (.string ⟨#[]⟩)) hb vc (k + 1) := by
  obtain ⟨⟨F, H, s, x, l, h1, h2, h3, h4, h5, h6, h7⟩, hv⟩ := h
  refine ⟨x, h4.var, (deep_New h1.heap h1.ok (by rw [h2, h3]; omega) h7 h5 (by omega)).mono ?_⟩
  rintro e w' ⟨i, p, tb, F', H', s', rfl, hM⟩
  have hd := h1.made hM (fun k h => h.elim)
  have hv4 := h4.step hM.keeps hM.fr
  have kv := (Keeps.refl (fun k => k = vc) w').var (r := vc) (fun _ => rfl) (.int .i64 4) (.int .i64 i) (.string ⟨#[]⟩)
  refine ⟨i, rfl, hv4.var, ⟨⟨F', H', s', ⟨4, i, ⟨#[]⟩⟩, rV (i : Nat) :: l, hd.other kv (fun k h1 h2 => hv4.off (h2 ▸ h1)) (fun k h => by rw [h]; exact hv), by rw [hM.live, h2]; omega, by rw [hM.limit, h3], ⟨hv4.var.set ⟨4, i, ⟨#[]⟩⟩, hv4.off⟩, .cons hM.new.at_ rfl rfl (h5.old hM.new), by rw [List.length_cons, h6], .inr ⟨i, p, tb, x, rfl, hM.new.at_⟩⟩, hv⟩⟩
theorem DS.full {w wr : World} {hb vc : Nat} (h : DS w wr hb vc 64) :
    ∃ x : V, IsVar wr vc x ∧ Calls Try.prog 13 #[.pointer (some ⟨hb, 0, none⟩), x.val] wr fun e w' => e = .returned (.tuple #[V.val V.null, .int .i64 6]) ∧ Keeps (fun _ => False) wr w' := by
  obtain ⟨⟨F, H, s, x, l, h1, h2, h3, h4, h5, h6, h7⟩, hv⟩ := h
  refine ⟨x, h4.var, ?_⟩
  rcases h7 with rfl | ⟨i, p, tb, b, rfl, hi⟩
  · cases h5 with
    | nil _ => simp at h6
  · exact lay_New_deep h1.heap h1.ok hi rfl (tb0 := tb) (L := []) (sr := 0) rfl (by decide) h5 (by omega) (by omega)
theorem DS.live {w wr : World} {hb vc k : Nat} (h : DS w wr hb vc k) : Calls Try.prog 14 #[.pointer (some ⟨hb, 0, none⟩)] wr fun e w' => e = .returned (.int .i64 k) ∧ wr = w' := by
  obtain ⟨⟨F, H, s, x, l, h1, h2, -⟩, hv⟩ := h
  rw [← h2]
  exact heap_Live h1.heap
theorem DS.K {w wr : World} {hb vc k : Nat} (h : DS w wr hb vc k) : Keeps (fun k => w.heap.size ≤ k) w wr := by
  obtain ⟨⟨F, H, s, x, l, h1, -⟩, -⟩ := h
  exact h1.K
set_option maxHeartbeats 8000000 in
theorem layoutDeep_walk (w : World) (more : Int) :
    Calls Try.prog 3 #[.int .i64 more] w fun e w' => e = .returned (.bool true) ∧ Below w.heap.size w w' := by
  refine post_gen fun R hR => ?_
  go_enter Try.func3, Try.ntmps3
  go_wp2_with fail
  refine (lays16_true w).mono ?_
  rintro e w1 ⟨rfl, hB1⟩
  by_cases hm : more < 0
  · go_wp2_with fail
    exact hR.out _ _ ⟨rfl, hB1⟩
  by_cases hm3 : 3 < more
  · go_wp2_with fail
    exact hR.out _ _ ⟨rfl, hB1⟩
  have HB := hidden (Keeps.of_below hB1)
  clear hB1
  go_wp2_with fail
  refine (heap_New w1 200).mono ?_
  rintro e w2 ⟨hb, F0, rfl, hH, hK, hF⟩
  have H2 := hidden (show Hd w hb F0 [] ⟨[], 0, 200, 0, 0⟩ w2 from ⟨hH, HOk.new 200, fun k h => (hF k h).elim (fun h => h.elim) (fun h => Nat.le_trans HB.out.size h), HB.out.trans hK (fun _ _ h => h.elim)⟩)
  clear hH hK hF HB
  have CN := hidden (fun (W : World) => value_Null W)
  unfold V.val V.null at CN
  go_wp2_with fail
  refine (CN.out _).mono ?_
  rintro e w3 ⟨rfl, hK⟩
  have H3 := hidden (H2.out.calm hK)
  clear hK H2
  go_wp2_with fail
  have D0 := hidden (show DS w (w3.alloc (.cells #[.int .i64 0, .int .i64 0, .string ⟨#[]⟩] 26)) hb w3.heap.size 0 from
    ⟨⟨F0, [], _, V.null, [], H3.out.calm ((Keeps.refl _ w3).alloc _), rfl, rfl, Vr.new V.null H3.out.heap.inw, .nil rfl, rfl, .inl rfl⟩, H3.out.K.size⟩)
  clear H3
  generalize w3.heap.size = vc at *
  generalize w3.alloc (.cells #[.int .i64 0, .int .i64 0, .string ⟨#[]⟩] 26) = w4 at *
  go_loopw [5, 19] (fun _ i wr => ∃ k : Nat, k ≤ 64 ∧ i = .int .i64 k ∧ DS w wr hb vc k) (fun _ i _ => 64 - (intOf i).toNat)
  case atStart => exact ⟨0, by decide, rfl, D0.out⟩
  case round =>
    clear D0
    obtain ⟨k, hk, rfl, hD⟩ := hrel
    by_cases hlt : k < 64
    · obtain ⟨x, hx, hC⟩ := hD.more hlt
      obtain ⟨xk, xn, xt⟩ := x
      have HC := hidden hC
      unfold V.val at HC
      obtain ⟨a0, a1, a2, -⟩ := hx.cells
      have haz := blk_lt hx
      simp only at a0 a1 a2
      clear hC hD hx
      go_wp2_with fail
      refine HC.out.mono ?_
      rintro e w5 ⟨i, rfl, hV, hD⟩
      have HD := hidden hD
      clear hD a0 a1 a2 haz HC
      obtain ⟨v0, v1, v2, v3, v4, v5⟩ := hV.cells
      have hvz := blk_lt hV
      simp only at v0 v1 v2
      clear hV
      go_wp2_with fail
      go_roundw
      case rel => exact ⟨k + 1, hlt, by go_num, HD.out⟩
      case measure => simp [intOf]; omega
    · obtain rfl : k = 64 := by omega
      have HD := hidden hD
      have HL := hidden (fun (W : World) (h : DS w W hb vc 64) => h.live)
      clear hD hlt hk
      go_wp2_with fail
      refine (HL.out _ HD.out).mono ?_
      rintro e _ ⟨rfl, rfl⟩
      go_wp2_with fail
      obtain ⟨wo, hwo⟩ : ∃ wo : World, wo = wr := ⟨_, rfl⟩
      rw [← hwo] at HD ⊢
      clear hwo
      go_loopw [34] (fun i wr => ∃ k : Nat, (k : Int) ≤ more + 1 ∧ i = .int .i64 k ∧ DS w wr hb vc 64) (fun i _ => (more + 1).toNat - (intOf i).toNat)
      case atStart => exact ⟨0, by omega, rfl, HD.out⟩
      case round =>
        clear HD
        obtain ⟨k, hk, rfl, hD⟩ := hrel
        by_cases hlt : (k : Int) < more + 1
        · obtain ⟨x, hx, hC⟩ := hD.full
          obtain ⟨xk, xn, xt⟩ := x
          have HC := hidden hC
          unfold V.val V.null at HC
          have HD := hidden hD
          obtain ⟨a0, a1, a2, -⟩ := hx.cells
          have haz := blk_lt hx
          simp only at a0 a1 a2
          clear hC hD hx
          go_wp2_with fail
          refine HC.out.mono ?_
          rintro e w5 ⟨rfl, hK⟩
          have HD5 := hidden ((HD.out.calm hK).calm ((Keeps.refl _ w5).alloc (.cells #[.int .i64 0, .int .i64 0, .string ⟨#[]⟩] 26)))
          clear hK a0 a1 a2 haz HC HD
          go_wp2_with fail
          go_roundw
          case rel => exact ⟨k + 1, by omega, by go_num, HD5.out⟩
          case measure => simp [intOf]; omega
        · have HD := hidden hD
          clear hD
          go_wp2_with fail
          refine (HL.out _ HD.out).mono ?_
          rintro e _ ⟨rfl, rfl⟩
          go_wp2_with fail
          exact hR.out _ _ ⟨rfl, HD.out.K.below (Nat.le_refl _) (fun _ h => h)⟩
end Go.Proofs.Ytfdfjogoiagnkaa
