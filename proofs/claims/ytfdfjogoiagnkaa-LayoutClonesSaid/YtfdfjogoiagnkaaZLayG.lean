/- Layer 16: layout: Clone. -/
import Derived.Test.YtfdfjogoiagnkaaZLayF
namespace Go.Proofs.Ytfdfjogoiagnkaa
open Go.RowKit
set_option maxRecDepth 100000

section
variable {w : World} {F : Nat → Prop} {hb : Nat} {H : List (Option (Nat × Cl))} {s : HSt} {i p : Nat} {c : Cl}
set_option maxHeartbeats 4000000 in
theorem lay_Clone_table (h : IsHeap w F hb H s) (ho : HOk H s) (hf : s.live < s.limit) (hi : H[i]? = some (some (p, c))) (hk : c.kind = 2 ∨ c.kind = 4) {tb0 : Nat} {L : List Ent} {sr : Int} (hc : c.tab = some (tb0, L, sr)) (hs : sr < 1073740000) :
    Calls Try.prog 32 #[.pointer (some ⟨hb, 0, none⟩), V.val ⟨4, i, ⟨#[]⟩⟩] w fun e w' => ∃ (i' p' : Nat) (tb : Nat) (F' : Nat → Prop) (H' : Hp) (s' : HSt), e = .returned (.tuple #[V.val ⟨4, (i' : Nat), ⟨#[]⟩⟩, .int .i64 0]) ∧ Made w w' F (fun _ => False) hb H s ⟨c.kind, c.vals, none, some (tb, (cloneE L).1, (cloneE L).2), [], ⟨#[]⟩⟩ i' p' F' H' s' := by
  have HH := hidden h
  have HO := hidden ho
  have HF := hidden hf
  have hin := hidden h.inw
  have hsm := hidden (show c.small from by
    obtain ⟨Fam, vc, vf, hX⟩ := h
    exact (hX.each i p c hi).small)
  have CR := hidden (fun (W : World) (n : Int) => heap_Ref n W)
  unfold V.val at CR
  have CO := hidden (fun (W : World) (hk' : Keeps (fun _ => False) w W) => heap_Of_ok (h.calm hk') hi 0 ⟨#[]⟩ (.inl rfl))
  unfold V.val at CO
  have hcs : (cloneE L).2 < 1073741000 := by
    obtain ⟨Ft, h1, -⟩ := held_tab2 h hi hc
    have h2 := (cloneE_len L).2
    have h3 := h1.lok.most
    omega
  clear h ho hf
  refine post_gen fun R hR => ?_
  unfold V.val
  go_enter Try.func32, Try.ntmps32
  go_wp2_with fail
  refine (CO.out _ (by repeat (first | exact Keeps.refl _ _ | refine Keeps.alloc ?_ _))).mono ?_
  rintro e w1 ⟨rfl, hK⟩
  have HM1 := hidden ((((Keeps.refl (fun _ => False) w).alloc _).alloc _).trans hK (fun _ _ h => h))
  have HV1 := hidden (show IsVar w1 (w.heap.size + 1) V.null from hK.heap (new2t w _ _) (fun h => h))
  clear hK CO
  obtain ⟨Av, cap, lb, HVA, HNV, CC, CT⟩ : ∃ (Av : Option Addr) (cap lb : Nat), Hid (Vals w1 Av c.vals) ∧ Hid (Av = none → c.vals = []) ∧ Hid (∀ W : World, Keeps (fun _ => False) w1 W → W.cell? ⟨p, 0, none⟩ = some (.int .i64 c.kind) ∧ W.cell? ⟨p, 1, none⟩ = some (.slice Av c.vals.length cap) ∧ W.cell? ⟨p, 3, none⟩ = some (.pointer (some ⟨lb, 0, none⟩)) ∧ p < W.heap.size) ∧ Hid (∀ W : World, Keeps (fun _ => False) w1 W → Calls Try.prog 51 #[.pointer (some ⟨lb, 0, none⟩)] W fun e w' => ∃ b' F', e = .returned (.pointer (some ⟨b', 0, none⟩)) ∧ IsT w' F' b' (cloneE L).1 (cloneE L).2 ∧ Keeps (fun _ => False) W w' ∧ Fresh (fun _ => False) F' W) := by
    obtain ⟨Av, cap, lp, tp, An, cn, hblk, hva, -, ht, -, -, hnv, -⟩ := held_cell (HH.out.calm HM1.out) hi
    refine ⟨Av, cap, tb0, hidden hva, hidden hnv, hidden (fun W hk' => ?_), hidden (fun W hk' => ?_)⟩
    · have hb2 := hk'.heap hblk (fun h => h)
      have h3 := blk_cell hb2 3
      rw [ht tb0 L sr hc] at h3
      exact ⟨blk_cell hb2 0, blk_cell hb2 1, h3, blk_lt hb2⟩
    · obtain ⟨Ft, h1, -⟩ := held_tab2 ((HH.out.calm HM1.out).calm hk') hi hc
      exact t_Clone W Ft tb0 L sr h1 (by omega)
  clear hi
  obtain ⟨y0, y1, y2, hpz⟩ := CC.out w1 (Keeps.refl _ _)
  clear y0 y1 y2
  generalize c.kind = kd at *
  have SK := hidden (fun (W : World) (hk' : Keeps (fun _ => False) w1 W) => show W.cell? ⟨p, 0, none⟩ = some (.int .i64 kd) ∧ W.cell? ⟨p, 1, none⟩ = some (.slice Av c.vals.length cap) from ⟨(CC.out W hk').1, (CC.out W hk').2.1⟩)
  go_wp2_with fail
  go_region_held3 (fun W => W.cell? ⟨p, 0, none⟩ = some (.int .i64 kd) ∧ W.cell? ⟨p, 1, none⟩ = some (.slice Av c.vals.length cap)) (((refine SK.out _ ?_); (repeat (first | exact Keeps.refl _ _ | refine Keeps.alloc ?_ _ | refine Keeps.drewN ?_ _ | refine Keeps.drew ?_)))) (fail)
  rcases hk with rfl | rfl
  all_goals
    obtain ⟨y0, y1, y2, -⟩ := CC.out w1 (Keeps.refl _ _)
    go_wp2_with fail
    refine (CT.out _ (((Keeps.refl _ w1).alloc _).drew)).mono ?_
    rintro e w2 ⟨tb, Ft, rfl, hT, hK, hF⟩
    have OB := hK.heap (show ((w1.alloc _).drew).heap[w1.heap.size]? = some _ from blk_new w1 _) (fun h => h)
    have o0 := blk_cell OB 0
    have o1 := blk_cell OB 1
    have o2 := blk_cell OB 2
    have o3 := blk_cell OB 3
    have o4 := blk_cell OB 4
    have o5 := blk_cell OB 5
    have of2 := blk_frozen OB 2
    have of3 := blk_frozen OB 3
    have hoz := blk_lt OB
    simp only [List.getElem?_toArray, List.getElem?_cons_zero, List.getElem?_cons_succ] at o0 o1 o2 o3 o4 o5
    have KO := hidden (((Keeps.refl (fun _ => False) w1).alloc _).drew.trans hK (fun _ _ h => h))
    have HT := hidden hT
    have HFT := hidden (show ∀ k, Ft k → w1.heap.size < k from fun k h => (hF k h).elim (fun h => h.elim) (fun h => by simp at h; omega))
    clear hT hK hF OB y0 y1 y2
    go_wp2_with fail
    have KW := hidden ((HM1.out.trans KO.out (fun _ _ h => h)).setCell (p := ⟨w1.heap.size, 3, none⟩) (fun h => absurd h (Nat.not_lt_of_le HM1.out.size)) (.pointer (some ⟨tb, 0, none⟩)))
    have K13 := hidden (KO.out.setCell (p := ⟨w1.heap.size, 3, none⟩) (fun h => absurd h (Nat.lt_irrefl _)) (.pointer (some ⟨tb, 0, none⟩)))
    have HT3 := hidden (HT.out.keeps (((Keeps.refl (fun k => k = w1.heap.size) w2).setCell (p := ⟨w1.heap.size, 3, none⟩) (fun _ => rfl) (.pointer (some ⟨tb, 0, none⟩)))) (fun k h1 h2 => by have := HFT.out k h1; omega))
    have HV3 := hidden (HV1.out.keeps K13.out (fun h => h))
    have hV1z := hidden (blk_lt HV1.out)
    have hz13 := hidden K13.out.size
    clear o0 o1 o2 o3 o4 o5 of2 of3 hoz HT KO HV1
    generalize w2.setCell ⟨w1.heap.size, 3, none⟩ (.pointer (some ⟨tb, 0, none⟩)) = w3 at *
    have GV := hidden (fun (kq : Int) => show Given w3 F (fun _ => False) Ft ⟨kq, c.vals, none, some (tb, (cloneE L).1, (cloneE L).2), [], ⟨#[]⟩⟩ Av none none (some ⟨tb, 0, none⟩) from ⟨HVA.out.keeps K13.out (fun _ _ _ _ h => h), HNV.out, fun i x h => by simp at h, fun _ => rfl, rfl, ⟨rfl, HT3.out⟩, Apart.no _, fun k h1 h2 => by have := hin.out k h1; have := HFT.out k h2; have := HM1.out.size; omega, Apart.none _, fun _ h => h.elim, HT3.out.inw, ⟨hsm.out.vals, Nat.zero_le _, fun b xs e => (by cases e), fun b L s e => (by cases e; exact hcs)⟩⟩)
    have AL := hidden (fun (kq : Int) (hq : 1 ≤ kq ∧ kq < 11) => heap_Alloc_made (cv := cap) (cn := 0) (HH.out.calm KW.out) HO.out (GV.out kq) hq HF.out)
    refine (AL.out _ (by decide)).mono ?_
    rintro e w8 ⟨i8, p8, F8, H8, s8, rfl, hM⟩
    have HV8 := hidden (HV3.out.keeps hM.keeps (fun h => by have := hin.out _ h; omega))
    have hnf := hidden (show ¬ F8 (w.heap.size + 1) from fun h => by
      have hz := hV1z.out
      rcases hM.fresh _ h with (h | h | h) | h
      · have := hin.out _ h; omega
      · exact h.elim
      · have := HFT.out _ h; omega
      · have := blk_lt HV3.out; omega)
    have HM8 := hidden (hM.ahead (w0 := w) (F1 := fun _ => False) KW.out (fun k h => .inr (by rcases h with h | h; exact h.elim; have := HFT.out k h; have := HM1.out.size; omega)))
    clear hM AL GV HV3 HT3
    go_wp2_with fail
    refine (CR.out _ _).mono ?_
    rintro e w9 ⟨rfl, hK⟩
    have HV9 := hidden (HV8.out.keeps hK (fun h => h))
    have HM9 := hidden (HM8.out.behind hK (fun k h => h.elim))
    clear hK HV8 HM8
    obtain ⟨v0, v1, v2, v3, v4, v5⟩ := HV9.out.cells
    have hvz := blk_lt HV9.out
    simp only [V.null] at v0 v1 v2
    go_wp2_with fail
    obtain ⟨d0, d1, d2, _⟩ := (HV9.out.set ⟨4, i8, ⟨#[]⟩⟩).cells
    simp only at d0 d1 d2
    exact bodyPost_ret (v := .tuple #[V.val ⟨4, i8, ⟨#[]⟩⟩, .int .i64 0]) (by simp [results, Try.results32, go_sem, d0, d1, d2, V.val]) rfl (hR.out _ _ ⟨i8, p8, tb, F8, H8, s8, rfl, HM9.out.behind ((Keeps.refl (fun k => k = w.heap.size + 1) w9).var (r := w.heap.size + 1) (fun _ => rfl) _ _ _) (fun k h => by rw [h]; exact ⟨hnf.out, by omega⟩)⟩)
set_option maxHeartbeats 4000000 in
theorem lay_Clone_list (h : IsHeap w F hb H s) (ho : HOk H s) (hf : s.live < s.limit) (hi : H[i]? = some (some (p, c))) (hk : c.kind = 1) {lb : Nat} {xs : List V} (hc : c.list = some (lb, xs)) :
    Calls Try.prog 32 #[.pointer (some ⟨hb, 0, none⟩), V.val ⟨4, i, ⟨#[]⟩⟩] w fun e w' => ∃ (i' p' : Nat) (lb2 : Nat) (F' : Nat → Prop) (H' : Hp) (s' : HSt), e = .returned (.tuple #[V.val ⟨4, (i' : Nat), ⟨#[]⟩⟩, .int .i64 0]) ∧ Made w w' F (fun _ => False) hb H s ⟨1, c.vals, some (lb2, xs), none, [], ⟨#[]⟩⟩ i' p' F' H' s' := by
  have HH := hidden h
  have HO := hidden ho
  have HF := hidden hf
  have hin := hidden h.inw
  have hsm := hidden (show c.small from by
    obtain ⟨Fam, vc, vf, hX⟩ := h
    exact (hX.each i p c hi).small)
  have CR := hidden (fun (W : World) (n : Int) => heap_Ref n W)
  unfold V.val at CR
  have CO := hidden (fun (W : World) (hk' : Keeps (fun _ => False) w W) => heap_Of_ok (h.calm hk') hi 0 ⟨#[]⟩ (.inl rfl))
  unfold V.val at CO
  have hxl : xs.length ≤ 1048576 := hsm.out.list lb xs hc
  clear h ho hf
  refine post_gen fun R hR => ?_
  unfold V.val
  go_enter Try.func32, Try.ntmps32
  go_wp2_with fail
  refine (CO.out _ (by repeat (first | exact Keeps.refl _ _ | refine Keeps.alloc ?_ _))).mono ?_
  rintro e w1 ⟨rfl, hK⟩
  have HM1 := hidden ((((Keeps.refl (fun _ => False) w).alloc _).alloc _).trans hK (fun _ _ h => h))
  have HV1 := hidden (show IsVar w1 (w.heap.size + 1) V.null from hK.heap (new2t w _ _) (fun h => h))
  clear hK CO
  obtain ⟨Av, cap, lb, HVA, HNV, CC, CT⟩ : ∃ (Av : Option Addr) (cap lb : Nat), Hid (Vals w1 Av c.vals) ∧ Hid (Av = none → c.vals = []) ∧ Hid (∀ W : World, Keeps (fun _ => False) w1 W → W.cell? ⟨p, 0, none⟩ = some (.int .i64 c.kind) ∧ W.cell? ⟨p, 1, none⟩ = some (.slice Av c.vals.length cap) ∧ W.cell? ⟨p, 2, none⟩ = some (.pointer (some ⟨lb, 0, none⟩)) ∧ p < W.heap.size) ∧ Hid (∀ W : World, Keeps (fun _ => False) w1 W → Calls Try.prog 63 #[.pointer (some ⟨lb, 0, none⟩)] W fun e w' => ∃ b' F', e = .returned (.pointer (some ⟨b', 0, none⟩)) ∧ IsList w' F' b' xs ∧ Keeps (fun _ => False) W w' ∧ Fresh (fun _ => False) F' W) := by
    obtain ⟨Av, cap, lp, tp, An, cn, hblk, hva, -, ht, -, -, hnv, -⟩ := held_cell (HH.out.calm HM1.out) hi
    obtain ⟨Fl, hlc, -, hl, -⟩ := held_list (HH.out.calm HM1.out) hi hc
    refine ⟨Av, cap, lb, hidden hva, hidden hnv, hidden (fun W hk' => ?_), hidden (fun W hk' => ?_)⟩
    · have hb2 := hk'.heap hblk (fun h => h)
      exact ⟨blk_cell hb2 0, blk_cell hb2 1, hk'.cell hlc (fun h => h), blk_lt hb2⟩
    · exact list_Clone W Fl lb xs (hl.keeps hk' (Apart.no _)) (by omega)
  clear hi
  obtain ⟨y0, y1, y2, hpz⟩ := CC.out w1 (Keeps.refl _ _)
  clear y0 y1 y2
  generalize c.kind = kd at *
  have SK := hidden (fun (W : World) (hk' : Keeps (fun _ => False) w1 W) => show W.cell? ⟨p, 0, none⟩ = some (.int .i64 kd) ∧ W.cell? ⟨p, 1, none⟩ = some (.slice Av c.vals.length cap) from ⟨(CC.out W hk').1, (CC.out W hk').2.1⟩)
  go_wp2_with fail
  go_region_held3 (fun W => W.cell? ⟨p, 0, none⟩ = some (.int .i64 kd) ∧ W.cell? ⟨p, 1, none⟩ = some (.slice Av c.vals.length cap)) (((refine SK.out _ ?_); (repeat (first | exact Keeps.refl _ _ | refine Keeps.alloc ?_ _ | refine Keeps.drewN ?_ _ | refine Keeps.drew ?_)))) (fail)
  subst hk
  all_goals
    obtain ⟨y0, y1, y2, -⟩ := CC.out w1 (Keeps.refl _ _)
    go_wp2_with fail
    refine (CT.out _ (((Keeps.refl _ w1).alloc _).drew)).mono ?_
    rintro e w2 ⟨tb, Ft, rfl, hT, hK, hF⟩
    have OB := hK.heap (show ((w1.alloc _).drew).heap[w1.heap.size]? = some _ from blk_new w1 _) (fun h => h)
    have o0 := blk_cell OB 0
    have o1 := blk_cell OB 1
    have o2 := blk_cell OB 2
    have o3 := blk_cell OB 3
    have o4 := blk_cell OB 4
    have o5 := blk_cell OB 5
    have of2 := blk_frozen OB 2
    have of3 := blk_frozen OB 3
    have hoz := blk_lt OB
    simp only [List.getElem?_toArray, List.getElem?_cons_zero, List.getElem?_cons_succ] at o0 o1 o2 o3 o4 o5
    have KO := hidden (((Keeps.refl (fun _ => False) w1).alloc _).drew.trans hK (fun _ _ h => h))
    have HT := hidden hT
    have HFT := hidden (show ∀ k, Ft k → w1.heap.size < k from fun k h => (hF k h).elim (fun h => h.elim) (fun h => by simp at h; omega))
    clear hT hK hF OB y0 y1 y2
    go_wp2_with fail
    have KW := hidden ((HM1.out.trans KO.out (fun _ _ h => h)).setCell (p := ⟨w1.heap.size, 2, none⟩) (fun h => absurd h (Nat.not_lt_of_le HM1.out.size)) (.pointer (some ⟨tb, 0, none⟩)))
    have K13 := hidden (KO.out.setCell (p := ⟨w1.heap.size, 2, none⟩) (fun h => absurd h (Nat.lt_irrefl _)) (.pointer (some ⟨tb, 0, none⟩)))
    have HT3 := hidden (HT.out.keeps (((Keeps.refl (fun k => k = w1.heap.size) w2).setCell (p := ⟨w1.heap.size, 2, none⟩) (fun _ => rfl) (.pointer (some ⟨tb, 0, none⟩)))) (fun k h1 h2 => by have := HFT.out k h1; omega))
    have HV3 := hidden (HV1.out.keeps K13.out (fun h => h))
    have hV1z := hidden (blk_lt HV1.out)
    have hz13 := hidden K13.out.size
    clear o0 o1 o2 o3 o4 o5 of2 of3 hoz HT KO HV1
    generalize w2.setCell ⟨w1.heap.size, 2, none⟩ (.pointer (some ⟨tb, 0, none⟩)) = w3 at *
    have GV := hidden (fun (kq : Int) => show Given w3 F Ft (fun _ => False) ⟨kq, c.vals, some (tb, xs), none, [], ⟨#[]⟩⟩ Av none (some ⟨tb, 0, none⟩) none from ⟨HVA.out.keeps K13.out (fun _ _ _ _ h => h), HNV.out, fun i x h => by simp at h, fun _ => rfl, ⟨rfl, HT3.out⟩, rfl, fun k h1 h2 => by have := hin.out k h1; have := HFT.out k h2; have := HM1.out.size; omega, Apart.no _, Apart.no _, HT3.out.inw, fun _ h => h.elim, ⟨hsm.out.vals, Nat.zero_le _, fun b ys e => (by cases e; exact hxl), fun b L s e => (by cases e)⟩⟩)
    have AL := hidden (fun (kq : Int) (hq : 1 ≤ kq ∧ kq < 11) => heap_Alloc_made (cv := cap) (cn := 0) (HH.out.calm KW.out) HO.out (GV.out kq) hq HF.out)
    refine (AL.out _ (by decide)).mono ?_
    rintro e w8 ⟨i8, p8, F8, H8, s8, rfl, hM⟩
    have HV8 := hidden (HV3.out.keeps hM.keeps (fun h => by have := hin.out _ h; omega))
    have hnf := hidden (show ¬ F8 (w.heap.size + 1) from fun h => by
      have hz := hV1z.out
      rcases hM.fresh _ h with (h | h | h) | h
      · have := hin.out _ h; omega
      · have := HFT.out _ h; omega
      · exact h.elim
      · have := blk_lt HV3.out; omega)
    have HM8 := hidden (hM.ahead (w0 := w) (F1 := fun _ => False) KW.out (fun k h => .inr (by rcases h with h | h; have := HFT.out k h; have := HM1.out.size; omega; exact h.elim)))
    clear hM AL GV HV3 HT3
    go_wp2_with fail
    refine (CR.out _ _).mono ?_
    rintro e w9 ⟨rfl, hK⟩
    have HV9 := hidden (HV8.out.keeps hK (fun h => h))
    have HM9 := hidden (HM8.out.behind hK (fun k h => h.elim))
    clear hK HV8 HM8
    obtain ⟨v0, v1, v2, v3, v4, v5⟩ := HV9.out.cells
    have hvz := blk_lt HV9.out
    simp only [V.null] at v0 v1 v2
    go_wp2_with fail
    obtain ⟨d0, d1, d2, _⟩ := (HV9.out.set ⟨4, i8, ⟨#[]⟩⟩).cells
    simp only at d0 d1 d2
    exact bodyPost_ret (v := .tuple #[V.val ⟨4, i8, ⟨#[]⟩⟩, .int .i64 0]) (by simp [results, Try.results32, go_sem, d0, d1, d2, V.val]) rfl (hR.out _ _ ⟨i8, p8, tb, F8, H8, s8, rfl, HM9.out.behind ((Keeps.refl (fun k => k = w.heap.size + 1) w9).var (r := w.heap.size + 1) (fun _ => rfl) _ _ _) (fun k h => by rw [h]; exact ⟨hnf.out, by omega⟩)⟩)
end
end Go.Proofs.Ytfdfjogoiagnkaa
