/- Layer 16: layout: New. -/
import Derived.Test.YtfdfjogoiagnkaaZLayC
namespace Go.Proofs.Ytfdfjogoiagnkaa
open Go.RowKit
set_option maxRecDepth 100000

section
variable {w : World} {F : Nat → Prop} {hb : Nat} {H : List (Option (Nat × Cl))} {s : HSt} {i p : Nat} {c : Cl}
/-- A cell with a table and one value is handed over. -/
theorem alloc_kept (h : IsHeap w F hb H s) (ho : HOk H s) (hf : s.live < s.limit) {kind : Int} (hk : 1 ≤ kind ∧ kind < 11) {W W2 : World} {tb : Nat} {Ft : Nat → Prop} {L : List Ent} {sr : Int} {b : V} {a : Addr} (hK : Keeps (fun _ => False) w W) (hT : IsT W2 Ft tb L sr) (hsr : sr < 1073741000) (hap : Apart F Ft) (hK2 : Keeps (fun _ => False) W W2) (hv : Vals W2 (some a) [b]) :
    Calls Try.prog 15 #[.pointer (some ⟨hb, 0, none⟩), .agg #[.int .i64 kind, .slice (some a) 1 1, .pointer none, .pointer (some ⟨tb, 0, none⟩), .slice none 0 0, .string ⟨#[]⟩]] W2 fun e w' => ∃ i p F' H' s', e = .returned (.tuple #[.int .i64 (i : Nat), .int .i64 0]) ∧ Made W2 w' F Ft hb H s ⟨kind, [b], none, some (tb, L, sr), [], ⟨#[]⟩⟩ i p F' H' s' := by
  have h2 := (h.calm hK).calm hK2
  have hg : Given W2 F (fun _ => False) Ft ⟨kind, [b], none, some (tb, L, sr), [], ⟨#[]⟩⟩ (some a) none none (some ⟨tb, 0, none⟩) :=
    ⟨hv, fun e => (Option.some_ne_none _ e).elim, fun i x h => by simp at h, fun _ => rfl, rfl, ⟨rfl, hT⟩, Apart.no _, hap, Apart.none _, fun _ h => h.elim, hT.inw, ⟨by show [b].length ≤ 1048576; simp, Nat.zero_le _, fun b xs e => (by cases e), fun b L s e => (by cases e; exact hsr)⟩⟩
  refine (heap_Alloc_made (cv := 1) (cn := 0) h2 ho hg hk hf).mono ?_
  rintro e w' ⟨i, p, F', H', s', rfl, hM⟩
  exact ⟨i, p, F', H', s', rfl, hM.heap, hM.ok, hM.new, hM.live, hM.limit, hM.freed, hM.runs, hM.lt, hM.keeps, fun k hk => (hM.fresh k hk).imp (fun h => h.imp id (fun h => h.elim (fun h => h.elim) id)) id⟩
set_option maxHeartbeats 2000000 in
theorem lay_New_null (h : IsHeap w F hb H s) (ho : HOk H s) (hf : s.live < s.limit) :
    Calls Try.prog 13 #[.pointer (some ⟨hb, 0, none⟩), V.val V.null] w fun e w' => ∃ (i p tb : Nat) (F' : Nat → Prop) (H' : Hp) (s' : HSt), e = .returned (.tuple #[V.val ⟨4, (i : Nat), ⟨#[]⟩⟩, .int .i64 0]) ∧ Made w w' F (fun _ => False) hb H s (classCl tb [] 0 V.null) i p F' H' s' := by
  have HH := hidden h
  have HO := hidden ho
  have HF := hidden hf
  have hin := hidden h.inw
  have CR := hidden (fun (W : World) (n : Int) => heap_Ref n W)
  unfold V.val at CR
  clear h ho hf
  refine post_gen fun R hR => ?_
  unfold V.val V.null
  go_enter Try.func13, Try.ntmps13
  go_wp2_with fail
  refine (t_New _).mono ?_
  rintro e w1 ⟨tb, Ft, rfl, hT, hK, hF⟩
  have HM := hidden ((((Keeps.refl (fun _ => False) w).alloc _).alloc _).trans hK (fun _ _ h => h))
  have HV := hidden (show IsVar w1 (w.heap.size + 1) V.null from hK.heap (new2t w _ _) (fun h => h))
  have HT := hidden hT
  have HFT := hidden (show ∀ k, Ft k → w.heap.size + 2 ≤ k from fun k h => (hF k h).elim (fun h => h.elim) (fun h => by simp at h; omega))
  have HAP := hidden (show Apart F Ft from fun k h1 h2 => by have := hin.out k h1; have := HFT.out k h2; omega)
  obtain ⟨b0, b1, b2, -⟩ := (show IsVar w1 w.heap.size V.null from hK.heap (blk_alloc (blk_new w _) _) (fun h => h)).cells
  have hbz := blk_lt HV.out
  simp only [V.null] at b0 b1 b2
  clear hT hK hF
  have CA := hidden (fun (W2 : World) (hK2 : Keeps (fun _ => False) w1 W2) (a : Addr) (hv : Vals W2 (some a) [(⟨0, 0, ⟨#[]⟩⟩ : V)]) => alloc_kept HH.out HO.out HF.out (kind := 3) (by decide) HM.out (HT.out.none hK2) (by decide) HAP.out hK2 hv)
  clear HH HO HF
  go_wp2_with fail
  refine (CA.out _ ((Keeps.refl _ w1).alloc _) _ (Vals.lit w1 [(⟨0, 0, ⟨#[]⟩⟩ : V)] _ rfl)).mono ?_
  rintro e w8 ⟨i8, p8, F8, H8, s8, rfl, hM⟩
  have HV8 := hidden (show IsVar w8 (w.heap.size + 1) V.null from hM.keeps.heap (blk_alloc HV.out _) (fun h => by have := hin.out _ h; omega))
  have hnf := hidden (show ¬ F8 (w.heap.size + 1) from fun h => by
    have hz := blk_lt HV.out
    rcases hM.fresh _ h with (h | h) | h
    · have := hin.out _ h; omega
    · have := HFT.out _ h; omega
    · simp at h; omega)
  have HM8 := hidden (hM.ahead (w0 := w) (F1 := fun _ => False) (HM.out.alloc _) (fun k h => .inr (by have := HFT.out k h; omega)))
  clear hM CA HV HM HT HAP
  go_wp2_with fail
  refine (CR.out _ _).mono ?_
  rintro e w9 ⟨rfl, hK⟩
  have HV9 := hidden (HV8.out.keeps hK (fun h => h))
  have HM9 := hidden (HM8.out.behind hK (fun k h => h.elim))
  clear hK HV8 HM8
  obtain ⟨v0, v1, v2, v3, v4, v5⟩ := HV9.out.cells
  have hvz := blk_lt HV9.out
  simp only [V.null] at v0 v1 v2
  go_wp2_with fail
  obtain ⟨d0, d1, d2, _⟩ := (HV9.out.set ⟨4, i8, ⟨#[]⟩⟩).cells
  simp only at d0 d1 d2
  exact bodyPost_ret (v := .tuple #[V.val ⟨4, i8, ⟨#[]⟩⟩, .int .i64 0]) (by simp [results, Try.results13, go_sem, d0, d1, d2, V.val]) rfl (hR.out _ _ ⟨i8, p8, _, F8, H8, s8, rfl, HM9.out.behind ((Keeps.refl (fun k => k = w.heap.size + 1) w9).var (r := w.heap.size + 1) (fun _ => rfl) _ _ _) (fun k h => by rw [h]; exact ⟨hnf.out, by omega⟩)⟩)
set_option maxHeartbeats 4000000 in
theorem lay_New_ok (h : IsHeap w F hb H s) (ho : HOk H s) (hf : s.live < s.limit) (hi : H[i]? = some (some (p, c))) (hk : c.kind = 3) {tb0 : Nat} {L : List Ent} {sr : Int} (hc : c.tab = some (tb0, L, sr)) (hs : sr < 1073740000) {l : List V} (hch : Chain H (rV (i : Nat)) l) (hl : l.length < 64) :
    Calls Try.prog 13 #[.pointer (some ⟨hb, 0, none⟩), V.val ⟨4, i, ⟨#[]⟩⟩] w fun e w' => ∃ (i' p' tb : Nat) (F' : Nat → Prop) (H' : Hp) (s' : HSt), e = .returned (.tuple #[V.val ⟨4, (i' : Nat), ⟨#[]⟩⟩, .int .i64 0]) ∧ Made w w' F (fun _ => False) hb H s (classCl tb (cloneE L).1 (cloneE L).2 (rV (i : Nat))) i' p' F' H' s' := by
  have HH := hidden h
  have HO := hidden ho
  have hin := hidden h.inw
  have CR := hidden (fun (W : World) (n : Int) => heap_Ref n W)
  unfold V.val at CR
  have CO := hidden (fun (W : World) (hk' : Keeps (fun _ => False) w W) => heap_Of_ok (h.calm hk') hi 3 ⟨#[]⟩ (.inr hk))
  unfold V.val at CO
  have HF := hidden hf
  have CB := hidden (fun (W : World) (hk' : Keeps (fun _ => False) w W) => lay_bases (h.calm hk') hch (by omega))
  unfold rV V.val at CB
  have CT := hidden (fun (W : World) (hk' : Keeps (fun _ => False) w W) => show W.cell? ⟨p, 3, none⟩ = some (.pointer (some ⟨tb0, 0, none⟩)) ∧ p < W.heap.size ∧ Calls Try.prog 51 #[.pointer (some ⟨tb0, 0, none⟩)] W fun e w' => ∃ b' F', e = .returned (.pointer (some ⟨b', 0, none⟩)) ∧ IsT w' F' b' (cloneE L).1 (cloneE L).2 ∧ Keeps (fun _ => False) W w' ∧ Fresh (fun _ => False) F' W from by
    obtain ⟨Ft, h1, h2, h3, h4, h5, h6, h7⟩ := held_tab2 (h.calm hk') hi hc
    exact ⟨h2, h3, t_Clone W Ft tb0 L sr h1 (by omega)⟩)
  have hcs : (cloneE L).2 < 1073741000 := by
    obtain ⟨Ft, h1, -⟩ := held_tab2 h hi hc
    have h2 := (cloneE_len L).2
    have h3 := h1.lok.most
    omega
  clear h ho hf hi hk hc hch
  generalize l.length = nl at *
  have hnl : (nl : Int) < 64 := by omega
  refine post_gen fun R hR => ?_
  unfold V.val
  go_enter Try.func13, Try.ntmps13
  go_wp2_with fail
  refine (t_New _).mono ?_
  rintro e w1 ⟨tb1, Ft1, rfl, -, hK, -⟩
  have HM1 := hidden ((((Keeps.refl (fun _ => False) w).alloc _).alloc _).trans hK (fun _ _ h => h))
  have HV1 := hidden (show IsVar w1 (w.heap.size + 1) V.null from hK.heap (new2t w _ _) (fun h => h))
  have HB1 := hidden (show IsVar w1 w.heap.size ⟨4, i, ⟨#[]⟩⟩ from hK.heap (blk_alloc (blk_new w _) _) (fun h => h))
  clear hK
  obtain ⟨b0, b1, b2, -⟩ := HB1.out.cells
  have hbz := blk_lt HB1.out
  simp only at b0 b1 b2
  go_wp2_with fail
  refine (CO.out _ HM1.out).mono ?_
  rintro e w2 ⟨rfl, hK⟩
  have HM2 := hidden (HM1.out.trans hK (fun _ _ h => h))
  have HV2 := hidden (HV1.out.keeps hK (fun h => h))
  have HB2 := hidden (HB1.out.keeps hK (fun h => h))
  clear hK b0 b1 b2 hbz HM1 HV1 HB1 CO
  obtain ⟨b0, b1, b2, -⟩ := HB2.out.cells
  have hbz := blk_lt HB2.out
  simp only at b0 b1 b2
  go_wp2_with fail
  refine (CB.out _ HM2.out).mono ?_
  rintro e w3 ⟨rfl, hK⟩
  have HM3 := hidden (HM2.out.trans hK (fun _ _ h => h))
  have HV3 := hidden (HV2.out.keeps hK (fun h => h))
  have HB3 := hidden (HB2.out.keeps hK (fun h => h))
  clear hK b0 b1 b2 hbz HM2 HV2 HB2 CB
  obtain ⟨y3, hpz, CTT⟩ := CT.out _ HM3.out
  have CTT := hidden CTT
  go_wp2_with fail
  refine CTT.out.mono ?_
  rintro e w4 ⟨tb, Ft, rfl, hT, hK, hF⟩
  have HM := hidden (HM3.out.trans hK (fun _ _ h => h))
  have HV := hidden (HV3.out.keeps hK (fun h => h))
  have HB := hidden (HB3.out.keeps hK (fun h => h))
  have HT := hidden hT
  have HFT := hidden (show ∀ k, Ft k → w.heap.size + 2 ≤ k from fun k h => (hF k h).elim (fun h => h.elim) (fun h => by have := blk_lt HV3.out; omega))
  have HAP := hidden (show Apart F Ft from fun k h1 h2 => by have := hin.out k h1; have := HFT.out k h2; omega)
  clear hT hK hF HM3 HV3 HB3 CTT CT y3 hpz
  obtain ⟨b0, b1, b2, -⟩ := HB.out.cells
  have hbz := blk_lt HV.out
  have hbz2 := blk_lt HB.out
  simp only at b0 b1 b2
  have CA := hidden (fun (W2 : World) (hK2 : Keeps (fun _ => False) w4 W2) (a : Addr) (hv : Vals W2 (some a) [(⟨4, i, ⟨#[]⟩⟩ : V)]) => alloc_kept HH.out HO.out HF.out (kind := 3) (by decide) HM.out (HT.out.none hK2) hcs HAP.out hK2 hv)
  clear HH HO HF
  go_wp2_with fail
  refine (CA.out _ ((Keeps.refl _ w4).alloc _) _ (Vals.lit w4 [(⟨4, i, ⟨#[]⟩⟩ : V)] _ rfl)).mono ?_
  rintro e w8 ⟨i8, p8, F8, H8, s8, rfl, hM⟩
  have HV8 := hidden (show IsVar w8 (w.heap.size + 1) V.null from hM.keeps.heap (blk_alloc HV.out _) (fun h => by have := hin.out _ h; omega))
  have hnf := hidden (show ¬ F8 (w.heap.size + 1) from fun h => by
    have hz := blk_lt HV.out
    rcases hM.fresh _ h with (h | h) | h
    · have := hin.out _ h; omega
    · have := HFT.out _ h; omega
    · simp at h; omega)
  have HM8 := hidden (hM.ahead (w0 := w) (F1 := fun _ => False) (HM.out.alloc _) (fun k h => .inr (by have := HFT.out k h; omega)))
  clear hM CA HV HM HT HAP
  go_wp2_with fail
  refine (CR.out _ _).mono ?_
  rintro e w9 ⟨rfl, hK⟩
  have HV9 := hidden (HV8.out.keeps hK (fun h => h))
  have HM9 := hidden (HM8.out.behind hK (fun k h => h.elim))
  clear hK HV8 HM8
  obtain ⟨v0, v1, v2, v3, v4, v5⟩ := HV9.out.cells
  have hvz := blk_lt HV9.out
  simp only [V.null] at v0 v1 v2
  go_wp2_with fail
  obtain ⟨d0, d1, d2, _⟩ := (HV9.out.set ⟨4, i8, ⟨#[]⟩⟩).cells
  simp only at d0 d1 d2
  exact bodyPost_ret (v := .tuple #[V.val ⟨4, i8, ⟨#[]⟩⟩, .int .i64 0]) (by simp [results, Try.results13, go_sem, d0, d1, d2, V.val]) rfl (hR.out _ _ ⟨i8, p8, _, F8, H8, s8, rfl, HM9.out.behind ((Keeps.refl (fun k => k = w.heap.size + 1) w9).var (r := w.heap.size + 1) (fun _ => rfl) _ _ _) (fun k h => by rw [h]; exact ⟨hnf.out, by omega⟩)⟩)
set_option maxHeartbeats 4000000 in
theorem lay_New_deep (h : IsHeap w F hb H s) (ho : HOk H s)  (hi : H[i]? = some (some (p, c))) (hk : c.kind = 3) {tb0 : Nat} {L : List Ent} {sr : Int} (hc : c.tab = some (tb0, L, sr)) (hs : sr < 1073740000) {l : List V} (hch : Chain H (rV (i : Nat)) l) (hl : 64 ≤ l.length) (hl2 : l.length ≤ 1048576) :
    Calls Try.prog 13 #[.pointer (some ⟨hb, 0, none⟩), V.val ⟨4, i, ⟨#[]⟩⟩] w fun e w' => e = .returned (.tuple #[V.val V.null, .int .i64 6]) ∧ Keeps (fun _ => False) w w' := by
  have HH := hidden h
  have HO := hidden ho
  have hin := hidden h.inw
  have CR := hidden (fun (W : World) (n : Int) => heap_Ref n W)
  unfold V.val at CR
  have CO := hidden (fun (W : World) (hk' : Keeps (fun _ => False) w W) => heap_Of_ok (h.calm hk') hi 3 ⟨#[]⟩ (.inr hk))
  unfold V.val at CO
  have CB := hidden (fun (W : World) (hk' : Keeps (fun _ => False) w W) => lay_bases (h.calm hk') hch (by omega))
  unfold rV V.val at CB
  have CN := hidden (fun (W : World) => value_Null W)
  unfold V.val V.null at CN
  clear h ho hi hk hc hch
  generalize l.length = nl at *
  have hnl : (64 : Int) ≤ nl := by omega
  refine post_gen fun R hR => ?_
  unfold V.val
  go_enter Try.func13, Try.ntmps13
  go_wp2_with fail
  refine (t_New _).mono ?_
  rintro e w1 ⟨tb1, Ft1, rfl, -, hK, -⟩
  have HM1 := hidden ((((Keeps.refl (fun _ => False) w).alloc _).alloc _).trans hK (fun _ _ h => h))
  have HV1 := hidden (show IsVar w1 (w.heap.size + 1) V.null from hK.heap (new2t w _ _) (fun h => h))
  have HB1 := hidden (show IsVar w1 w.heap.size ⟨4, i, ⟨#[]⟩⟩ from hK.heap (blk_alloc (blk_new w _) _) (fun h => h))
  clear hK
  obtain ⟨b0, b1, b2, -⟩ := HB1.out.cells
  have hbz := blk_lt HB1.out
  simp only at b0 b1 b2
  go_wp2_with fail
  refine (CO.out _ HM1.out).mono ?_
  rintro e w2 ⟨rfl, hK⟩
  have HM2 := hidden (HM1.out.trans hK (fun _ _ h => h))
  have HV2 := hidden (HV1.out.keeps hK (fun h => h))
  have HB2 := hidden (HB1.out.keeps hK (fun h => h))
  clear hK b0 b1 b2 hbz HM1 HV1 HB1 CO
  obtain ⟨b0, b1, b2, -⟩ := HB2.out.cells
  have hbz := blk_lt HB2.out
  simp only at b0 b1 b2
  go_wp2_with fail
  refine (CB.out _ HM2.out).mono ?_
  rintro e w3 ⟨rfl, hK⟩
  have HM3 := hidden (HM2.out.trans hK (fun _ _ h => h))
  have HV3 := hidden (HV2.out.keeps hK (fun h => h))
  clear hK b0 b1 b2 hbz HM2 HV2 HB2 CB
  go_wp2_with fail
  refine (CN.out _).mono ?_
  rintro e w4 ⟨rfl, hK⟩
  have HM4 := hidden (HM3.out.trans hK (fun _ _ h => h))
  have HV4 := hidden (HV3.out.keeps hK (fun h => h))
  clear hK HM3 HV3
  obtain ⟨v0, v1, v2, v3, v4, v5⟩ := HV4.out.cells
  have hvz := blk_lt HV4.out
  simp only [V.null] at v0 v1 v2
  go_wp2_with fail
  obtain ⟨d0, d1, d2, _⟩ := (HV4.out.set V.null).cells
  simp only [V.null] at d0 d1 d2
  exact bodyPost_ret (v := .tuple #[V.val V.null, .int .i64 6]) (by simp [results, Try.results13, go_sem, d0, d1, d2, V.val, V.null]) rfl (hR.out _ _ ⟨rfl, HM4.out.var (r := w.heap.size + 1) (fun h => by omega) _ _ _⟩)
end
end Go.Proofs.Ytfdfjogoiagnkaa
