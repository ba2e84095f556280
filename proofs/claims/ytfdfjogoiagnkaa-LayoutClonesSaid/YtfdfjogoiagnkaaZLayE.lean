/- Layer 16: layout: Make, Is. -/
import Derived.Test.YtfdfjogoiagnkaaZLayD
import Derived.Test.YtfdfjogoiagnkaaZSameV
namespace Go.Proofs.Ytfdfjogoiagnkaa
open Go.RowKit
set_option maxRecDepth 100000

/-- The fields of an instance: what isn't called. -/
def fieldsE (H : Hp) (L : List Ent) : List Ent × Int := L.foldl (fun q x => if methB H x.val = true then q else putE q.1 q.2 x.key x.val) ([], 0)
theorem fieldsE_snoc (H : Hp) (L : List Ent) (x : Ent) : fieldsE H (L ++ [x]) = if methB H x.val = true then fieldsE H L else putE (fieldsE H L).1 (fieldsE H L).2 x.key x.val := by simp [fieldsE]
theorem fieldsE_len (H : Hp) (L : List Ent) : (fieldsE H L).1.length ≤ L.length ∧ (fieldsE H L).2 ≤ L.length := by
  suffices h : ∀ n (L : List Ent), L.length = n → (fieldsE H L).1.length ≤ L.length ∧ (fieldsE H L).2 ≤ L.length from h _ L rfl
  intro n
  induction n with
  | zero => intro L h; obtain rfl := List.eq_nil_of_length_eq_zero h; exact ⟨Nat.le_refl _, Int.le_refl _⟩
  | succ n ih =>
    intro L h
    rcases List.eq_nil_or_concat L with rfl | ⟨zs, x, rfl⟩
    · simp at h
    · rw [List.concat_eq_append] at h ⊢
      have hz := ih zs (by simp at h; omega)
      rw [fieldsE_snoc, List.length_append, List.length_singleton]
      split
      · omega
      · have := putE_len (fieldsE H zs).1 (fieldsE H zs).2 x.key x.val
        omega
theorem fieldsE_succ (H : Hp) {L : List Ent} {k : Nat} (hk : k < L.length) : fieldsE H (L.take (k + 1)) = if methB H L[k].val = true then fieldsE H (L.take k) else putE (fieldsE H (L.take k)).1 (fieldsE H (L.take k)).2 L[k].key L[k].val := by
  rw [List.take_add_one, List.getElem?_eq_getElem hk]
  exact fieldsE_snoc H _ _
section
variable {w : World} {F : Nat → Prop} {hb : Nat} {H : List (Option (Nat × Cl))} {s : HSt} {i p : Nat} {c : Cl}
set_option maxHeartbeats 8000000 in
theorem lay_Make (h : IsHeap w F hb H s) (ho : HOk H s) (hf : s.live < s.limit) (hi : H[i]? = some (some (p, c))) (hk : c.kind = 3) {tb0 : Nat} {L : List Ent} {sr : Int} (hc : c.tab = some (tb0, L, sr)) (hs : sr < 1073740000) :
    Calls Try.prog 23 #[.pointer (some ⟨hb, 0, none⟩), V.val ⟨4, i, ⟨#[]⟩⟩] w fun e w' => ∃ (i' p' tb : Nat) (F' : Nat → Prop) (H' : Hp) (s' : HSt), e = .returned (.tuple #[V.val ⟨4, (i' : Nat), ⟨#[]⟩⟩, .int .i64 0]) ∧ Made w w' F (fun _ => False) hb H s (instCl tb (fieldsE H L).1 (fieldsE H L).2 (rV (i : Nat))) i' p' F' H' s' := by
  have HH := hidden h
  have HO := hidden ho
  have HF := hidden hf
  have hin := hidden h.inw
  have CR := hidden (fun (W : World) (n : Int) => heap_Ref n W)
  unfold V.val at CR
  have CO := hidden (fun (W : World) (hk' : Keeps (fun _ => False) w W) => heap_Of_ok (h.calm hk') hi 3 ⟨#[]⟩ (.inr hk))
  unfold V.val at CO
  have CM := hidden (fun (W : World) (hk' : Keeps (fun _ => False) w W) (v : V) => lay_Method (h.calm hk') v)
  unfold V.val at CM
  have CT := hidden (fun (W : World) (hk' : Keeps (fun _ => False) w W) => show W.cell? ⟨p, 3, none⟩ = some (.pointer (some ⟨tb0, 0, none⟩)) ∧ p < W.heap.size ∧ ∀ cu : Int, Calls Try.prog 55 #[.pointer (some ⟨tb0, 0, none⟩), .int .i64 cu] W fun e w' => e = .returned (nextAns L cu) ∧ Keeps (fun _ => False) W w' from by
    obtain ⟨Ft, h1, h2, h3, h4, h5, h6, h7⟩ := held_tab2 (h.calm hk') hi hc
    exact ⟨h2, h3, fun cu => t_Next h1 (by omega) cu⟩)
  have HLK := hidden (show Lok L sr from by
    obtain ⟨Ft, h1, -⟩ := held_tab2 h hi hc
    exact h1.lok)
  have hmost := HLK.out.most
  clear h ho hf hi hk hc
  refine post_gen fun R hR => ?_
  unfold V.val
  go_enter Try.func23, Try.ntmps23
  go_wp2_with fail
  refine (CO.out _ (by repeat (first | exact Keeps.refl _ _ | refine Keeps.alloc ?_ _))).mono ?_
  rintro e w1 ⟨rfl, hK⟩
  have HM1 := hidden ((((Keeps.refl (fun _ => False) w).alloc _).alloc _).trans hK (fun _ _ h => h))
  have HV1 := hidden (show IsVar w1 (w.heap.size + 1) V.null from hK.heap (new2t w _ _) (fun h => h))
  have HB1 := hidden (show IsVar w1 w.heap.size ⟨4, i, ⟨#[]⟩⟩ from hK.heap (blk_alloc (blk_new w _) _) (fun h => h))
  clear hK CO
  go_wp2_with fail
  refine (t_New _).mono ?_
  rintro e w2 ⟨fb, Fq, rfl, hT, hK, hF⟩
  have HM2 := hidden (HM1.out.trans hK (fun _ _ h => h))
  have HV2 := hidden (HV1.out.keeps hK (fun h => h))
  have HB2 := hidden (HB1.out.keeps hK (fun h => h))
  have HT2 := hidden hT
  have HFT := hidden (show ∀ k, Fq k → w.heap.size + 2 ≤ k from fun k h => (hF k h).elim (fun h => h.elim) (fun h => by have := blk_lt HV1.out; omega))
  clear hT hK hF HM1 HV1 HB1
  go_wp2_with fail
  go_loopw [9] (fun cu wr => ∃ (k : Nat) (Fq : Nat → Prop), k ≤ L.length ∧ cu = .int .i64 (curT L k) ∧ IsT wr Fq fb (fieldsE H (L.take k)).1 (fieldsE H (L.take k)).2 ∧ Keeps (fun _ => False) w wr ∧ IsVar wr w.heap.size ⟨4, i, ⟨#[]⟩⟩ ∧ IsVar wr (w.heap.size + 1) V.null ∧ ∀ k, Fq k → w.heap.size + 2 ≤ k) (fun cu _ => (sr - intOf cu).toNat)
  case atStart => exact ⟨0, Fq, Nat.zero_le _, rfl, HT2.out, HM2.out, HB2.out, HV2.out, HFT.out⟩
  case round =>
    clear HT2 HM2 HB2 HV2 HFT
    obtain ⟨k, Fq, hkl, rfl, hT, hK, hB, hV, hFT⟩ := hrel
    have HT := hidden hT
    have HM := hidden hK
    have HB := hidden hB
    have HV := hidden hV
    have HFT := hidden hFT
    clear hT hK hB hV hFT
    obtain ⟨y3, hpz, CN⟩ := CT.out _ HM.out
    have hlen := fieldsE_len H (L.take k)
    have htk : (L.take k).length ≤ k := List.length_take_le _ _
    by_cases hlt : k < L.length
    · have CN := hidden (CN (curT L k))
      rw [nextAns, next_at HLK.out hlt] at CN
      unfold V.val at CN
      have hcu := (curT_le HLK.out (Nat.le_of_lt hlt) hlt).2 (Nat.le_refl _)
      have HCS := hidden (curT_succ hlt)
      have hsers := HLK.out.sers L[k] (List.getElem_mem hlt)
      have hkz := HLK.out.keys L[k] (List.getElem_mem hlt)
      have hkn := HLK.out.nnul L[k] (List.getElem_mem hlt)
      have HFS := hidden (fieldsE_succ H hlt)
      generalize curT L k = cu at *
      generalize L[k] = x at *
      obtain ⟨⟨kk, kn, kt⟩, ⟨vk, vn, vt⟩, xs, xg⟩ := x
      simp only at CN hcu hsers hkz hkn
      have CP := hidden (fun (W : World) (hk' : Keeps (fun _ => False) wr W) => t_Put (HT.out.none hk') (by omega) (key := ⟨kk, kn, kt⟩) ⟨vk, vn, vt⟩ hkn hkz (by omega))
      unfold V.val at CP
      simp only at HCS HFS
      go_wp2_with fail
      refine CN.out.mono ?_
      rintro e w3 ⟨rfl, hK⟩
      have K3 := hidden hK
      clear hK CN y3
      go_wp2_with fail
      refine (CM.out _ ((HM.out.trans K3.out (fun _ _ h => h)).alloc _ |>.alloc _) ⟨vk, vn, vt⟩).mono ?_
      rintro e w4 ⟨rfl, hK⟩
      have K4 := hidden ((((K3.out.alloc _).alloc _)).trans hK (fun _ _ h => h))
      have V1 := hidden (show IsVar w4 w3.heap.size ⟨kk, kn, kt⟩ from hK.heap (blk_alloc (blk_new w3 _) _) (fun h => h))
      have V2 := hidden (show IsVar w4 (w3.heap.size + 1) ⟨vk, vn, vt⟩ from hK.heap (new2t w3 _ _) (fun h => h))
      clear hK K3
      cases hm : methB H ⟨vk, vn, vt⟩ with
      | true =>
        rw [hm] at HFS
        clear hm
        go_wp2_with fail
        go_roundw
        case rel => exact ⟨k + 1, Fq, hlt, by rw [HCS.out], by rw [HFS.out, if_pos (by first | trivial | rfl)]; exact HT.out.none K4.out, HM.out.trans K4.out (fun _ _ h => h), HB.out.keeps K4.out (fun h => h), HV.out.keeps K4.out (fun h => h), HFT.out⟩
        case measure => simp [intOf]; omega
      | false =>
        rw [hm] at HFS
        clear hm
        obtain ⟨a0, a1, a2, -⟩ := V1.out.cells
        obtain ⟨c0, c1, c2, -⟩ := V2.out.cells
        have haz := blk_lt V1.out
        have hcz := blk_lt V2.out
        simp only at a0 a1 a2 c0 c1 c2
        go_wp2_with fail
        refine (CP.out _ K4.out).mono ?_
        rintro e w5 ⟨Fq2, rfl, hT2, hK, hF⟩
        have HT2 := hidden hT2
        have KP := hidden hK
        have HFT2 := hidden (show ∀ k, Fq2 k → w.heap.size + 2 ≤ k from fun k h => (hF k h).elim (HFT.out k) (fun h => by have := blk_lt HV.out; have := K4.out.size; omega))
        clear hT2 hK hF
        go_wp2_with fail
        go_roundw
        case rel => exact ⟨k + 1, Fq2, hlt, by rw [HCS.out], by rw [HFS.out, if_neg (by decide)]; exact HT2.out, (HM.out.trans K4.out (fun _ _ h => h)).trans KP.out (fun j hj h => by have := HFT.out j h; omega), (HB.out.keeps K4.out (fun h => h)).keeps KP.out (fun h => by have := HFT.out _ h; omega), (HV.out.keeps K4.out (fun h => h)).keeps KP.out (fun h => by have := HFT.out _ h; omega), HFT2.out⟩
        case measure => simp [intOf]; omega
    · obtain rfl : k = L.length := by omega
      have CN := hidden (CN (curT L L.length))
      rw [nextAns, next_end HLK.out] at CN
      unfold V.val V.null at CN
      rw [List.take_length] at HT hlen
      generalize curT L L.length = cu at *
      go_wp2_with fail
      refine CN.out.mono ?_
      rintro e w3 ⟨rfl, hK⟩
      have HMa := hidden (HM.out.trans hK (fun _ _ h => h))
      have HVa := hidden (HV.out.keeps hK (fun h => h))
      have HBa := hidden (HB.out.keeps hK (fun h => h))
      have HTa := hidden (HT.out.none hK)
      clear hK HM HV HB HT CN y3 hpz
      have HAP := hidden (show Apart F Fq from fun k h1 h2 => by have := hin.out k h1; have := HFT.out k h2; omega)
      have CA := hidden (fun (W2 : World) (hK2 : Keeps (fun _ => False) w3 W2) (a : Addr) (hv : Vals W2 (some a) [(⟨4, i, ⟨#[]⟩⟩ : V)]) => alloc_kept HH.out HO.out HF.out (kind := 4) (by decide) HMa.out (HTa.out.none hK2) (by omega) HAP.out hK2 hv)
      clear HH HO HF
      obtain ⟨b0, b1, b2, -⟩ := HBa.out.cells
      have hbz := blk_lt HBa.out
      have hbz2 := blk_lt HVa.out
      simp only at b0 b1 b2
      go_wp2_with fail
      refine (CA.out _ ?k1 _ ?k2).mono ?_
      case k1 => repeat (first | exact Keeps.refl _ _ | refine Keeps.alloc ?_ _)
      case k2 => exact Vals.lit _ [(⟨4, i, ⟨#[]⟩⟩ : V)] _ (by simp)
      rintro e w8 ⟨i8, p8, F8, H8, s8, rfl, hM⟩
      have hms := hM.keeps.size
      have HV8 := hidden (show IsVar w8 (w.heap.size + 1) V.null from hM.keeps.heap (blk_alloc (blk_alloc (blk_alloc HVa.out _) _) _) (fun h => by have := hin.out _ h; omega))
      have hnf := hidden (show ¬ F8 (w.heap.size + 1) from fun h => by
        have hz := blk_lt HVa.out
        rcases hM.fresh _ h with (h | h) | h
        · have := hin.out _ h; omega
        · have := HFT.out _ h; omega
        · simp at h; omega)
      have HM8 := hidden (hM.ahead (w0 := w) (F1 := fun _ => False) (((HMa.out.alloc _).alloc _).alloc _) (fun k h => .inr (by have := HFT.out k h; omega)))
      clear hM CA HVa HMa HTa HAP b0 b1 b2 hbz hbz2
      go_wp2_with fail
      refine (CR.out _ _).mono ?_
      rintro e w9 ⟨rfl, hK⟩
      have HV9 := hidden (HV8.out.keeps hK (fun h => h))
      have HM9 := hidden (HM8.out.behind hK (fun k h => h.elim))
      clear hK HV8 HM8
      obtain ⟨v0, v1, v2, v3, v4, v5⟩ := HV9.out.cells
      have hvz := blk_lt HV9.out
      simp only [V.null] at v0 v1 v2
      go_wp2_with fail
      obtain ⟨d0, d1, d2, _⟩ := (HV9.out.set ⟨4, i8, ⟨#[]⟩⟩).cells
      simp only at d0 d1 d2
      exact bodyPost_ret (v := .tuple #[V.val ⟨4, i8, ⟨#[]⟩⟩, .int .i64 0]) (by simp [results, Try.results23, go_sem, d0, d1, d2, V.val]) rfl (hR.out _ _ ⟨i8, p8, _, F8, H8, s8, rfl, HM9.out.behind ((Keeps.refl (fun k => k = w.heap.size + 1) w9).var (r := w.heap.size + 1) (fun _ => rfl) _ _ _) (fun k h => by rw [h]; exact ⟨hnf.out, by omega⟩)⟩)
end
end Go.Proofs.Ytfdfjogoiagnkaa
