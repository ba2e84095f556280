/- Layer 16: the head of its statements (dreylaw16.lays) is true. -/
import Derived.Test.YtfdfjogoiagnkaaGrpF
import Derived.Deep.CutBlock
import Derived.Deep.DeepCutAuto
set_option linter.unusedSimpArgs false
set_option linter.unusedVariables false
namespace Go.Proofs.Ytfdfjogoiagnkaa
open Go.RowKit
set_option maxRecDepth 100000
set_option linter.unusedSimpArgs false

def xS : V := ⟨3, 0, ⟨#[120]⟩⟩
def entX : Ent := ⟨xS, ⟨2, 1, ⟨#[]⟩⟩, 1, false⟩
set_option maxHeartbeats 4000000 in
theorem lays16_true (w : World) : Calls Try.prog 10 #[] w fun e w' => e = .returned (.bool true) ∧ Below w.heap.size w w' := by
  refine post_gen fun R hR => ?_
  go_enter Try.func10, Try.ntmps10
  go_wp2_with fail
  refine (heap_New w 100).mono ?_
  rintro e w1 ⟨hb, F0, rfl, hH, hK, hF⟩
  have H1 := hidden (show Hd w hb F0 [] ⟨[], 0, 100, 0, 0⟩ w1 from ⟨hH, HOk.new 100, fun k h => (hF k h).elim (fun h => h.elim) id, hK.mono (fun _ _ h => h.elim)⟩)
  clear hH hK hF
  have CN := hidden (fun (W : World) => value_Null W)
  have CI := hidden (fun (W : World) => value_Int 1 W)
  have CS := hidden (fun (W : World) => value_Str ⟨#[120]⟩ W)
  unfold V.val at CN CI CS
  unfold V.null at CN
  go_wp2_with fail
  refine (CN.out _).mono ?_
  rintro e w2 ⟨rfl, hK⟩
  have H2 := hidden (H1.out.calm hK)
  clear hK H1
  have CA := hidden (lay_New_null H2.out.heap H2.out.ok (by decide))
  unfold V.val V.null at CA
  go_wp2_with fail
  refine CA.out.mono ?_
  rintro e w3 ⟨ia, pa, ta, F1, HA, s1, rfl, hM⟩
  have H3 := hidden (H2.out.made hM (fun k h => h.elim))
  have NA := hidden hM.new.at_
  have S1 := hidden (show s1.live = 1 ∧ s1.limit = 100 from ⟨hM.live, hM.limit⟩)
  have IN3 := hidden hM.heap.inw
  clear hM CA H2
  go_wp2_with fail
  have VA := hidden (show Vr F1 (w3.alloc (.cells #[.int .i64 4, .int .i64 ia, .string ⟨#[]⟩] 26)) w3.heap.size (rV ia) from Vr.new (rV ia) IN3.out)
  have H4 := hidden (H3.out.calm ((Keeps.refl (fun _ => False) w3).alloc (.cells #[.int .i64 4, .int .i64 ia, .string ⟨#[]⟩] 26)))
  clear H3 IN3
  generalize w3.heap.size = va at *
  generalize w3.alloc (.cells #[.int .i64 4, .int .i64 ia, .string ⟨#[]⟩] 26) = w4 at *
  have CM := hidden (fun (W : World) (hk : Keeps (fun _ => False) w4 W) => lay_Member (H4.out.heap.calm hk) NA.out rfl (tb := ta) (L := []) (sr := 0) rfl (by decide) ⟨#[]⟩ xS ⟨2, 1, ⟨#[]⟩⟩ (by decide) (by decide) (by decide))
  unfold V.val xS at CM
  have SK := hidden (fun (W : World) (hk : Keeps (fun _ => False) w4 W) => show W.cell? ⟨va, 0, none⟩ = some (.int .i64 4) ∧ W.cell? ⟨va, 1, none⟩ = some (.int .i64 ia) ∧ W.cell? ⟨va, 2, none⟩ = some (.string ⟨#[]⟩) from (have h := (VA.out.calm hk).cells; ⟨h.1, h.2.1, h.2.2.1⟩))
  go_region_held3 (fun W => W.cell? ⟨va, 0, none⟩ = some (.int .i64 4) ∧ W.cell? ⟨va, 1, none⟩ = some (.int .i64 ia) ∧ W.cell? ⟨va, 2, none⟩ = some (.string ⟨#[]⟩)) (first | exact SE.out | exact SK.out _ K6.out | exact SK.out _ K5.out | exact SK.out _ (Keeps.refl _ _) | exact SK.out _ ((Keeps.refl _ w4).drewN _)) (first | (go_at_call 34; refine (CS.out _).mono ?_; rintro e w5 ⟨rfl, h1⟩; have K5 := hidden (((Keeps.refl (fun _ => False) w4).drewN _).trans h1 (fun _ _ h => h)); clear h1) | (go_at_call 17; refine (CI.out _).mono ?_; rintro e w6 ⟨rfl, h1⟩; have K6 := hidden (K5.out.trans h1 (fun _ _ h => h)); clear h1) | (go_at_call 19; refine (CM.out _ K6.out).mono ?_; rintro e w7 ⟨F2, rfl, h1, h2, h3⟩; have H7 := hidden ((H4.out.calm K6.out).turn NA.out h1 h2 h3); have VA7 := hidden ((VA.out.calm K6.out).step h2 h3); have SE := hidden (show w7.cell? ⟨va, 0, none⟩ = some (.int .i64 4) ∧ w7.cell? ⟨va, 1, none⟩ = some (.int .i64 ia) ∧ w7.cell? ⟨va, 2, none⟩ = some (.string ⟨#[]⟩) from (have h := VA7.out.cells; ⟨h.1, h.2.1, h.2.2.1⟩)); clear h1 h2 h3))
  have NA7 := hidden (show (tabH HA ia pa (classCl ta [] 0 V.null) ta (putE [] 0 xS ⟨2, 1, ⟨#[]⟩⟩))[ia]? = some (some (pa, classCl ta [entX] 1 V.null)) from tabH_at NA.out)
  have H7 := hidden (show Hd w hb F2 (tabH HA ia pa (classCl ta [] 0 V.null) ta (putE [] 0 xS ⟨2, 1, ⟨#[]⟩⟩)) s1 w7 from H7.out)
  clear SE SK CM H4 VA NA K5 K6
  generalize tabH HA ia pa (classCl ta [] 0 V.null) ta (putE [] 0 xS ⟨2, 1, ⟨#[]⟩⟩) = HB at *
  have CB := hidden (lay_New_ok H7.out.heap H7.out.ok (by rw [S1.out.1, S1.out.2]; decide) NA7.out rfl rfl (by decide) (l := [rV ia]) (.cons NA7.out rfl rfl (.nil rfl)) (by simp))
  unfold V.val at CB
  obtain ⟨a0, a1, a2, haz⟩ := VA7.out.cells
  simp only [rV] at a0 a1 a2
  go_wp2_with fail
  refine CB.out.mono ?_
  rintro e w8 ⟨ib, pb, tb, F3, HC, s3, rfl, hM⟩
  have H8 := hidden (H7.out.made hM (fun k h => h.elim))
  have NB8 := hidden (show HC[ib]? = some (some (pb, classCl tb [entX] 1 (rV ia))) from hM.new.at_)
  have NA8 := hidden (hM.new.old NA7.out)
  have S3 := hidden (show s3.live = 2 ∧ s3.limit = 100 from ⟨by rw [hM.live, S1.out.1]; decide, by rw [hM.limit, S1.out.2]⟩)
  have VA8 := hidden (VA7.out.step hM.keeps hM.fr)
  have IN8 := hidden hM.heap.inw
  clear hM CB H7 VA7 a0 a1 a2 haz S1 NA7
  go_wp2_with fail
  have VB9 := hidden (show Vr F3 (w8.alloc (.cells #[.int .i64 4, .int .i64 ib, .string ⟨#[]⟩] 26)) w8.heap.size (rV ib) from Vr.new (rV ib) IN8.out)
  have k9 := (Keeps.refl (fun _ => False) w8).alloc (.cells #[.int .i64 4, .int .i64 ib, .string ⟨#[]⟩] 26)
  have H9 := hidden (H8.out.calm k9)
  have VA9 := hidden (VA8.out.calm k9)
  clear k9 H8 VA8 IN8
  generalize w8.heap.size = vb at *
  generalize w8.alloc (.cells #[.int .i64 4, .int .i64 ib, .string ⟨#[]⟩] 26) = w9 at *
  have CMK := hidden (lay_Make H9.out.heap H9.out.ok (by rw [S3.out.1, S3.out.2]; decide) NB8.out rfl (tb0 := tb) (L := [entX]) (sr := 1) rfl (by decide))
  unfold V.val at CMK
  have hfe : fieldsE HC [entX] = ([entX], 1) := by
    rw [show [entX] = [] ++ [entX] from rfl, fieldsE_snoc, if_neg (by unfold methB; rw [ofR_type (by decide), ofR_type (by decide)]; decide)]
    rfl
  rw [hfe] at CMK
  clear hfe
  obtain ⟨a0, a1, a2, haz⟩ := VB9.out.cells
  simp only [rV] at a0 a1 a2
  refine CMK.out.mono ?_
  rintro e w10 ⟨iv, pv, tf, F4, HD, s4, rfl, hM⟩
  have H10 := hidden (H9.out.made hM (fun k h => h.elim))
  have NV10 := hidden (show HD[iv]? = some (some (pv, instCl tf [entX] 1 (rV ib))) from hM.new.at_)
  have NA10 := hidden (hM.new.old NA8.out)
  have NB10 := hidden (hM.new.old NB8.out)
  have VA10 := hidden (VA9.out.step hM.keeps hM.fr)
  have VB10 := hidden (VB9.out.step hM.keeps hM.fr)
  have IN10 := hidden hM.heap.inw
  clear hM CMK H9 VA9 VB9 a0 a1 a2 haz NA8 NB8 S3
  obtain ⟨a0, a1, a2, haz⟩ := VA10.out.cells
  simp only [rV] at a0 a1 a2
  go_wp2_with fail
  have VV11 := hidden (show Vr F4 (w10.alloc (.cells #[.int .i64 4, .int .i64 iv, .string ⟨#[]⟩] 26)) w10.heap.size (rV iv) from Vr.new (rV iv) IN10.out)
  have k9 := (Keeps.refl (fun _ => False) w10).alloc (.cells #[.int .i64 4, .int .i64 iv, .string ⟨#[]⟩] 26)
  have H11 := hidden (H10.out.calm k9)
  have VA11 := hidden (VA10.out.calm k9)
  have VB11 := hidden (VB10.out.calm k9)
  clear k9 H10 VA10 VB10 IN10 a0 a1 a2 haz
  generalize w10.heap.size = vv at *
  generalize w10.alloc (.cells #[.int .i64 4, .int .i64 iv, .string ⟨#[]⟩] 26) = w11 at *
  have CIS := hidden (lay_Is H11.out.heap NV10.out rfl rfl (l := [rV ib, rV ia]) (.cons NB10.out rfl rfl (.cons NA10.out rfl rfl (.nil rfl))) NA10.out rfl)
  rw [show decide (rV (ia : Nat) ∈ [rV ib, rV ia]) = true from decide_eq_true (by simp)] at CIS
  unfold V.val at CIS
  refine CIS.out.mono ?_
  rintro e w12 ⟨rfl, hK⟩
  have H12 := hidden (H11.out.calm hK)
  have VA12 := hidden (VA11.out.calm hK)
  have VB12 := hidden (VB11.out.calm hK)
  have VV12 := hidden (VV11.out.calm hK)
  clear hK H11 VA11 VB11 VV11 CIS
  have CF := hidden (fun (W : World) (hk : Keeps (fun _ => False) w12 W) => lay_Find (H12.out.heap.calm hk) NB10.out rfl (tb := tb) (L := [entX]) (sr := 1) rfl (by decide) ⟨#[]⟩ xS (by decide))
  rw [show getR [entX] xS = (⟨2, 1, ⟨#[]⟩⟩, 0) by decide +kernel] at CF
  unfold V.val xS at CF
  have SK := hidden (fun (W : World) (hk : Keeps (fun _ => False) w12 W) => show W.cell? ⟨vb, 0, none⟩ = some (.int .i64 4) ∧ W.cell? ⟨vb, 1, none⟩ = some (.int .i64 ib) ∧ W.cell? ⟨vb, 2, none⟩ = some (.string ⟨#[]⟩) from (have h := (VB12.out.calm hk).cells; ⟨h.1, h.2.1, h.2.2.1⟩))
  go_wp2_with fail
  go_cut [11, 12] from 44 to 50 (fun u c wx => ∃ vx : Nat, u = .pointer (some ⟨vx, 0, none⟩) ∧ c = .int .i64 0 ∧ IsVar wx vx ⟨2, 1, ⟨#[]⟩⟩ ∧ Keeps (fun _ => False) w12 wx)
  case first =>
    go_region_held3 (fun W => W.cell? ⟨vb, 0, none⟩ = some (.int .i64 4) ∧ W.cell? ⟨vb, 1, none⟩ = some (.int .i64 ib) ∧ W.cell? ⟨vb, 2, none⟩ = some (.string ⟨#[]⟩)) (((refine SK.out _ ?_); (repeat (first | exact Keeps.refl _ _ | exact K14.out | exact K13.out | refine Keeps.alloc ?_ _ | refine Keeps.drewN ?_ _ | refine Keeps.drew ?_ | exact K14.out.var (r := w12.heap.size) (fun h => absurd h (Nat.lt_irrefl _)) _ _ _ | exact K14.out.var (r := w13.heap.size) (fun h => absurd h (Nat.not_lt_of_le K13.out.size)) _ _ _)))) (first | (go_at_call 34; refine (CS.out _).mono ?_; rintro e w13 ⟨rfl, h1⟩; have K13 := hidden (Keeps.trans (S := fun _ => False) (show Keeps (fun _ => False) w12 _ from (by repeat (first | exact Keeps.refl _ _ | refine Keeps.alloc ?_ _ | refine Keeps.drewN ?_ _ | refine Keeps.drew ?_))) h1 (fun _ _ h => h)); (try have X13 := hidden (show IsVar w13 w12.heap.size V.null from h1.heap (blk_new w12 _) (fun h => h))); clear h1) | (go_at_call 21; refine (CF.out _ (by repeat (first | exact K13.out | refine Keeps.alloc ?_ _))).mono ?_; rintro e w14 ⟨rfl, h1⟩; have K14 := hidden (Keeps.trans (S := fun _ => False) (show Keeps (fun _ => False) w12 _ from (by repeat (first | exact K13.out | refine Keeps.alloc ?_ _))) h1 (fun _ _ h => h)); (try (first | have X14 := hidden (X13.out.keeps h1 (fun h => h)) | have X14 := hidden (show IsVar w14 w13.heap.size V.null from h1.heap (blk_new w13 _) (fun h => h)))); (try (obtain ⟨v0, v1, v2, v3, v4, v5⟩ := X14.out.cells; have hvz := blk_lt X14.out; simp only [V.null] at v0 v1 v2)); clear h1))
    all_goals
      go_wp2_with fail
      go_meet
      first
        | exact ⟨_, rfl, rfl, X14.out.set ⟨2, 1, ⟨#[]⟩⟩, K14.out.var (r := w12.heap.size) (fun h => absurd h (Nat.lt_irrefl _)) _ _ _⟩
        | exact ⟨_, rfl, rfl, X14.out.set ⟨2, 1, ⟨#[]⟩⟩, K14.out.var (r := w13.heap.size) (fun h => absurd h (by have := K13.out.size; omega)) _ _ _⟩
        | exact ⟨_, rfl, rfl, IsVar.new w14 ⟨2, 1, ⟨#[]⟩⟩, K14.out.alloc _⟩
  case rest =>
  obtain ⟨vx, rfl, rfl, hX, hK⟩ := hcut
  have VX := hidden hX
  have K15 := hidden hK
  clear hX hK SK CF
  go_wp2_with fail
  have SK := hidden (fun (W : World) (hk : Keeps (fun _ => False) wc W) => show W.cell? ⟨va, 0, none⟩ = some (.int .i64 4) ∧ W.cell? ⟨va, 1, none⟩ = some (.int .i64 ia) ∧ W.cell? ⟨va, 2, none⟩ = some (.string ⟨#[]⟩) ∧ W.cell? ⟨vb, 0, none⟩ = some (.int .i64 4) ∧ W.cell? ⟨vb, 1, none⟩ = some (.int .i64 ib) ∧ W.cell? ⟨vb, 2, none⟩ = some (.string ⟨#[]⟩) ∧ W.cell? ⟨vv, 0, none⟩ = some (.int .i64 4) ∧ W.cell? ⟨vv, 1, none⟩ = some (.int .i64 iv) ∧ W.cell? ⟨vv, 2, none⟩ = some (.string ⟨#[]⟩) ∧ W.cell? ⟨vx, 1, none⟩ = some (.int .i64 1) from (have kk := K15.out.trans hk (fun _ _ h => h); have h1 := (VA12.out.calm kk).cells; have h2 := (VB12.out.calm kk).cells; have h3 := (VV12.out.calm kk).cells; ⟨h1.1, h1.2.1, h1.2.2.1, h2.1, h2.2.1, h2.2.2.1, h3.1, h3.2.1, h3.2.2.1, (VX.out.keeps hk (fun h => h)).cells.2.1⟩))
  have C1 := hidden (fun (W : World) (hk : Keeps (fun _ => False) wc W) => lay_Base_ok (H12.out.heap.calm (K15.out.trans hk (fun _ _ h => h))) NB10.out rfl rfl ⟨#[]⟩)
  have C2 := hidden (fun (W : World) (hk : Keeps (fun _ => False) wc W) => lay_Of_ok (H12.out.heap.calm (K15.out.trans hk (fun _ _ h => h))) NV10.out rfl rfl ⟨#[]⟩)
  have C3 := hidden (fun (W : World) (hk : Keeps (fun _ => False) wc W) => lay_Of_no (H12.out.heap.calm (K15.out.trans hk (fun _ _ h => h))) ⟨4, ia, ⟨#[]⟩⟩ (by rw [ofR_kind NA10.out ⟨#[]⟩ (by decide) (show (3 : Int) ≠ 4 by decide)]; decide))
  have C4 := hidden (fun (W : World) (hk : Keeps (fun _ => False) wc W) => lay_Method (H12.out.heap.calm (K15.out.trans hk (fun _ _ h => h))) ⟨4, ia, ⟨#[]⟩⟩)
  rw [show methB HD ⟨4, ia, ⟨#[]⟩⟩ = false from by unfold methB; rw [ofR_kind NA10.out ⟨#[]⟩ (by decide) (show (3 : Int) ≠ 5 by decide), ofR_kind NA10.out ⟨#[]⟩ (by decide) (show (3 : Int) ≠ 6 by decide)]; decide] at C4
  unfold V.val at C1 C2 C3 C4
  unfold rV at C1 C2
  unfold V.null at C3
  have FIN := hidden (fun (W : World) (hk : Keeps (fun _ => False) wc W) => hR.out _ W ⟨rfl, ((H12.out.calm K15.out).calm hk).K.below (Nat.le_refl _) (fun _ h => h)⟩)
  clear hR VA12 VB12 VV12 VX H12 NA10 NB10 NV10 K15 CI CS
  go_region_held3 (fun W => W.cell? ⟨va, 0, none⟩ = some (.int .i64 4) ∧ W.cell? ⟨va, 1, none⟩ = some (.int .i64 ia) ∧ W.cell? ⟨va, 2, none⟩ = some (.string ⟨#[]⟩) ∧ W.cell? ⟨vb, 0, none⟩ = some (.int .i64 4) ∧ W.cell? ⟨vb, 1, none⟩ = some (.int .i64 ib) ∧ W.cell? ⟨vb, 2, none⟩ = some (.string ⟨#[]⟩) ∧ W.cell? ⟨vv, 0, none⟩ = some (.int .i64 4) ∧ W.cell? ⟨vv, 1, none⟩ = some (.int .i64 iv) ∧ W.cell? ⟨vv, 2, none⟩ = some (.string ⟨#[]⟩) ∧ W.cell? ⟨vx, 1, none⟩ = some (.int .i64 1)) (((refine SK.out _ ?_); (repeat (first | exact K20.out | exact K19.out | exact K18.out | exact K17.out | exact K16.out | exact Keeps.refl _ _ | refine Keeps.drewN ?_ _ | refine Keeps.drew ?_)))) (first | (go_at_call 16; refine (C1.out _ ((Keeps.refl _ wc).drewN _)).mono ?_; rintro e w16 ⟨rfl, h1⟩; have K16 := hidden (((Keeps.refl (fun _ => False) wc).drewN _).trans h1 (fun _ _ h => h)); clear h1) | (go_at_call 26; refine (C2.out _ K16.out).mono ?_; rintro e w17 ⟨rfl, h1⟩; have K17 := hidden (K16.out.trans h1 (fun _ _ h => h)); clear h1 C2) | (go_at_call 26; refine (C3.out _ K17.out).mono ?_; rintro e w18 ⟨rfl, h1⟩; have K18 := hidden (K17.out.trans h1 (fun _ _ h => h)); clear h1) | (go_at_call 12; refine (CN.out _).mono ?_; rintro e w19 ⟨rfl, h1⟩; have K19 := hidden (K18.out.trans h1 (fun _ _ h => h)); clear h1) | (go_at_call 22; refine (C4.out _ K19.out).mono ?_; rintro e w20 ⟨rfl, h1⟩; have K20 := hidden (K19.out.trans h1 (fun _ _ h => h)); clear h1))
  go_wp2_with fail
  exact FIN.out _ K20.out
end Go.Proofs.Ytfdfjogoiagnkaa
