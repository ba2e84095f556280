/- Layer 6: the head of its statements (dreylaw06.keeps) is true. -/
import Derived.Test.YtpaefeknbpfpmaaGrpE
import Derived.Deep.RegionHeld3
namespace Go.Proofs.Ytpaefeknbpfpmaa
open Go.RowKit
set_option maxRecDepth 100000

theorem HOk.new9 : HOk [] ⟨[], 0, 9, 0, 0⟩ := HOk.new 9
/-- A heap within a statement. -/
structure Hd (w : World) (hb : Nat) (F : Nat → Prop) (H : Hp) (s : HSt) (wr : World) : Prop where
  heap : IsHeap wr F hb H s
  ok : HOk H s
  hF : ∀ k, F k → w.heap.size ≤ k
  K : Keeps (fun k => w.heap.size ≤ k) w wr
section
variable {w wr wj : World} {hb : Nat} {F F' F0 : Nat → Prop} {H H' : Hp} {s s' : HSt}
theorem Hd.calm (h : Hd w hb F H s wr) (hk : Keeps (fun _ => False) wr wj) : Hd w hb F H s wj := ⟨h.heap.calm hk, h.ok, h.hF, h.K.trans hk (fun _ _ h => h.elim)⟩
theorem Hd.other {S : Nat → Prop} (h : Hd w hb F H s wr) (hk : Keeps S wr wj) (hn : Apart F S) (hS : ∀ k, S k → w.heap.size ≤ k) : Hd w hb F H s wj := ⟨h.heap.keeps hk hn, h.ok, h.hF, h.K.trans hk (fun k _ h => hS k h)⟩
theorem Hd.made {i p : Nat} {c : Cl} (h : Hd w hb F H s wr) (hm : Made wr wj F F0 hb H s c i p F' H' s') (h0 : ∀ k, F0 k → w.heap.size ≤ k) : Hd w hb F' H' s' wj :=
  ⟨hm.heap, hm.ok, fun k hk => (hm.fresh k hk).elim (fun h1 => h1.elim (h.hF k) (h0 k)) (fun h1 => Nat.le_trans h.K.size h1), h.K.trans hm.keeps (fun k _ h1 => h.hF k h1)⟩
theorem Hd.coll {rs fr : List Int} {ms : List Bool} (h : Hd w hb F H s wr) (hc : Coll H s rs H' s' fr ms) (hh : IsHeap wj F' hb H' s') (hk : Keeps F wr wj) (hf : Fresh F F' wr) : Hd w hb F' H' s' wj :=
  ⟨hh, hc.ok, fun k hk => (hf k hk).elim (h.hF k) (fun h1 => Nat.le_trans h.K.size h1), h.K.trans hk (fun k _ h1 => h.hF k h1)⟩
end
section
variable {HC H' : Hp} {s s' : HSt} {fr : List Int} {ms : List Bool} {i0 i1 i2 p0 p1 p2 : Nat}
theorem Cl.fix_nil {c : Cl} (h : c.nums = []) (ms : List Bool) : c.fix ms = c := by unfold Cl.fix; rw [h]
theorem weak_fix (t : Int) (ms : List Bool) : (weakCl t).fix ms = if 0 ≤ t ∧ ms[t.toNat]? ≠ some true then weakCl (-1) else weakCl t := by
  show (if (9 : Int) = 9 ∧ 0 ≤ t ∧ ms[t.toNat]? ≠ some true then _ else _) = _
  by_cases h : 0 ≤ t ∧ ms[t.toNat]? ≠ some true
  · rw [if_pos ⟨rfl, h⟩, if_pos h]; rfl
  · rw [if_neg (fun x => h x.2), if_neg h]
theorem coll_first (c : Coll HC s [(i1 : Int), (i2 : Int)] H' s' fr ms) (h0 : atH HC i0 = some (p0, arrayCl [])) (h1 : atH HC i1 = some (p1, arrayCl [⟨4, i0, ⟨#[]⟩⟩])) (h2 : atH HC i2 = some (p2, weakCl i0)) (hn : ∀ j, j ≠ i0 → j ≠ i1 → j ≠ i2 → atH HC j = none) :
    fr = [] ∧ ∀ j, atH H' j = atH HC j := by
  have r1 : Reach HC [(i1 : Int), (i2 : Int)] i1 := .root (by simp) (has_at.2 (by rw [h1]; rfl))
  have r2 : Reach HC [(i1 : Int), (i2 : Int)] i2 := .root (by simp) (has_at.2 (by rw [h2]; rfl))
  have r0 : Reach HC [(i1 : Int), (i2 : Int)] i0 := .step r1 (atH_some.1 h1) (by simp [arrayCl, Cl.strong, cellNums]) (has_at.2 (by rw [h0]; rfl))
  have m1 := (c.mark i1).2 r1
  have m2 := (c.mark i2).2 r2
  have m0 := (c.mark i0).2 r0
  refine ⟨List.eq_nil_iff_forall_not_mem.2 fun n hn' => ?_, fun j => ?_⟩
  · obtain ⟨j, -, hj, hm⟩ := (c.mem n).1 hn'
    by_cases e0 : j = i0
    · subst e0; exact hm m0
    by_cases e1 : j = i1
    · subst e1; exact hm m1
    by_cases e2 : j = i2
    · subst e2; exact hm m2
    · have := has_at.1 hj
      rw [hn j e0 e1 e2] at this; cases this
  · rw [c.at_]
    by_cases e0 : j = i0
    · subst e0; rw [if_pos m0, h0]; simp [Cl.fix_nil (c := arrayCl []) rfl]
    by_cases e1 : j = i1
    · subst e1; rw [if_pos m1, h1]; simp [Cl.fix_nil (c := arrayCl [⟨4, (i0 : Int), ⟨#[]⟩⟩]) rfl]
    by_cases e2 : j = i2
    · subst e2
      rw [if_pos m2, h2]
      simp only [Option.map_some]
      rw [weak_fix, if_neg (fun h => h.2 (by rw [Int.toNat_natCast]; exact m0))]
    · rw [hn j e0 e1 e2]; simp
theorem coll_second (c : Coll HC s [(i2 : Int)] H' s' fr ms) (h0 : atH HC i0 = some (p0, arrayCl [])) (h1 : atH HC i1 = some (p1, arrayCl [⟨4, i0, ⟨#[]⟩⟩])) (h2 : atH HC i2 = some (p2, weakCl i0)) (hn : ∀ j, j ≠ i0 → j ≠ i1 → j ≠ i2 → atH HC j = none) (h01 : i0 ≠ i1) (h02 : i0 ≠ i2) (h12 : i1 ≠ i2) :
    fr.length = 2 ∧ atH H' i2 = some (p2, weakCl (-1)) ∧ H'[i0]? = some none := by
  have hr : ∀ j, Reach HC [(i2 : Int)] j → j = i2 := fun j h => by
    induction h with
    | root hi _ => have := List.mem_singleton.1 hi; omega
    | step _ hi hj _ ih =>
      subst ih
      have e := atH_some.2 hi
      rw [h2] at e
      obtain ⟨rfl, rfl⟩ := Prod.mk.inj (Option.some.inj e)
      simp [weakCl, Cl.strong, cellNums] at hj
  have r2 : Reach HC [(i2 : Int)] i2 := .root (by simp) (has_at.2 (by rw [h2]; rfl))
  have m2 := (c.mark i2).2 r2
  have m0 : ms[i0]? ≠ some true := fun h => h02 (hr i0 ((c.mark i0).1 h))
  have m1 : ms[i1]? ≠ some true := fun h => h12 (hr i1 ((c.mark i1).1 h))
  have hh0 : Hp.has HC i0 := has_at.2 (by rw [h0]; rfl)
  have hh1 : Hp.has HC i1 := has_at.2 (by rw [h1]; rfl)
  refine ⟨?_, ?_, ?_⟩
  · have hp : fr.Perm [(i0 : Int), (i1 : Int)] := (List.perm_ext_iff_of_nodup c.nodup (by simp; omega)).2 fun n => by
      rw [c.mem]
      simp only [List.mem_cons, List.not_mem_nil, or_false]
      constructor
      · rintro ⟨j, rfl, hj, hm⟩
        by_cases e0 : j = i0
        · exact .inl (by rw [e0])
        by_cases e1 : j = i1
        · exact .inr (by rw [e1])
        by_cases e2 : j = i2
        · subst e2; exact absurd m2 hm
        · have := has_at.1 hj
          rw [hn j e0 e1 e2] at this; cases this
      · rintro (rfl | rfl)
        · exact ⟨i0, rfl, hh0, m0⟩
        · exact ⟨i1, rfl, hh1, m1⟩
    rw [hp.length_eq]; rfl
  · rw [c.at_, if_pos m2, h2]
    simp only [Option.map_some]
    rw [weak_fix, if_pos ⟨by omega, by rw [Int.toNat_natCast]; exact m0⟩]
  · have hl : i0 < H'.length := by rw [c.len]; exact Hp.has_lt hh0
    have e := c.at_ i0
    rw [if_neg m0] at e
    unfold atH at e
    rw [List.getElem?_eq_getElem hl] at e ⊢
    simp at e
    rw [e]
end
set_option maxHeartbeats 8000000 in
theorem keeps6_true (w : World) : Calls Try.prog 19 #[] w fun e w' => e = .returned (.bool true) ∧ Below w.heap.size w w' := by
  refine post_gen fun R hR => ?_
  go_enter Try.func19, Try.ntmps19
  go_wp2_with fail
  refine (heap_New w 9).mono ?_
  rintro e w1 ⟨hb, F0, rfl, hH, hK, hF⟩
  have H1 := hidden (show Hd w hb F0 [] ⟨[], 0, 9, 0, 0⟩ w1 from ⟨hH, HOk.new9, fun k h => (hF k h).elim (fun h => h.elim) id, hK.mono (fun _ _ h => h.elim)⟩)
  clear hH hK hF
  go_wp2_with fail
  have C1 := hidden (heap_NewArray_ok w1 F0 hb [] ⟨[], 0, 9, 0, 0⟩ none 0 [] H1.out.heap H1.out.ok (Vals.nil _ _) (by decide) (fun _ => rfl) (by decide))
  unfold V.val at C1
  refine C1.out.mono ?_
  rintro e w2 ⟨i0, p0, F1, HA, s1, rfl, hM⟩
  have H2 := hidden (H1.out.made hM (fun k h => h.elim))
  have N1 := hidden hM.new
  have S1 := hidden (show s1.live = 1 ∧ s1.limit = 9 ∧ s1.freed = 0 ∧ s1.runs = 0 ∧ i0 < 1048576 from ⟨hM.live, hM.limit, hM.freed, hM.runs, hM.lt⟩)
  have IN1 := hidden hM.heap.inw
  clear hM C1
  go_wp2_with fail
  have VA := hidden (show IsVar (w2.alloc (.cells #[.int .i64 4, .int .i64 i0, .string ⟨#[]⟩] 30)) w2.heap.size ⟨4, i0, ⟨#[]⟩⟩ from IsVar.new w2 ⟨4, i0, ⟨#[]⟩⟩)
  have NA := hidden (show ¬ F1 w2.heap.size from fun h => Nat.lt_irrefl _ (IN1.out _ h))
  generalize hva : w2.heap.size = va at *
  have H2b := hidden (H2.out.calm (((Keeps.refl (fun _ => False) w2).alloc (.cells #[.int .i64 4, .int .i64 i0, .string ⟨#[]⟩] 30)).alloc (.cells #[.int .i64 4, .int .i64 i0, .string ⟨#[]⟩] 30)))
  have VL := hidden (show Vals ((w2.alloc (.cells #[.int .i64 4, .int .i64 i0, .string ⟨#[]⟩] 30)).alloc (.cells #[.int .i64 4, .int .i64 i0, .string ⟨#[]⟩] 30)) (some ⟨va + 1, 0, none⟩) [⟨4, i0, ⟨#[]⟩⟩] from Vals.lit (w2.alloc (.cells #[.int .i64 4, .int .i64 i0, .string ⟨#[]⟩] 30)) [⟨4, i0, ⟨#[]⟩⟩] _ (by simp [hva]))
  have VA2 := hidden (show IsVar ((w2.alloc (.cells #[.int .i64 4, .int .i64 i0, .string ⟨#[]⟩] 30)).alloc (.cells #[.int .i64 4, .int .i64 i0, .string ⟨#[]⟩] 30)) va ⟨4, i0, ⟨#[]⟩⟩ from blk_alloc VA.out _)
  clear H2 VA IN1 hva
  generalize (w2.alloc (.cells #[.int .i64 4, .int .i64 i0, .string ⟨#[]⟩] 30)).alloc (.cells #[.int .i64 4, .int .i64 i0, .string ⟨#[]⟩] 30) = w3 at *
  have C2 := hidden (heap_NewArray_ok w3 F1 hb HA s1 (some ⟨va + 1, 0, none⟩) 1 [⟨4, i0, ⟨#[]⟩⟩] H2b.out.heap H2b.out.ok VL.out (by simp) (fun e => (Option.some_ne_none _ e).elim) (by rw [S1.out.1, S1.out.2.1]; decide))
  unfold V.val at C2
  refine C2.out.mono ?_
  rintro e w4 ⟨i1, p1, F2, HB, s2, rfl, hM⟩
  have H4 := hidden (H2b.out.made hM (fun k h => h.elim))
  have N2 := hidden hM.new
  have S2 := hidden (show s2.live = 2 ∧ s2.limit = 9 ∧ s2.freed = 0 ∧ s2.runs = 0 ∧ i1 < 1048576 from ⟨by rw [hM.live, S1.out.1]; decide, by rw [hM.limit, S1.out.2.1], by rw [hM.freed, S1.out.2.2.1], by rw [hM.runs, S1.out.2.2.2.1], hM.lt⟩)
  have IN2 := hidden hM.heap.inw
  have VA4 := hidden (VA2.out.keeps hM.keeps NA.out)
  have NA2 := hidden (hM.off (r := va) NA.out (fun h => h) (blk_lt VA2.out))
  clear hM C2 H2b VL VA2 NA
  obtain ⟨a0, a1, a2, a3, a4, a5⟩ := VA4.out.cells
  have haz := blk_lt VA4.out
  simp only at a0 a1 a2
  go_wp2_with fail
  have VB := hidden (show IsVar (w4.alloc (.cells #[.int .i64 4, .int .i64 i1, .string ⟨#[]⟩] 30)) w4.heap.size ⟨4, i1, ⟨#[]⟩⟩ from IsVar.new w4 ⟨4, i1, ⟨#[]⟩⟩)
  have VA5 := hidden (show IsVar (w4.alloc (.cells #[.int .i64 4, .int .i64 i1, .string ⟨#[]⟩] 30)) va ⟨4, i0, ⟨#[]⟩⟩ from blk_alloc VA4.out _)
  have H5 := hidden (H4.out.calm ((Keeps.refl (fun _ => False) w4).alloc (.cells #[.int .i64 4, .int .i64 i1, .string ⟨#[]⟩] 30)))
  have NB := hidden (show ¬ F2 w4.heap.size from fun h => Nat.lt_irrefl _ (IN2.out _ h))
  have hab := hidden (show va ≠ w4.heap.size by omega)
  clear H4 VA4 IN2 a0 a1 a2 a3 a4 a5 haz
  generalize w4.heap.size = vb at *
  generalize w4.alloc (.cells #[.int .i64 4, .int .i64 i1, .string ⟨#[]⟩] 30) = w5 at *
  have hA0 := hidden (show atH HA i0 = some (p0, arrayCl []) from N1.out.here)
  have hB1 := hidden (show atH HB i1 = some (p1, arrayCl [⟨4, i0, ⟨#[]⟩⟩]) from N2.out.here)
  have h01 := hidden (show i0 ≠ i1 from fun e => by have h1 := N2.out.was; rw [← e, hA0.out] at h1; cases h1)
  have hB0 := hidden (show atH HB i0 = some (p0, arrayCl []) from (N2.out.else_ i0 h01.out).trans hA0.out)
  have hBn := hidden (show ∀ j, j ≠ i0 → j ≠ i1 → atH HB j = none from fun j h0 h1 => ((N2.out.else_ j h1).trans (N1.out.else_ j h0)).trans (by unfold atH; simp))
  have C3 := hidden (heap_Aim_ok w5 F2 hb HB s2 i0 p0 (arrayCl []) H5.out.heap H5.out.ok (atH_some.1 hB0.out) (by rw [S2.out.1, S2.out.2.1]; decide))
  refine C3.out.mono ?_
  rintro e w6 ⟨i2, p2, F3, HC, s3, rfl, hM⟩
  have H6 := hidden (H5.out.made hM (fun k h => h.elim))
  have N3 := hidden hM.new
  have S3 := hidden (show s3.live = 3 ∧ s3.limit = 9 ∧ s3.freed = 0 ∧ s3.runs = 0 ∧ i2 < 1048576 from ⟨by rw [hM.live, S2.out.1]; decide, by rw [hM.limit, S2.out.2.1], by rw [hM.freed, S2.out.2.2.1], by rw [hM.runs, S2.out.2.2.2.1], hM.lt⟩)
  have VA6 := hidden (VA5.out.keeps hM.keeps NA2.out)
  have NA3 := hidden (hM.off (r := va) NA2.out (fun h => h) (blk_lt VA5.out))
  have VB6 := hidden (VB.out.keeps hM.keeps NB.out)
  have NB3 := hidden (hM.off (r := vb) NB.out (fun h => h) (blk_lt VB.out))
  have LV := hidden (heap_Live hM.heap)
  rw [S3.out.1] at LV
  clear hM C3 H5 VA5 VB NA2 NB
  have hC2 := hidden (show atH HC i2 = some (p2, weakCl i0) from N3.out.here)
  have h02 := hidden (show i0 ≠ i2 from fun e => by have h1 := N3.out.was; rw [← e, hB0.out] at h1; cases h1)
  have h12 := hidden (show i1 ≠ i2 from fun e => by have h1 := N3.out.was; rw [← e, hB1.out] at h1; cases h1)
  have hC0 := hidden (show atH HC i0 = some (p0, arrayCl []) from (N3.out.else_ i0 h02.out).trans hB0.out)
  have hC1 := hidden (show atH HC i1 = some (p1, arrayCl [⟨4, i0, ⟨#[]⟩⟩]) from (N3.out.else_ i1 h12.out).trans hB1.out)
  have hCn := hidden (show ∀ j, j ≠ i0 → j ≠ i1 → j ≠ i2 → atH HC j = none from fun j h0 h1 h2 => (N3.out.else_ j h2).trans (hBn.out j h0 h1))
  clear N1 N2 N3 hA0 hB0 hB1 hBn
  obtain ⟨x0, x1, x2, x3, x4, x5⟩ := VB6.out.cells
  have hxz := blk_lt VB6.out
  simp only at x0 x1 x2
  go_wp2_with (go_at_call 30; refine LV.out.mono ?_; rintro e _ ⟨rfl, rfl⟩)
  have IL := hidden (show Ints (w6.alloc (.cells #[.int .i64 i1, .int .i64 i2] 3)) (some ⟨w6.heap.size, 0, none⟩) [(i1 : Int), (i2 : Int)] from fun i x h => by
    refine ⟨_, _, rfl, ?_⟩
    rw [blk_cell (blk_new w6 _)]
    match i, h with
    | 0, h => simpa using h
    | 1, h => simpa using h
    | i + 2, h => simp at h)
  have K7 := hidden ((Keeps.refl (fun _ => False) w6).alloc (.cells #[.int .i64 i1, .int .i64 i2] 3))
  have H7 := hidden (H6.out.calm K7.out)
  have VA7 := hidden (VA6.out.keeps K7.out (fun h => h))
  have VB7 := hidden (VB6.out.keeps K7.out (fun h => h))
  clear H6 VA6 VB6 x0 x1 x2 x3 x4 x5 hxz LV
  generalize w6.alloc (.cells #[.int .i64 i1, .int .i64 i2] 3) = w7 at *
  have C4 := hidden (heap_collect w7 F3 hb HC s3 _ 2 [(i1 : Int), (i2 : Int)] H7.out.heap H7.out.ok IL.out (by simp) ⟨by rw [S3.out.2.2.2.1]; decide, by rw [S3.out.2.2.2.1]; decide, by rw [S3.out.2.2.1]; decide, by rw [S3.out.2.2.1]; decide⟩)
  refine C4.out.mono ?_
  rintro e w8 ⟨F4, HD, s4, fr, ms, rfl, hc, hh, hk, hf⟩
  obtain ⟨hfr, hsame⟩ := coll_first hc hC0.out hC1.out hC2.out hCn.out
  have H8 := hidden (H7.out.coll hc hh hk hf)
  have S4 := hidden (show s4.live = 3 ∧ s4.limit = 9 ∧ s4.freed = 0 ∧ s4.runs = 1 from ⟨by rw [hc.live, hfr, S3.out.1]; decide, by rw [hc.limit, S3.out.2.1], by rw [hc.freed, hfr, S3.out.2.2.1]; decide, by rw [hc.runs, S3.out.2.2.2.1]; decide⟩)
  have VA8 := hidden (VA7.out.keeps hk NA3.out)
  have VB8 := hidden (VB7.out.keeps hk NB3.out)
  have NA4 := hidden (show ¬ F4 va from fun h => (hf va h).elim NA3.out (fun h => by have := blk_lt VA7.out; omega))
  have NB4 := hidden (show ¬ F4 vb from fun h => (hf vb h).elim NB3.out (fun h => by have := blk_lt VB7.out; omega))
  have hD0 := hidden ((hsame i0).trans hC0.out)
  have hD1 := hidden ((hsame i1).trans hC1.out)
  have hD2 := hidden ((hsame i2).trans hC2.out)
  have hDn := hidden (fun j h0 h1 h2 => (hsame j).trans (hCn.out j h0 h1 h2))
  subst hfr
  clear hc hh hk hf hsame C4 hC0 hC1 hC2 hCn H7 VA7 VB7 NA3 NB3 IL K7 S3 S2 S1
  have GW := hidden (heap_Get_ok H8.out.heap (atH_some.1 hD2.out))
  go_wp2_with fail
  refine GW.out.mono ?_
  rintro e _ ⟨rfl, rfl⟩
  have TG := hidden (fun (W : World) (hk : Keeps (fun _ => False) w8 W) => show Calls Try.prog 70 #[.pointer (some ⟨p2, 0, none⟩)] W fun e w' => e = .returned (.int .i64 i0) ∧ Keeps (fun _ => False) W w' from by
    obtain ⟨Fam, vc, vf, hX⟩ := H8.out.heap.calm hk
    exact cell_Target W p2 _ (weakCl i0) (hX.each i2 p2 _ (atH_some.1 hD2.out)))
  have TY := hidden (fun (W : World) (hk : Keeps (fun _ => False) w8 W) => heap_Type_ref (H8.out.heap.calm hk) (atH_some.1 hD1.out) ⟨#[]⟩)
  rw [show kindName (arrayCl [⟨4, (i0 : Int), ⟨#[]⟩⟩]).kind = ⟨#[97, 114, 114, 97, 121]⟩ from (by decide +kernel : kindName 1 = ⟨#[97, 114, 114, 97, 121]⟩)] at TY
  unfold V.val at TY
  have NM := hidden (fun (W : World) => heap_Name W 9)
  rw [show kindName 9 = ⟨#[119, 101, 97, 107, 114, 101, 102]⟩ by decide +kernel] at NM
  have CO := hidden (fun (W : World) (hk : Keeps (fun _ => False) w8 W) => show Calls Try.prog 55 #[.pointer (some ⟨hb, 0, none⟩), .slice (some ⟨W.heap.size, 0, none⟩) 1 1] (W.alloc (.cells #[.int .i64 i2] 3)) fun e w' => ∃ F5 HE s5, e = .returned (.int .i64 2) ∧ Hd w hb F5 HE s5 w' ∧ (s5.live = 1 ∧ s5.limit = 9 ∧ s5.freed = 2 ∧ s5.runs = 2) ∧ atH HE i2 = some (p2, weakCl (-1)) ∧ HE[i0]? = some none ∧ IsVar w' va ⟨4, i0, ⟨#[]⟩⟩ ∧ IsVar w' vb ⟨4, i1, ⟨#[]⟩⟩ from by
    have hk2 := hk.alloc (.cells #[.int .i64 i2] 3)
    have h9 := H8.out.calm hk2
    refine (heap_collect _ F4 hb HD s4 _ 1 [(i2 : Int)] h9.heap h9.ok (ints_lit W i2 _ rfl) (by simp) ⟨by rw [S4.out.2.2.2]; decide, by rw [S4.out.2.2.2]; decide, by rw [S4.out.2.2.1]; decide, by rw [S4.out.2.2.1]; decide⟩).mono ?_
    rintro e w' ⟨F5, HE, s5, fr, ms, rfl, hc, hh, hk3, hf⟩
    obtain ⟨g1, g2, g3⟩ := coll_second hc hD0.out hD1.out hD2.out hDn.out h01.out h02.out h12.out
    refine ⟨F5, HE, s5, by rw [g1]; rfl, h9.coll hc hh hk3 hf, ⟨by rw [hc.live, g1, S4.out.1]; decide, by rw [hc.limit, S4.out.2.1], by rw [hc.freed, g1, S4.out.2.2.1]; decide, by rw [hc.runs, S4.out.2.2.2]; decide⟩, g2, g3, (VA8.out.keeps hk2 (fun h => h)).keeps hk3 NA4.out, (VB8.out.keeps hk2 (fun h => h)).keeps hk3 NB4.out⟩)
  have SK := hidden (fun (W : World) (hk : Keeps (fun _ => False) w8 W) => show W.cell? ⟨va, 1, none⟩ = some (.int .i64 i0) ∧ W.cell? ⟨vb, 0, none⟩ = some (.int .i64 4) ∧ W.cell? ⟨vb, 1, none⟩ = some (.int .i64 i1) ∧ W.cell? ⟨vb, 2, none⟩ = some (.string ⟨#[]⟩) from ⟨(VA8.out.keeps hk (fun h => h)).cells.2.1, (VB8.out.keeps hk (fun h => h)).cells.1, (VB8.out.keeps hk (fun h => h)).cells.2.1, (VB8.out.keeps hk (fun h => h)).cells.2.2.1⟩)
  clear H8 VA8 VB8 NA4 NB4 hD0 hD1 hD2 hDn S4 h01 h02 h12 GW H1
  go_wp2_with fail
  go_region_held3 (fun W' => W'.cell? ⟨va, 1, none⟩ = some (.int .i64 i0) ∧ W'.cell? ⟨vb, 0, none⟩ = some (.int .i64 4) ∧ W'.cell? ⟨vb, 1, none⟩ = some (.int .i64 i1) ∧ W'.cell? ⟨vb, 2, none⟩ = some (.string ⟨#[]⟩)) (first | exact SK.out _ (Keeps.refl _ _) | exact SK.out _ ((Keeps.refl _ w8).drewN _) | exact SK.out _ K11.out | exact SK.out _ (K11.out.alloc _) | exact SK.out _ K10.out | exact SK.out _ K9.out | exact SE.out) (first | (go_at_call 70; refine (TG.out _ ((Keeps.refl _ w8).drewN _)).mono ?_; rintro e w9 ⟨rfl, h1⟩; have K9 := hidden (((Keeps.refl (fun _ => False) w8).drewN _).trans h1 (fun _ _ h => h)); clear h1) | (go_at_call 36; refine (TY.out _ K9.out).mono ?_; rintro e w10 ⟨rfl, h1⟩; have K10 := hidden (K9.out.trans h1 (fun _ _ h => h)); clear h1) | (go_at_call 31; refine (NM.out _).mono ?_; rintro e w11 ⟨rfl, h1⟩; have K11 := hidden (K10.out.trans h1 (fun _ _ h => h)); clear h1) | (go_at_call 55; refine (CO.out _ K11.out).mono ?_; rintro e w12 ⟨F5, HE, s5, rfl, h1, h2, h3, h4, h5, h6⟩; have H12 := hidden h1; have S5 := hidden h2; have hE2 := hidden h3; have hE0 := hidden h4; have VA12 := hidden h5; have VB12 := hidden h6; have SE := hidden (show w12.cell? ⟨va, 1, none⟩ = some (.int .i64 i0) ∧ w12.cell? ⟨vb, 0, none⟩ = some (.int .i64 4) ∧ w12.cell? ⟨vb, 1, none⟩ = some (.int .i64 i1) ∧ w12.cell? ⟨vb, 2, none⟩ = some (.string ⟨#[]⟩) from ⟨h5.cells.2.1, h6.cells.1, h6.cells.2.1, h6.cells.2.2.1⟩); clear h1 h2 h3 h4 h5 h6))
  have GA := hidden (heap_Get_freed H12.out.heap hE0.out)
  have GN := hidden (heap_Get_range H12.out.heap (i := -1) (.inl (by decide)))
  have TG2 := hidden (show Calls Try.prog 70 #[.pointer (some ⟨p2, 0, none⟩)] w12 fun e w' => e = .returned (.int .i64 (-1)) ∧ Keeps (fun _ => False) w12 w' from by
    obtain ⟨Fam, vc, vf, hX⟩ := H12.out.heap
    exact cell_Target w12 p2 _ (weakCl (-1)) (hX.each i2 p2 _ (atH_some.1 hE2.out)))
  have LV := hidden (fun (W : World) (hk : Keeps (fun _ => False) w12 W) => heap_Live (H12.out.heap.calm hk))
  have FR := hidden (fun (W : World) (hk : Keeps (fun _ => False) w12 W) => heap_Freed (H12.out.heap.calm hk))
  have RU := hidden (fun (W : World) (hk : Keeps (fun _ => False) w12 W) => heap_Runs (H12.out.heap.calm hk))
  have LI := hidden (fun (W : World) (hk : Keeps (fun _ => False) w12 W) => heap_Limit (H12.out.heap.calm hk))
  rw [S5.out.1] at LV
  rw [S5.out.2.2.1] at FR
  rw [S5.out.2.2.2] at RU
  rw [S5.out.2.1] at LI
  have CK := hidden (fun (W : World) (hk : Keeps (fun _ => False) w12 W) => show Calls Try.prog 59 #[.pointer (some ⟨hb, 0, none⟩), .slice (some ⟨W.heap.size, 0, none⟩) 1 1] (W.alloc (.cells #[.int .i64 i2] 3)) fun e w' => e = .returned (.int .i64 0) ∧ Keeps (fun _ => False) (W.alloc (.cells #[.int .i64 i2] 3)) w' from by
    have hr : ∀ j, Reach HE [(i2 : Int)] j → j = i2 := fun j h => by
      induction h with
      | root hi _ => have := List.mem_singleton.1 hi; omega
      | step _ hi hj _ ih =>
        subst ih
        have e := atH_some.2 hi
        rw [hE2.out] at e
        obtain ⟨rfl, rfl⟩ := Prod.mk.inj (Option.some.inj e)
        simp [weakCl, Cl.strong, cellNums] at hj
    have hlen := H12.out.ok.len
    have hlim := H12.out.ok.lim
    refine heap_Check_ok _ F5 hb HE s5 _ 1 [(i2 : Int)] (H12.out.heap.calm (hk.alloc _)) (ints_lit W i2 _ rfl) (by simp) (by omega) (fun r hr2 => ⟨i2, List.mem_singleton.1 hr2, _, atH_some.1 hE2.out⟩) (fun i hi p c hc r hr2 => ?_)
    have e := hr i hi
    subst e
    have e2 := atH_some.2 hc
    rw [hE2.out] at e2
    obtain ⟨rfl, rfl⟩ := Prod.mk.inj (Option.some.inj e2)
    simp [weakCl, Cl.strong, cellNums] at hr2)
  obtain ⟨a0, a1, a2, a3, a4, a5⟩ := VA12.out.cells
  have haz := blk_lt VA12.out
  simp only at a0 a1 a2
  clear SE SK TG TY NM CO K9 K10 K11 hE0 hE2 S5 VB12
  go_wp2_with fail
  refine GA.out.mono ?_
  rintro e _ ⟨rfl, rfl⟩
  go_wp2_with fail
  refine GN.out.mono ?_
  rintro e _ ⟨rfl, rfl⟩
  clear GA GN
  go_wp2_with fail
  refine TG2.out.mono ?_
  rintro e w13 ⟨rfl, h1⟩
  have K13 := hidden h1
  clear h1 TG2
  go_wp2_with (first | (go_at_call 30; refine (LV.out _ K13.out).mono ?_; rintro e _ ⟨rfl, rfl⟩) | (go_at_call 71; refine (FR.out _ K13.out).mono ?_; rintro e _ ⟨rfl, rfl⟩) | (go_at_call 72; refine (RU.out _ K13.out).mono ?_; rintro e _ ⟨rfl, rfl⟩) | (go_at_call 56; refine (LI.out _ K13.out).mono ?_; rintro e _ ⟨rfl, rfl⟩) | (go_at_call 59; refine (CK.out _ K13.out).mono ?_; rintro e w14 ⟨rfl, h1⟩; have K14 := hidden ((K13.out.alloc _).trans h1 (fun _ _ h => h)); clear h1))
  exact hR.out _ _ ⟨rfl, (H12.out.K.trans K14.out (fun _ _ h => h.elim)).below (Nat.le_refl _) (fun _ h => h)⟩
end Go.Proofs.Ytpaefeknbpfpmaa
