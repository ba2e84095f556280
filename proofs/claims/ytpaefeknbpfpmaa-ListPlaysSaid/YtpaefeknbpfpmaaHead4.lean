/- Layer 4: the head of its statements (dreylaw04.keeps) is true; right, same. -/
import Derived.Test.YtpaefeknbpfpmaaListE
namespace Go.Proofs.Ytpaefeknbpfpmaa
open Go.RowKit

theorem IsList.alloc {w : World} {F : Nat → Prop} {b : Nat} {xs : List V} (h : IsList w F b xs) (o : Obj) : IsList (w.alloc o) F b xs := h.none ((Keeps.refl (fun _ => False) w).alloc o)
theorem Keeps.step' {B : Nat} {F F' : Nat → Prop} {w wi wj : World} (K : Hid (Keeps (fun k => B ≤ k) w wi)) (hF : Hid (∀ k, F k → B ≤ k)) (hB : B ≤ wi.heap.size) (k : Keeps F wi wj) (f : Fresh F F' wi) :
    Hid (Keeps (fun k => B ≤ k) w wj) ∧ Hid (∀ k, F' k → B ≤ k) ∧ B ≤ wj.heap.size :=
  ⟨K.out.step hF.out k, f.ge hF.out hB, Nat.le_trans hB k.size⟩
theorem Keeps.stepNone {B : Nat} {w wi wj : World} (K : Hid (Keeps (fun k => B ≤ k) w wi)) (hB : B ≤ wi.heap.size) (k : Keeps (fun _ => False) wi wj) : Hid (Keeps (fun k => B ≤ k) w wj) ∧ B ≤ wj.heap.size :=
  ⟨K.out.step (fun _ h => h.elim) k, Nat.le_trans hB k.size⟩
theorem list_Push_ok (w : World) (F : Nat → Prop) (b : Nat) (xs ys : List V) (A : Option Addr) (c : Nat) (h : IsList w F b xs) (hy : Vals w A ys) (hx : xs.length + ys.length ≤ 1048576) :
    Calls Try.prog 23 #[.pointer (some ⟨b, 0, none⟩), .slice A ys.length c] w fun e w' => ∃ F', e = .returned (.int .i64 0) ∧ IsList w' F' b (xs ++ ys) ∧ Keeps F w w' ∧ Fresh F F' w := by
  refine (list_Push w F b xs ys A c h hy (by omega) (by omega)).mono ?_
  rintro e w' ⟨F', hp, hk, hf⟩
  rw [if_neg (by omega)] at hp
  exact ⟨F', hp.1, hp.2, hk, hf⟩
theorem list_Push_long (w : World) (F : Nat → Prop) (b : Nat) (xs ys : List V) (A : Option Addr) (c : Nat) (h : IsList w F b xs) (hy : Vals w A ys) (hx : 1048576 < xs.length + ys.length) (hx0 : xs.length ≤ 1048576) (hl : ys.length ≤ 4398046511104) :
    Calls Try.prog 23 #[.pointer (some ⟨b, 0, none⟩), .slice A ys.length c] w fun e w' => ∃ F', e = .returned (.int .i64 2) ∧ IsList w' F' b xs ∧ Keeps F w w' ∧ Fresh F F' w := by
  refine (list_Push w F b xs ys A c h hy hx0 hl).mono ?_
  rintro e w' ⟨F', hp, hk, hf⟩
  rw [if_pos hx] at hp
  exact ⟨F', hp.1, hp.2, hk, hf⟩

theorem size_alloc (w : World) (o : Obj) : (w.alloc o).heap.size = w.heap.size + 1 := by simp
def vI (n : Int) : V := ⟨2, n, ⟨#[]⟩⟩
def vS (s : ByteArray) : V := ⟨3, 0, s⟩

set_option maxRecDepth 100000 in
set_option maxHeartbeats 2000000 in
theorem keeps4_true (w : World) : Calls Try.prog 38 #[] w fun e w' => e = .returned (.bool true) ∧ Below w.heap.size w w' := by
  refine post_gen fun R hR => ?_
  go_enter Try.func38, Try.ntmps38
  go_wp2_with fail
  refine (value_Int 1 _).mono ?_
  rintro e w1 ⟨rfl, hK⟩
  obtain ⟨HK, hB⟩ := Keeps.stepNone (hidden (Keeps.refl (fun k => w.heap.size ≤ k) w)) (Nat.le_refl _) hK
  clear hK
  go_wp2_with fail
  refine (value_Int 3 _).mono ?_
  rintro e w2 ⟨rfl, hK⟩
  obtain ⟨HK, hB⟩ := Keeps.stepNone HK hB hK
  clear hK
  unfold V.val
  go_wp2_with fail
  refine (list_New _ (some ⟨w2.heap.size, 0, none⟩) 2 [vI 1, vI 3] (Vals.lit w2 [vI 1, vI 3] 30 rfl) (by decide) (fun h => by cases h)).mono ?_
  rintro e w3 ⟨b, F0, rfl, hL, hK, hF⟩
  have HF := hidden (hF.ge (B := w.heap.size) (fun _ h => h.elim) (by simp; omega))
  obtain ⟨HK, hB⟩ := Keeps.stepNone (hidden (HK.out.alloc _)) (by simp; omega) hK
  have HL := hidden hL
  clear hK hL hF
  go_wp2_with fail
  refine (value_Int 2 _).mono ?_
  rintro e w4 ⟨rfl, hK⟩
  have HL := hidden (HL.out.none hK)
  obtain ⟨HK, hB⟩ := Keeps.stepNone HK hB hK
  clear hK
  go_wp2_with fail
  refine (list_Insert_ok w4 F0 b [vI 1, vI 3] 1 (vI 2) HL.out (by decide) (by decide)).mono ?_
  rintro e w5 ⟨F1, rfl, hL, hK, hF⟩
  obtain ⟨HK, HF, hB⟩ := Keeps.step' HK HF hB hK hF
  have HL := hidden (show IsList w5 F1 b [vI 1, vI 2, vI 3] from hL)
  clear hK hL hF
  go_wp2_with fail
  refine (value_Str ⟨#[97]⟩ _).mono ?_
  rintro e w6 ⟨rfl, hK⟩
  have HL := hidden (HL.out.none hK)
  obtain ⟨HK, hB⟩ := Keeps.stepNone HK hB hK
  clear hK
  unfold V.val
  go_wp2_with fail
  refine (list_Push_ok _ F1 b [vI 1, vI 2, vI 3] [vS ⟨#[97]⟩] (some ⟨w6.heap.size, 0, none⟩) 1 (HL.out.alloc _) (Vals.lit w6 [vS ⟨#[97]⟩] 30 rfl) (by decide)).mono ?_
  rintro e w7 ⟨F2, rfl, hL, hK, hF⟩
  obtain ⟨HK, HF, hB⟩ := Keeps.step' (hidden (HK.out.alloc _)) HF (by simp; omega) hK hF
  have HL := hidden (show IsList w7 F2 b [vI 1, vI 2, vI 3, vS ⟨#[97]⟩] from hL)
  clear hK hL hF
  go_wp2_with fail
  refine (list_Get_some w7 F2 b [vI 1, vI 2, vI 3, vS ⟨#[97]⟩] 1 (vI 2) HL.out rfl).mono ?_
  rintro e w8 ⟨rfl, hK⟩
  have HL := hidden (HL.out.none hK)
  obtain ⟨HK, hB⟩ := Keeps.stepNone HK hB hK
  clear hK
  have HN := hidden (show ¬ F2 w8.heap.size from fun h => by have := HL.out.inw _ h; omega)
  unfold V.val
  go_wp2_with fail
  have HV2 := hidden (IsVar.new w8 (vI 2))
  refine (list_Get_none _ F2 b [vI 1, vI 2, vI 3, vS ⟨#[97]⟩] 4 (HL.out.alloc _) (by decide)).mono ?_
  rintro e w9 ⟨rfl, hK⟩
  have HL := hidden ((HL.out.alloc _).none hK)
  have HV2 := hidden (HV2.out.keeps hK (fun h => h))
  have h89 := hK.size
  obtain ⟨HK, hB⟩ := Keeps.stepNone (hidden (HK.out.alloc _)) (by simp; omega) hK
  clear hK
  unfold V.val
  go_wp2_with fail
  refine (list_Slice_ok _ F2 b [vI 1, vI 2, vI 3, vS ⟨#[97]⟩] (-2) 4 2 4 (HL.out.alloc _) (by decide) (by decide) (by decide) (by decide) (by decide) (by decide) (by decide)).mono ?_
  rintro e w10 ⟨sb, FS, rfl, hS, hK, hF⟩
  have HA := hidden (show Apart FS F2 from Apart.symm (Apart.fresh (Apart.none F2) hF ((HL.out.alloc _).inw) |>.symm))
  have HL := hidden ((HL.out.alloc _).none hK)
  have HS := hidden hS
  have HV2 := hidden (HV2.out.keeps (((Keeps.refl (fun _ => False) w9).alloc _).trans hK (fun _ _ h => h)) (fun h => h))
  have h910 := hK.size
  simp only [size_alloc] at h910 h89
  obtain ⟨HK, hB⟩ := Keeps.stepNone (hidden (HK.out.alloc _)) (by simp; omega) hK
  clear hK hS hF
  go_wp2_with fail
  refine (list_Pop_some _ F2 b [vI 1, vI 2, vI 3] (vS ⟨#[97]⟩) HL.out (by decide)).mono ?_
  rintro e w11 ⟨rfl, hL, hK⟩
  have HL := hidden hL
  have HS := hidden (HS.out.keeps hK HA.out)
  have HV2 := hidden (HV2.out.keeps hK HN.out)
  have h1011 := hK.size
  obtain ⟨HK, HF, hB⟩ := Keeps.step' HK HF hB hK (Fresh.refl _ _)
  clear hK hL
  have v2 : w11.cell? ⟨w8.heap.size, 1, none⟩ = some (.int .i64 2) := HV2.out.cells.2.1
  have h2lt : w8.heap.size < w11.heap.size := by omega
  simp only [V.val, vS]
  go_wp2_with fail
  refine (list_Len _ FS sb _ (HS.out.alloc _)).mono ?_
  rintro e _ ⟨rfl, rfl⟩
  rw [show ((List.take (4 - 2) (List.drop 2 [vI 1, vI 2, vI 3, vS ⟨#[97]⟩])).length : Int) = 2 from rfl]
  go_wp2_with fail
  refine (list_Len _ F2 b [vI 1, vI 2, vI 3] (HL.out.alloc _)).mono ?_
  rintro e _ ⟨rfl, rfl⟩
  rw [show (([vI 1, vI 2, vI 3] : List V).length : Int) = 3 from rfl]
  go_wp2_with fail
  refine (value_Int 3 _).mono ?_
  rintro e w12 ⟨rfl, hK⟩
  have HL := hidden ((HL.out.alloc _).none hK)
  obtain ⟨HK, hB⟩ := Keeps.stepNone (hidden (HK.out.alloc _)) (by simp; omega) hK
  clear hK
  go_wp2_with fail
  refine (list_Find _ F2 b [vI 1, vI 2, vI 3] (vI 3) HL.out (by decide)).mono ?_
  rintro e w13 ⟨rfl, hK⟩
  rw [show firstAt [vI 1, vI 2, vI 3] (vI 3) = 2 from by decide]
  have HL := hidden (HL.out.none hK)
  obtain ⟨HK, hB⟩ := Keeps.stepNone HK hB hK
  clear hK
  go_wp2_with fail
  refine (value_Int 9 _).mono ?_
  rintro e w14 ⟨rfl, hK⟩
  have HL := hidden (HL.out.none hK)
  obtain ⟨HK, hB⟩ := Keeps.stepNone HK hB hK
  clear hK
  go_wp2_with fail
  refine (list_Find _ F2 b [vI 1, vI 2, vI 3] (vI 9) HL.out (by decide)).mono ?_
  rintro e w15 ⟨rfl, hK⟩
  rw [show firstAt [vI 1, vI 2, vI 3] (vI 9) = -1 from by decide]
  obtain ⟨HK, hB⟩ := Keeps.stepNone HK hB hK
  clear hK
  go_wp2
  exact hR.out _ _ ⟨rfl, HK.out.below (Nat.le_refl _) (fun _ h => h)⟩

theorem right_any (w : World) (A : Option Addr) (c : Nat) (xs : List V) (h : Vals w A xs) (hl : xs.length ≤ 4398046511104) :
    Calls Try.prog 39 #[.slice A xs.length c] w fun e w' => e = .returned (.bool (xs.all fun x => x.chk == 0)) ∧ Keeps (fun _ => False) w w' := by
  have HV := hidden h
  clear h
  refine post_gen fun R hR => ?_
  go_enter Try.func39, Try.ntmps39
  go_wp2
  go_loopw [7] (fun i wr => ∃ k : Nat, k ≤ xs.length ∧ i = .int .i64 k ∧ (xs.take k).all (fun x => x.chk == 0) = true ∧ Keeps (fun _ => False) w wr) (fun i _ => xs.length - (intOf i).toNat)
  case atStart => exact ⟨0, Nat.zero_le _, rfl, rfl, Keeps.refl _ _⟩
  case round =>
    obtain ⟨k, hk, rfl, hall, hK⟩ := hrel
    have HA := hidden hall
    clear hall
    by_cases hlt : k < xs.length
    · obtain ⟨rb, ro, rfl, h0, h1, h2⟩ := (HV.out.keeps hK (fun _ _ _ _ h => h)) k xs[k] (List.getElem?_eq_getElem hlt)
      have hr := World.block_lt_of_cell? wr _ h0
      have HX := hidden (show xs[k]? = some xs[k] from List.getElem?_eq_getElem hlt)
      have hcall := hidden (fun W => value_Check xs[k] W)
      unfold V.val at hcall
      by_cases hc : xs[k].chk = 0
      · have HC := hidden hc
        rw [hc] at hcall
        clear hc
        generalize xs[k] = x at *
        go_wp2_with fail
        refine (hcall.out _).mono ?_
        rintro e w1 ⟨rfl, hk1⟩
        have HK1 := hidden (((hK.alloc _).trans hk1 (fun _ _ h => h)))
        clear hk1
        go_wp2
        go_roundw
        case rel =>
          refine ⟨k + 1, hlt, by go_num, ?_, HK1.out⟩
          rw [List.take_add_one, HX.out]
          simp [HA.out, HC.out]
        case measure => simp [intOf]; omega
      · have HC := hidden hc
        generalize xs[k] = x at *
        go_wp2_with fail
        refine (hcall.out _).mono ?_
        rintro e w1 ⟨rfl, hk1⟩
        have HK1 := hidden (((hK.alloc _).trans hk1 (fun _ _ h => h)))
        clear hk1
        go_wp2
        refine hR.out _ _ ⟨show Ending.returned (.bool _) = _ from ret_bool ?_, HK1.out⟩
        symm
        rw [List.all_eq_false]
        exact ⟨x, List.mem_of_getElem? HX.out, by simpa using HC.out⟩
    · obtain rfl : k = xs.length := by omega
      go_wp2
      exact hR.out _ _ ⟨show Ending.returned (.bool _) = _ from ret_bool (by rw [← HA.out, List.take_length]), hK⟩
end Go.Proofs.Ytpaefeknbpfpmaa
