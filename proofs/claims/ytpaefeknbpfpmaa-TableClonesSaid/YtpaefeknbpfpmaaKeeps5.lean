/- Layer 5: the head of its statements (dreylaw05.keeps) is true. -/
import Derived.Test.YtpaefeknbpfpmaaDo5B
import Derived.Deep.RegionHeld3
namespace Go.Proofs.Ytpaefeknbpfpmaa
open Go.RowKit
set_option maxRecDepth 100000

def kI (n : Int) : V := ⟨2, n, ⟨#[]⟩⟩
def kS (s : ByteArray) : V := ⟨3, 0, s⟩
def kA : ByteArray := ⟨#[97]⟩
/-- What a call keeps that began behind a new block. -/
theorem Keeps.unalloc {S : Nat → Prop} {w w1 : World} {o : Obj} (h : Keeps S (w.alloc o) w1) : Keeps S w w1 :=
  ⟨h.os, h.tape, h.output, Nat.le_trans (by simp) h.size, fun k hk hn => (h.block k (by simp; omega) hn).trans (Below.heap_alloc w o k hk)⟩
theorem Keeps.none_any {S : Nat → Prop} {w w1 : World} (h : Keeps (fun _ => False) w w1) : Keeps S w w1 := h.mono (fun _ _ h => h.elim)
/-- A table within a statement's head. -/
structure HeadSt (w : World) (b : Nat) (F : Nat → Prop) (L : List Ent) (s : Int) (wr : World) : Prop where
  tab : IsT wr F b L s
  hF : ∀ k, F k → w.heap.size ≤ k
  K : Keeps (fun k => w.heap.size ≤ k) w wr
theorem HeadSt.none {w wr wj : World} {b : Nat} {F : Nat → Prop} {L : List Ent} {s : Int} (h : HeadSt w b F L s wr) (hk : Keeps (fun _ => False) wr wj) : HeadSt w b F L s wj :=
  ⟨h.tab.none hk, h.hF, h.K.step (fun _ h => h.elim) hk⟩
theorem HeadSt.next {w wr wj : World} {b : Nat} {F F' : Nat → Prop} {L L' : List Ent} {s s' : Int} (h : HeadSt w b F L s wr) (ht : IsT wj F' b L' s') (hk : Keeps F wr wj) (hf : Fresh F F' wr) : HeadSt w b F' L' s' wj :=
  ⟨ht, hf.ge h.hF h.K.size, h.K.step h.hF hk⟩
set_option maxHeartbeats 8000000 in
theorem keeps5_true (w : World) : Calls Try.prog 10 #[] w fun e w' => e = .returned (.bool true) ∧ Below w.heap.size w w' := by
  refine post_gen fun R hR => ?_
  go_enter Try.func10, Try.ntmps10
  go_wp2_with fail
  refine (t_New _).mono ?_
  rintro e w1 ⟨b, F0, rfl, hT, hK, hF⟩
  have H1 := hidden (show HeadSt w b F0 [] 0 w1 from ⟨hT, fun k h => (hF k h).elim (fun h => h.elim) id, hK.none_any⟩)
  clear hT hK hF
  go_wp2_with fail
  refine (value_Str kA _).mono ?_
  rintro e w2 ⟨rfl, hK⟩
  have H2 := hidden (H1.out.none hK)
  clear hK
  go_wp2_with fail
  refine (value_Int 1 _).mono ?_
  rintro e w3 ⟨rfl, hK⟩
  have H3 := hidden (H2.out.none hK)
  clear hK
  go_wp2_with fail
  refine (t_Put_new (key := kS kA) H3.out.tab (by decide) (kI 1) (by decide) (by decide) (fun x h => by simp at h) (by decide)).mono ?_
  rintro e w4 ⟨F1, rfl, hT, hK, hF⟩
  have H4 := hidden (H3.out.next hT hK hF)
  clear hT hK hF
  go_wp2_with fail
  refine (value_Int 2 _).mono ?_
  rintro e w5 ⟨rfl, hK⟩
  have H5 := hidden (H4.out.none hK)
  clear hK
  go_wp2_with fail
  refine (value_Int 3 _).mono ?_
  rintro e w6 ⟨rfl, hK⟩
  have H6 := hidden (H5.out.none hK)
  clear hK
  go_wp2_with fail
  refine (t_Put_new (key := kI 2) H6.out.tab (by decide) (kI 3) (by decide) (by decide) (fun x h => by simp at h; subst h; decide) (by decide)).mono ?_
  rintro e w7 ⟨F2, rfl, hT, hK, hF⟩
  have H7 := hidden (show HeadSt w b F2 [⟨kS kA, kI 1, 1, false⟩, ⟨kI 2, kI 3, 2, false⟩] 2 w7 from H6.out.next hT hK hF)
  clear hT hK hF
  go_wp2_with fail
  refine (value_Null _).mono ?_
  rintro e w8 ⟨rfl, hK⟩
  have H8 := hidden (H7.out.none hK)
  clear hK
  go_wp2_with fail
  refine (value_Null _).mono ?_
  rintro e w9 ⟨rfl, hK⟩
  have H9 := hidden (H8.out.none hK)
  clear hK
  go_wp2_with fail
  refine (table_Put_null _ b V.null V.null rfl).mono ?_
  rintro e w10 ⟨rfl, hK⟩
  have H10 := hidden (H9.out.none hK)
  clear hK
  go_wp2_with fail
  refine (value_Str kA _).mono ?_
  rintro e w11 ⟨rfl, hK⟩
  have H11 := hidden (H10.out.none hK)
  clear hK
  go_wp2_with fail
  refine (t_Get_some (x := ⟨kS kA, kI 1, 1, false⟩) H11.out.tab (by decide) (by simp)).mono ?_
  rintro e w12 ⟨rfl, hK⟩
  have H12 := hidden (H11.out.none hK)
  clear hK
  have V12 := hidden (show IsVar (w12.alloc (.cells #[.int .i64 2, .int .i64 1, .string ⟨#[]⟩] 30)) w12.heap.size (kI 1) from IsVar.new w12 (kI 1))
  have H13 := hidden (H12.out.none ((Keeps.refl _ w12).alloc (.cells #[.int .i64 2, .int .i64 1, .string ⟨#[]⟩] 30)))
  dsimp only [kI, V.val]
  go_wp2_with fail
  have CN := t_Next H13.out.tab (by decide) 0
  rw [show nextAns [⟨kS kA, kI 1, 1, false⟩, ⟨kI 2, kI 3, 2, false⟩] 0 = .tuple #[.int .i64 1, .agg #[.int .i64 3, .int .i64 0, .string kA], .agg #[.int .i64 2, .int .i64 1, .string ⟨#[]⟩], .bool true] from rfl] at CN
  refine CN.mono ?_
  rintro e w14 ⟨rfl, hK⟩
  clear CN
  have H14 := hidden (H13.out.none hK)
  have V14 := hidden (V12.out.keeps hK (fun h => h))
  have h1214 : w12.heap.size < w14.heap.size := blk_lt V14.out
  clear hK
  have VK := hidden (show IsVar (w14.alloc (.cells #[.int .i64 3, .int .i64 0, .string kA] 30)) w14.heap.size (kS kA) from IsVar.new w14 (kS kA))
  have K16 := hidden (show Keeps (fun _ => False) w14 ((w14.alloc (.cells #[.int .i64 3, .int .i64 0, .string kA] 30)).alloc (.cells #[.int .i64 2, .int .i64 1, .string ⟨#[]⟩] 30)) from ((Keeps.refl _ w14).alloc _).alloc _)
  have VK2 := hidden (VK.out.keeps ((Keeps.refl (fun _ => False) _).alloc (.cells #[.int .i64 2, .int .i64 1, .string ⟨#[]⟩] 30)) (fun h => h))
  have V16 := hidden (V14.out.keeps K16.out (fun h => h))
  have H16 := hidden (H14.out.none K16.out)
  go_wp2_with fail
  refine (value_Str kA _).mono ?_
  rintro e w17 ⟨rfl, hK⟩
  have H17 := hidden (H16.out.none hK)
  have V17 := hidden (V16.out.keeps hK (fun h => h))
  have VK17 := hidden (VK2.out.keeps hK (fun h => h))
  clear hK
  go_wp2_with fail
  refine (t_Delete_some (x := ⟨kS kA, kI 1, 1, false⟩) H17.out.tab (by decide) (by simp)).mono ?_
  rintro e w18 ⟨rfl, hT, hK⟩
  have hnF : ¬ F2 w12.heap.size ∧ ¬ F2 w14.heap.size := ⟨fun h => by have := H12.out.tab.inw _ h; omega, fun h => by have := H14.out.tab.inw _ h; omega⟩
  have V18 := hidden (V17.out.keeps hK hnF.1)
  have VK18 := hidden (VK17.out.keeps hK hnF.2)
  have H18 := hidden (show HeadSt w b F2 [⟨kI 2, kI 3, 2, false⟩] 2 w18 from H17.out.next hT hK (Fresh.refl _ _))
  clear hT hK
  dsimp only [kI, V.val]
  have VD := hidden (show IsVar (w18.alloc (.cells #[.int .i64 2, .int .i64 1, .string ⟨#[]⟩] 30)) w18.heap.size (kI 1) from IsVar.new w18 (kI 1))
  have H19 := hidden (H18.out.none ((Keeps.refl _ w18).alloc (.cells #[.int .i64 2, .int .i64 1, .string ⟨#[]⟩] 30)))
  have V19 := hidden (V18.out.keeps ((Keeps.refl (fun _ => False) w18).alloc (.cells #[.int .i64 2, .int .i64 1, .string ⟨#[]⟩] 30)) (fun h => h))
  have VK19 := hidden (VK18.out.keeps ((Keeps.refl (fun _ => False) w18).alloc (.cells #[.int .i64 2, .int .i64 1, .string ⟨#[]⟩] 30)) (fun h => h))
  go_wp2_with fail
  refine (value_Str kA _).mono ?_
  rintro e w20 ⟨rfl, hK⟩
  have H20 := hidden (H19.out.none hK)
  have V20 := hidden (V19.out.keeps hK (fun h => h))
  have VK20 := hidden (VK19.out.keeps hK (fun h => h))
  have VD20 := hidden (VD.out.keeps hK (fun h => h))
  clear hK
  go_wp2_with fail
  refine (t_Get_none (key := kS kA) H20.out.tab (by decide) (by decide) (fun x h => by simp at h; subst h; decide)).mono ?_
  rintro e w21 ⟨rfl, hK⟩
  have H21 := hidden (H20.out.none hK)
  have V21 := hidden (V20.out.keeps hK (fun h => h))
  have VK21 := hidden (VK20.out.keeps hK (fun h => h))
  have VD21 := hidden (VD20.out.keeps hK (fun h => h))
  have a1 := blk_lt V21.out
  have a2 := blk_lt VK21.out
  have a3 := blk_lt VD21.out
  clear hK
  have HKW := hidden (show Keeps (fun _ => False) w21 (w21.alloc (.cells #[.int .i64 0, .int .i64 0, .string ⟨#[]⟩] 30)) from (Keeps.refl _ w21).alloc _)
  have H22 := hidden (H21.out.none HKW.out)
  have V22 := hidden (V21.out.keeps HKW.out (fun h => h))
  have VK22 := hidden (VK21.out.keeps HKW.out (fun h => h))
  have VD22 := hidden (VD21.out.keeps HKW.out (fun h => h))
  unfold V.null V.val
  go_wp2_with fail
  generalize w21.alloc (.cells #[.int .i64 0, .int .i64 0, .string ⟨#[]⟩] 30) = W at *
  have HS := hidden (fun (W' : World) (hk : Keeps (fun _ => False) W W') => t_Set_none (key := kS kA) (H22.out.tab.none hk) (by decide) (kI 1) (by decide) (fun x h => by simp at h; subst h; decide))
  dsimp only [kI, kS, V.val] at HS
  have HX := hidden (value_Str kA)
  dsimp only [V.val] at HX
  have hz1 := blk_lt V22.out
  have hz2 := blk_lt VK22.out
  have hz3 := blk_lt VD22.out
  have CK := hidden (fun (W' : World) (hk : Keeps (fun _ => False) W W') => (show W'.cell? ⟨w12.heap.size, 0, none⟩ = some (.int .i64 2) ∧ W'.cell? ⟨w12.heap.size, 1, none⟩ = some (.int .i64 1) ∧ W'.cell? ⟨w12.heap.size, 2, none⟩ = some (.string ⟨#[]⟩) ∧ W'.cell? ⟨w14.heap.size, 0, none⟩ = some (.int .i64 3) ∧ W'.cell? ⟨w14.heap.size, 1, none⟩ = some (.int .i64 0) ∧ W'.cell? ⟨w14.heap.size, 2, none⟩ = some (.string kA) ∧ W'.cell? ⟨w18.heap.size, 1, none⟩ = some (.int .i64 1) from
    ⟨(V22.out.keeps hk (fun h => h)).cells.1, (V22.out.keeps hk (fun h => h)).cells.2.1, (V22.out.keeps hk (fun h => h)).cells.2.2.1, (VK22.out.keeps hk (fun h => h)).cells.1, (VK22.out.keeps hk (fun h => h)).cells.2.1, (VK22.out.keeps hk (fun h => h)).cells.2.2.1, (VD22.out.keeps hk (fun h => h)).cells.2.1⟩))
  clear V12 V14 V16 V17 V18 V19 V20 V21 VK VK2 VK17 VK18 VK19 VK20 VK21 VD VD20 VD21 hnF a1 a2 a3 h1214
  generalize w12.heap.size = vb at *
  generalize w14.heap.size = kb at *
  generalize w18.heap.size = db at *
  go_region_held3 (fun W' => W'.cell? ⟨vb, 0, none⟩ = some (.int .i64 2) ∧ W'.cell? ⟨vb, 1, none⟩ = some (.int .i64 1) ∧ W'.cell? ⟨vb, 2, none⟩ = some (.string ⟨#[]⟩) ∧ W'.cell? ⟨kb, 0, none⟩ = some (.int .i64 3) ∧ W'.cell? ⟨kb, 1, none⟩ = some (.int .i64 0) ∧ W'.cell? ⟨kb, 2, none⟩ = some (.string kA) ∧ W'.cell? ⟨db, 1, none⟩ = some (.int .i64 1)) (first | exact CK.out _ (Keeps.refl _ _) | exact CK.out _ ((Keeps.refl _ W).drewN _) | exact CK.out _ KE.out | exact CK.out _ KD.out | exact CK.out _ KC.out | exact CK.out _ KA.out) (first | (go_at_call 37; refine (HX.out _).mono ?_; rintro e wD ⟨rfl, hD⟩; have KD := hidden (KC.out.trans hD (fun _ _ h => h)); clear hD) | (go_at_call 37; refine (HX.out _).mono ?_; rintro e wA ⟨rfl, hA⟩; have KA := hidden (((Keeps.refl (fun _ => False) W).drewN _).trans hA (fun _ _ h => h)); clear hA) | (go_at_call 61; refine (t_Len (H22.out.tab.none KA.out)).mono ?_; rintro e _ ⟨rfl, rfl⟩) | (go_at_call 62; refine (t_Keys (H22.out.tab.none KA.out) (by decide)).mono ?_; rintro e wC ⟨A1, c1, F1, rfl, h1, h2, h3⟩; have KC := hidden (KA.out.trans h2 (fun _ _ h => h)); clear h1 h2 h3) | (go_at_call 63; refine (HS.out _ KD.out).mono ?_; rintro e wE ⟨rfl, hE⟩; have KE := hidden (KD.out.trans hE (fun _ _ h => h)); clear hE))
  all_goals
    go_wp2_with fail
    exact hR.out _ _ ⟨rfl, (H22.out.K.step (fun _ h => h.elim) KE.out).below (Nat.le_refl _) (fun _ h => h)⟩
end Go.Proofs.Ytpaefeknbpfpmaa
