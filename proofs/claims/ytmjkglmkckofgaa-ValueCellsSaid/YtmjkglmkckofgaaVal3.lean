/- Layer 3: dreylaw03.right, tells. -/
import Derived.Test.YtmjkglmkckofgaaValE
import Derived.Test.YtmjkglmkckofgaaVals
namespace Go.Proofs.Ytmjkglmkckofgaa
open Go.RowKit
set_option maxRecDepth 100000

/-- May a value be, and is its text no greater than is tried. -/
def V.ok (v : V) : Bool := decide (v.chk = 0) && decide (v.t.size ≤ 1000)
theorem all_take {α : Type} (p : α → Bool) (l : List α) (k : Nat) (hk : k < l.length) (h : (l.take k).all p = true) : (l.take (k + 1)).all p = p l[k] := by
  rw [List.take_succ_eq_append_getElem hk, List.all_append, h]; simp
theorem all_false {α : Type} {p : α → Bool} {l : List α} {k : Nat} (hk : k < l.length) (h : p l[k] = false) : l.all p = false := by
  rw [List.all_eq_false]; exact ⟨l[k], List.getElem_mem _, by simp [h]⟩
set_option maxHeartbeats 1000000 in
theorem right_any (w : World) (A : Option Addr) (c : Nat) (xs : List V) (h : Vals w A xs) (hl : xs.length ≤ 1099511627776) :
    Calls Try.prog 14 #[.slice A xs.length c] w fun e w' => e = .returned (.bool (xs.all V.ok)) ∧ Keeps (fun _ => False) w w' := by
  have HV := hidden h
  clear h
  refine post_gen fun R hR => ?_
  go_enter Try.func14, Try.ntmps14
  go_wp2_with fail
  go_loopw [7] (fun i wr => ∃ k : Nat, k ≤ xs.length ∧ i = .int .i64 k ∧ Hid ((xs.take k).all V.ok = true) ∧ Keeps (fun _ => False) w wr) (fun i _ => xs.length - (intOf i).toNat)
  case atStart => exact ⟨0, Nat.zero_le _, rfl, hidden (by simp), Keeps.refl _ _⟩
  case round =>
    obtain ⟨k, hk, rfl, HA, hK⟩ := hrel
    have HK := hidden hK
    by_cases hlt : k < xs.length
    · obtain ⟨rb, ro, rfl, h0, h1, h2⟩ := (HV.out.keeps hK (fun _ _ _ _ h => h)) k xs[k] (List.getElem?_eq_getElem hlt)
      have hr := World.block_lt_of_cell? wr _ h0
      have HG := hidden (show xs[k] = xs[k] from rfl)
      have hbad := hidden (fun h => all_false (p := V.ok) hlt h)
      have hgood := hidden (all_take V.ok xs k hlt HA.out)
      have hchk := fun W => value_Check xs[k] W
      clear hK HG
      generalize xs[k] = x at *
      obtain ⟨xk, xn, xt⟩ := x
      unfold V.val at hchk
      by_cases hc : V.chk ⟨xk, xn, xt⟩ = 0
      · rw [hc] at hchk
        have HC := hidden hchk
        by_cases hz : xt.size ≤ 1000
        · have hok : V.ok ⟨xk, xn, xt⟩ = true := by simp [V.ok, hc, hz]
          have HOK := hidden hok
          clear hchk hc hok
          go_wp2_with (go_at_call 11; refine (HC.out _).mono ?_; rintro e w1 ⟨rfl, hK⟩; have HK1 := hidden hK; have d2 := hK.cell (p := ⟨wr.heap.size, 2, none⟩) (v := .string xt) (by rw [blk_cell (blk_new wr _)]; rfl) (fun h => h); have hzz := hK.size; clear hK)
          go_roundw
          case rel => exact ⟨k + 1, hlt, by go_num, hidden (by rw [hgood.out]; exact HOK.out), (HK.out.alloc _).trans HK1.out (fun _ _ h => h)⟩
          case measure => simp [intOf]; omega
        · have hok : V.ok ⟨xk, xn, xt⟩ = false := by simp [V.ok, hz]
          have HOK := hidden hok
          clear hchk hc hok
          go_wp2_with (go_at_call 11; refine (HC.out _).mono ?_; rintro e w1 ⟨rfl, hK⟩; have HK1 := hidden hK; have d2 := hK.cell (p := ⟨wr.heap.size, 2, none⟩) (v := .string xt) (by rw [blk_cell (blk_new wr _)]; rfl) (fun h => h); have hzz := hK.size; clear hK)
          exact hR.out _ _ ⟨by rw [hbad.out HOK.out]; rfl, (HK.out.alloc _).trans HK1.out (fun _ _ h => h)⟩
      · have hok : V.ok ⟨xk, xn, xt⟩ = false := by simp [V.ok, hc]
        have HOK := hidden hok
        have j1 : (V.chk ⟨xk, xn, xt⟩ == 0) = false := by simpa using hc
        have j2 : (V.chk ⟨xk, xn, xt⟩ != 0) = true := by simpa using hc
        generalize V.chk ⟨xk, xn, xt⟩ = ch at *
        have HC := hidden hchk
        clear hchk hc hok
        go_wp2_with (go_at_call 11; refine (HC.out _).mono ?_; rintro e w1 ⟨rfl, hK⟩; have HK1 := hidden hK; clear hK)
        exact hR.out _ _ ⟨by rw [hbad.out HOK.out]; rfl, (HK.out.alloc _).trans HK1.out (fun _ _ h => h)⟩
    · obtain rfl : k = xs.length := by omega
      have := HA.out
      rw [List.take_length] at this
      have HT := hidden this
      clear this
      go_wp2_with fail
      exact hR.out _ _ ⟨by rw [HT.out]; rfl, HK.out⟩
theorem dec_one (m : Nat) (h : m < 10) (acc : List UInt8) : dec m acc = UInt8.ofNat (48 + m % 10) :: acc := by rw [dec, if_pos h]
set_option maxHeartbeats 2000000 in
theorem tells_true (w : World) : Calls Try.prog 10 #[] w fun e w' => e = .returned (.bool true) ∧ Keeps (fun _ => False) w w' := by
  have t7 : mkS (textI (-7)) = ⟨#[45, 55]⟩ := by rw [textI, if_pos (by decide), dec_one _ (by decide)]; rfl
  have t1 : mkS (textI 1) = ⟨#[49]⟩ := by rw [textI, if_neg (by decide), dec_one _ (by decide)]; rfl
  have x7 : V.txt ⟨2, -7, ⟨#[]⟩⟩ = (⟨#[45, 55]⟩, 0) := by simp [V.txt, t7]
  have x1 : V.txt ⟨2, 1, ⟨#[]⟩⟩ = (⟨#[49]⟩, 0) := by simp [V.txt, t1]
  have a1 : V.add ⟨3, 0, ⟨#[97]⟩⟩ ⟨2, 1, ⟨#[]⟩⟩ = (⟨3, 0, ⟨#[97, 49]⟩⟩, 0) := by
    have x3 : V.txt ⟨3, 0, ⟨#[97]⟩⟩ = (⟨#[97]⟩, 0) := rfl
    rw [V.add, if_neg (by simp), if_neg (by simp), x3, x1, if_neg (by simp), if_neg (by decide)]
    rfl
  have hx1 : (V.txt ⟨2, 1, ⟨#[]⟩⟩).1.size ≤ 140737488351232 := by rw [x1]; decide
  have kT := hidden (fun W => value_Text ⟨2, -7, ⟨#[]⟩⟩ W (by decide))
  have kA := hidden (fun W => value_Add ⟨3, 0, ⟨#[97]⟩⟩ ⟨2, 1, ⟨#[]⟩⟩ W (by decide) (by decide) (by decide) hx1)
  rw [x7] at kT
  rw [a1] at kA
  have X1 := hidden x1
  clear t7 t1 x7 x1 a1 hx1
  refine post_gen fun R hR => ?_
  go_enter Try.func10, Try.ntmps10
  go_wp2_with fail
  refine (value_Int (-7) _).mono ?_
  rintro e w1 ⟨rfl, hK⟩
  have HK1 := hidden hK
  clear hK
  go_wp2_with fail
  refine (kT.out _).mono ?_
  rintro e w2 ⟨rfl, hK⟩
  have HK2 := hidden (HK1.out.trans hK (fun _ _ h => h))
  clear hK HK1
  go_wp2_with fail
  refine (value_Str _ _).mono ?_
  rintro e w3 ⟨rfl, hK⟩
  have HK3 := hidden (HK2.out.trans hK (fun _ _ h => h))
  clear hK HK2
  go_wp2_with fail
  refine (value_Source ⟨3, 0, ⟨#[97, 10]⟩⟩ _ (by decide) (by decide)).mono ?_
  rintro e w4 ⟨rfl, hK⟩
  have HK4 := hidden (HK3.out.trans hK (fun _ _ h => h))
  clear hK HK3
  rw [show V.src ⟨3, 0, ⟨#[97, 10]⟩⟩ = (⟨#[34, 97, 92, 110, 34]⟩, 0) from by decide]
  go_wp2_with fail
  refine (value_Str _ _).mono ?_
  rintro e w5 ⟨rfl, hK⟩
  have HK5 := hidden (HK4.out.trans hK (fun _ _ h => h))
  clear hK HK4
  go_wp2_with fail
  refine (value_Number ⟨3, 0, ⟨#[49, 50]⟩⟩ _ (by decide)).mono ?_
  rintro e w6 ⟨rfl, hK⟩
  have HK6 := hidden (HK5.out.trans hK (fun _ _ h => h))
  clear hK HK5
  rw [show V.num ⟨3, 0, ⟨#[49, 50]⟩⟩ = (12, 0) from by decide +kernel]
  go_wp2_with fail
  refine (value_Null _).mono ?_
  rintro e w7 ⟨rfl, hK⟩
  have HK7 := hidden (HK6.out.trans hK (fun _ _ h => h))
  clear hK HK6
  go_wp2_with fail
  refine (value_Int _ _).mono ?_
  rintro e w8 ⟨rfl, hK⟩
  have HK8 := hidden (HK7.out.trans hK (fun _ _ h => h))
  clear hK HK7
  go_wp2_with fail
  refine (value_Compare V.null ⟨2, 0, ⟨#[]⟩⟩ _ (by decide) (by decide)).mono ?_
  rintro e w9 ⟨rfl, hK⟩
  have HK9 := hidden (HK8.out.trans hK (fun _ _ h => h))
  clear hK HK8
  rw [show V.cmp V.null ⟨2, 0, ⟨#[]⟩⟩ = (-1, 0) from by decide]
  go_wp2_with fail
  refine (value_Str _ _).mono ?_
  rintro e w10 ⟨rfl, hK⟩
  have HK10 := hidden (HK9.out.trans hK (fun _ _ h => h))
  clear hK HK9
  go_wp2_with fail
  refine (value_Int _ _).mono ?_
  rintro e w11 ⟨rfl, hK⟩
  have HK11 := hidden (HK10.out.trans hK (fun _ _ h => h))
  clear hK HK10
  go_wp2_with fail
  refine (kA.out _).mono ?_
  rintro e w12 ⟨rfl, hK⟩
  have HK12 := hidden (HK11.out.trans hK (fun _ _ h => h))
  clear hK HK11
  unfold V.val
  go_wp2_with fail
  have HX := hidden (show IsVar (w12.alloc (.cells #[.int .i64 3, .int .i64 0, .string ⟨#[97, 49]⟩] 23)) w12.heap.size ⟨3, 0, ⟨#[97, 49]⟩⟩ from blk_new _ _)
  refine (value_Int _ _).mono ?_
  rintro e w13 ⟨rfl, hK⟩
  have HK13 := hidden ((HK12.out.alloc _).trans hK (fun _ _ h => h))
  have HX13 := hidden (show IsVar w13 w12.heap.size ⟨3, 0, ⟨#[97, 49]⟩⟩ from hK.heap HX.out (fun h => h))
  clear hK HK12 HX
  unfold V.val
  go_wp2_with fail
  refine (value_Int _ _).mono ?_
  rintro e w14 ⟨rfl, hK⟩
  have HK14 := hidden (HK13.out.trans hK (fun _ _ h => h))
  have HX14 := hidden (show IsVar w14 w12.heap.size ⟨3, 0, ⟨#[97, 49]⟩⟩ from hK.heap HX13.out (fun h => h))
  clear hK HK13 HX13
  unfold V.val
  go_wp2_with fail
  refine (value_Reckon 1 ⟨2, 3, ⟨#[]⟩⟩ ⟨2, 4, ⟨#[]⟩⟩ _).mono ?_
  rintro e w15 ⟨rfl, hK⟩
  have HK15 := hidden (HK14.out.trans hK (fun _ _ h => h))
  have HX15 := hidden (show IsVar w15 w12.heap.size ⟨3, 0, ⟨#[97, 49]⟩⟩ from hK.heap HX14.out (fun h => h))
  clear hK HK14 HX14
  rw [show V.rek 1 ⟨2, 3, ⟨#[]⟩⟩ ⟨2, 4, ⟨#[]⟩⟩ = (⟨2, 12, ⟨#[]⟩⟩, 0) from by decide +kernel]
  unfold V.val
  have hx12 : w12.heap.size < w15.heap.size := blk_lt HX15.out
  obtain ⟨x0, x1, x2, -⟩ := HX15.out.cells
  simp only at x0 x1 x2
  go_wp2_with fail
  clear x0 x1 x2 hx12 HX15
  refine (value_Str _ _).mono ?_
  rintro e w16 ⟨rfl, hK⟩
  have HK16 := hidden ((HK15.out.alloc _).trans hK (fun _ _ h => h))
  clear hK HK15
  unfold V.val
  go_wp2_with fail
  refine (value_True ⟨3, 0, ⟨#[]⟩⟩ _).mono ?_
  rintro e w17 ⟨rfl, hK⟩
  have HK17 := hidden ((HK16.out).trans hK (fun _ _ h => h))
  clear hK HK16
  rw [show V.tru ⟨3, 0, ⟨#[]⟩⟩ = true from by decide]
  go_wp2_with fail
  refine (value_Int _ _).mono ?_
  rintro e w18 ⟨rfl, hK⟩
  have HK18 := hidden ((HK17.out).trans hK (fun _ _ h => h))
  clear hK HK17
  unfold V.val
  go_wp2_with fail
  refine (value_True ⟨2, 0, ⟨#[]⟩⟩ _).mono ?_
  rintro e w19 ⟨rfl, hK⟩
  have HK19 := hidden ((HK18.out).trans hK (fun _ _ h => h))
  clear hK HK18
  rw [show V.tru ⟨2, 0, ⟨#[]⟩⟩ = false from by decide]
  go_wp2_with fail
  refine (value_Bool true _).mono ?_
  rintro e w20 ⟨rfl, hK⟩
  have HK20 := hidden ((HK19.out).trans hK (fun _ _ h => h))
  clear hK HK19
  unfold V.val
  go_wp2_with fail
  refine (value_Type ⟨1, 1, ⟨#[]⟩⟩ _).mono ?_
  rintro e w21 ⟨rfl, hK⟩
  have HK21 := hidden ((HK20.out).trans hK (fun _ _ h => h))
  clear hK HK20
  rw [show V.typ ⟨1, 1, ⟨#[]⟩⟩ = ⟨#[98, 111, 111, 108]⟩ from by decide]
  go_wp2_with fail
  refine (value_Ref _ _).mono ?_
  rintro e w22 ⟨rfl, hK⟩
  have HK22 := hidden ((HK21.out).trans hK (fun _ _ h => h))
  clear hK HK21
  unfold V.val
  go_wp2_with fail
  refine (value_Null _).mono ?_
  rintro e w23 ⟨rfl, hK⟩
  have HK23 := hidden ((HK22.out).trans hK (fun _ _ h => h))
  clear hK HK22
  unfold V.val V.null
  go_wp2_with fail
  refine (value_Cells _ _ 2 [⟨4, 3, ⟨#[]⟩⟩, V.null] (Vals.lit w23 [⟨4, 3, ⟨#[]⟩⟩, V.null] _ rfl) (by decide)).mono ?_
  rintro e w24 ⟨A, c, F, rfl, hRow, hin, hK, hF⟩
  have HK24 := hidden ((HK23.out.alloc _).trans hK (fun _ _ h => h))
  rw [show (cellNums [⟨4, 3, ⟨#[]⟩⟩, V.null]).length = 1 from by decide]
  clear hRow hin hK hF HK23
  go_wp2_with fail
  refine (value_Null _).mono ?_
  rintro e w25 ⟨rfl, hK⟩
  have HK25 := hidden (HK24.out.trans hK (fun _ _ h => h))
  clear hK HK24
  unfold V.val V.null
  go_wp2_with fail
  refine (value_Check V.null _).mono ?_
  rintro e w26 ⟨rfl, hK⟩
  have HK26 := hidden (HK25.out.trans hK (fun _ _ h => h))
  clear hK HK25
  rw [show V.chk V.null = 0 from by simp [V.chk, V.null, Lib.toList_data]]
  go_wp2_with fail
  exact hR.out _ _ ⟨rfl, HK26.out⟩

theorem box2 (w : World) (k n k2 n2 : Int) (t t2 : ByteArray) :
    let W := (w.alloc (.cells #[.int .i64 k, .int .i64 n, .string t] 23)).alloc (.cells #[.int .i64 k2, .int .i64 n2, .string t2] 23)
    IsVar W w.heap.size ⟨k, n, t⟩ ∧ IsVar W (w.heap.size + 1) ⟨k2, n2, t2⟩ ∧ Keeps (fun _ => False) w W := by
  intro W
  refine ⟨blk_alloc (blk_new w _) _, ?_, ((Keeps.refl _ w).alloc _).alloc _⟩
  have h := blk_new (w.alloc (.cells #[.int .i64 k, .int .i64 n, .string t] 23)) (.cells #[.int .i64 k2, .int .i64 n2, .string t2] 23)
  rw [show (w.alloc (.cells #[.int .i64 k, .int .i64 n, .string t] 23)).heap.size = w.heap.size + 1 by simp] at h
  exact h
theorem ok_is {v : V} (h : v.ok = true) : v.t.size ≤ 1000 ∧ 0 ≤ v.k ∧ v.k ≤ 4 ∧ (v.k ≠ 3 → v.t = ⟨#[]⟩) ∧ (v.k = 0 ∨ v.k = 3 → v.n = 0) ∧ (v.k = 1 → v.n = 0 ∨ v.n = 1) ∧ (v.k = 4 → 0 ≤ v.n) := by
  simp only [V.ok, Bool.and_eq_true, decide_eq_true_eq] at h
  obtain ⟨h1, h2⟩ := h
  unfold V.chk at h1
  by_cases c1 : v.k < 0 ∨ 4 < v.k
  · rw [if_pos c1] at h1; exact absurd h1 (by decide)
  rw [if_neg c1] at h1
  by_cases c2 : (v.k ≠ 3 ∧ v.t.toList ≠ []) ∨ ((v.k = 0 ∨ v.k = 3) ∧ v.n ≠ 0) ∨ (v.k = 1 ∧ v.n ≠ 0 ∧ v.n ≠ 1) ∨ (v.k = 4 ∧ v.n < 0)
  · rw [if_pos c2] at h1; exact absurd h1 (by decide)
  refine ⟨h2, by omega, by omega, fun h3 => ?_, fun h3 => ?_, fun h3 => ?_, fun h3 => ?_⟩
  · have h4 : v.t.toList = [] := Classical.byContradiction fun h5 => c2 (.inl ⟨h3, h5⟩)
    rw [Lib.toList_data] at h4
    exact ByteArray.ext (Array.ext' h4)
  · exact Classical.byContradiction fun h5 => c2 (.inr (.inl ⟨h3, h5⟩))
  · exact Classical.byContradiction fun h5 => c2 (.inr (.inr (.inl ⟨h3, by omega, by omega⟩)))
  · exact Classical.byContradiction fun h5 => c2 (.inr (.inr (.inr ⟨h3, by omega⟩)))
theorem dec_len (d : Nat) : ∀ (m : Nat) (acc : List UInt8), m < 10 ^ (d + 1) → (dec m acc).length ≤ acc.length + d + 1 := by
  induction d with
  | zero =>
    intro m acc h
    rw [dec, if_pos (by simpa using h)]
    simp
  | succ d ih =>
    intro m acc h
    rw [dec]
    split
    · simp only [List.length_cons]; omega
    · have h2 : m / 10 < 10 ^ (d + 1) := by
        rw [Nat.pow_succ 10 (d + 1)] at h
        exact Nat.div_lt_of_lt_mul (by omega)
      have := ih (m / 10) (UInt8.ofNat (48 + m % 10) :: acc) h2
      simp only [List.length_cons] at this
      omega
theorem textI_len (x : Int) (h1 : -9223372036854775808 ≤ x) (h2 : x ≤ 9223372036854775807) : (textI x).length ≤ 21 := by
  have := dec_len 19 x.natAbs [] (by simp; omega)
  unfold textI
  split
  · simp at this ⊢; omega
  · simp at this ⊢; omega
theorem txt_size {v : V} (h : v.ok = true) (h1 : -9223372036854775808 ≤ v.n ∧ v.n ≤ 9223372036854775807) : v.txt.1.size ≤ 1000 := by
  have ho := (ok_is h).1
  unfold V.txt
  split
  · decide
  · split
    · simp only; split <;> decide
    · split
      · have := textI_len v.n h1.1 h1.2
        show (mkS (textI v.n)).size ≤ 1000
        rw [mkS_size]; omega
      · split
        · exact ho
        · decide
end Go.Proofs.Ytmjkglmkckofgaa
