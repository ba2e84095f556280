/- Texts that belong together: SKP SKA SKB SKC SKD SKE SKF. -/
import Derived.Test.YtfdfjogoiagnkaaZp3
set_option linter.unusedSimpArgs false
set_option linter.unusedVariables false
namespace Go.Proofs.Ytfdfjogoiagnkaa
open Go.RowKit
set_option maxRecDepth 100000
set_option linter.unusedSimpArgs false
set_option linter.unusedVariables false

def KC (ok kk kn : Int) (kt : ByteArray) : Prop := (ok = 0 ∧ kk = 2 ∧ ∃ m : Nat, m < 2 ∧ kn = m) ∨ (ok = 1 ∧ kk = 2 ∧ kn < 0) ∨ (ok = 2 ∧ kk = 2 ∧ 1 < kn) ∨ (ok = 3 ∧ kk ≠ 2 ∧ kk ≠ 3) ∨ (ok = 4 ∧ kk = 3 ∧ kn = 0 ∧ kt = ⟨#[109]⟩) ∨ (ok = 5 ∧ kk = 3 ∧ kn = 0 ∧ kt = ⟨#[110]⟩) ∨ (ok = 6 ∧ kk = 3 ∧ kn = 0 ∧ kt ≠ ⟨#[109]⟩ ∧ kt ≠ ⟨#[110]⟩)
theorem KC.all {kk kn : Int} {kt : ByteArray} (hchk : V.chk ⟨kk, kn, kt⟩ = 0) : ∃ ok, KC ok kk kn kt := by
  by_cases h2 : kk = 2
  · subst h2
    by_cases h0 : kn < 0
    · exact ⟨1, .inr (.inl ⟨rfl, rfl, h0⟩)⟩
    by_cases h1 : 1 < kn
    · exact ⟨2, .inr (.inr (.inl ⟨rfl, rfl, h1⟩))⟩
    exact ⟨0, .inl ⟨rfl, rfl, kn.toNat, by omega, by omega⟩⟩
  by_cases h3 : kk = 3
  · subst h3
    obtain rfl : kn = 0 := by
      by_cases h : kn = 0
      · exact h
      · exfalso; simp [V.chk, h] at hchk
    by_cases hm : kt = ⟨#[109]⟩
    · exact ⟨4, .inr (.inr (.inr (.inr (.inl ⟨rfl, rfl, rfl, hm⟩))))⟩
    by_cases hn : kt = ⟨#[110]⟩
    · exact ⟨5, .inr (.inr (.inr (.inr (.inr (.inl ⟨rfl, rfl, rfl, hn⟩)))))⟩
    exact ⟨6, .inr (.inr (.inr (.inr (.inr (.inr ⟨rfl, rfl, rfl, hm, hn⟩)))))⟩
  exact ⟨3, .inr (.inr (.inr (.inl ⟨rfl, h2, h3⟩)))⟩
section
variable {kk kn : Int} {kt : ByteArray}
theorem KC.a (h : KC 0 kk kn kt) : kk = 2 ∧ ∃ m : Nat, m < 2 ∧ kn = m := by rcases h with h | h | h | h | h | h | h <;> first | exact h.2 | exact absurd h.1 (by decide)
theorem KC.b (h : KC 1 kk kn kt) : kk = 2 ∧ kn < 0 := by rcases h with h | h | h | h | h | h | h <;> first | exact absurd h.1 (by decide) | exact h.2
theorem KC.g (h : KC 2 kk kn kt) : kk = 2 ∧ 1 < kn := by rcases h with h | h | h | h | h | h | h <;> first | exact absurd h.1 (by decide) | exact h.2
theorem KC.c (h : KC 3 kk kn kt) : kk ≠ 2 ∧ kk ≠ 3 := by rcases h with h | h | h | h | h | h | h <;> first | exact absurd h.1 (by decide) | exact h.2
theorem KC.d (h : KC 4 kk kn kt) : kk = 3 ∧ kn = 0 ∧ kt = ⟨#[109]⟩ := by rcases h with h | h | h | h | h | h | h <;> first | exact absurd h.1 (by decide) | exact h.2
theorem KC.e (h : KC 5 kk kn kt) : kk = 3 ∧ kn = 0 ∧ kt = ⟨#[110]⟩ := by rcases h with h | h | h | h | h | h | h <;> first | exact absurd h.1 (by decide) | exact h.2
theorem KC.f (h : KC 6 kk kn kt) : kk = 3 ∧ kn = 0 ∧ kt ≠ ⟨#[109]⟩ ∧ kt ≠ ⟨#[110]⟩ := by rcases h with h | h | h | h | h | h | h <;> first | exact absurd h.1 (by decide) | exact h.2
theorem KC.in (ok : Int) (h : KC ok kk kn kt) (hno : ok ≠ 0 ∧ ok ≠ 1 ∧ ok ≠ 2 ∧ ok ≠ 3 ∧ ok ≠ 4 ∧ ok ≠ 5 ∧ ok ≠ 6) : False := by unfold KC at h; omega
end
set_option maxHeartbeats 32000000 in
noncomputable def sk_pre : PSigma (fun PP : Int → Prop => (∀ ok, PP ok) → ∀ (w : World) (kk kn : Int) (kt st : ByteArray) (at' : Int) (hst : ¬ (200 : Int) < st.size) (hkz : ¬ (200 : Int) < kt.size) (hchk : V.chk ⟨kk, kn, kt⟩ = 0) (rk rn re : Int) (hoct : ∀ W : World, Calls Try.prog 68 #[.string st, V.val ⟨2, at', ⟨#[]⟩⟩] W fun e w' => e = .returned (.tuple #[V.val ⟨rk, rn, ⟨#[]⟩⟩, .int .i64 re]) ∧ Keeps (fun _ => False) W w') (hans : (∃ mm : Nat, at' = mm ∧ ∃ h : mm < st.size, rk = 2 ∧ rn = (st[mm].toNat : Int) ∧ re = 0) ∨ (at' < 0 ∧ rk = 0 ∧ rn = 0 ∧ re = 1) ∨ (¬ at' < 0 ∧ (st.size : Int) ≤ at' ∧ rk = 0 ∧ rn = 0 ∧ re = 1)) (ok : Int) (hok : KC ok kk kn kt),
    Calls Try.prog 9 #[V.val ⟨kk, kn, kt⟩, .string st, .int .i64 at'] w fun e w' => e = .returned (.bool true) ∧ Below w.heap.size w w') := by
  refine ⟨?PP, fun leaf w kk kn kt st at' hst hkz hchk rk rn re hoct hans ok hok => ?_⟩
  rotate_left
  · unfold V.val
    have hwk0 := hidden (show IsVar (w.alloc (.cells #[.int .i64 kk, .int .i64 kn, .string kt] 26)) w.heap.size ⟨kk, kn, kt⟩ from IsVar.new w ⟨kk, kn, kt⟩)
    have hkk0 := hidden (show Keeps (fun k => w.heap.size ≤ k) w (w.alloc (.cells #[.int .i64 kk, .int .i64 kn, .string kt] 26)) from (Keeps.refl _ w).alloc _)
    refine post_gen fun R hR => ?_
    go_enter Try.func9, Try.ntmps9
    (try go_wp2_with fail)
    generalize hw0 : w.alloc (.cells #[.int .i64 kk, .int .i64 kn, .string kt] 26) = w0 at *
    clear hw0
    refine (stands_true w0).mono ?_
    rintro e w1 ⟨rfl, hB⟩
    have hkv := hidden (show IsVar w1 w.heap.size ⟨kk, kn, kt⟩ from hwk0.out.keeps (Keeps.of_below hB) (fun h => by have := blk_lt hwk0.out; omega))
    have hkb := hidden (show Keeps (fun k => w.heap.size ≤ k) w w1 from hkk0.out.trans (Keeps.of_below hB) (fun k _ h => Nat.le_trans hkk0.out.size h))
    clear hB hwk0 hkk0
    obtain ⟨q0, q1, q2, -⟩ := hkv.out.cells
    have qz := blk_lt hkv.out
    (try dsimp only at q0 q1 q2)
    (try go_wp2_with fail)
    have CK := hidden (value_Check ⟨kk, kn, kt⟩ w1)
    rw [hchk] at CK
    unfold V.val at CK
    refine CK.out.mono ?_
    rintro e w2 ⟨rfl, hK⟩
    have hkv2 := hidden (hkv.out.keeps hK (fun h => h))
    have hkb2 := hidden (hkb.out.trans hK (fun _ _ h => h.elim))
    clear hK CK hkv hkb q0 q1 q2 qz
    obtain ⟨q0, q1, q2, -⟩ := hkv2.out.cells
    have qz := blk_lt hkv2.out
    (try dsimp only at q0 q1 q2)
    (try go_wp2_with fail)
    clear q0 q1 q2 qz
    refine (heap_New w2 50).mono ?_
    rintro e w4 ⟨hb, F0, rfl, hH, hK, hF⟩
    have H5 := hidden (show Hd w hb F0 [] ⟨[], 0, 50, 0, 0⟩ w4 from ⟨hH, HOk.new 50, fun k h => (hF k h).elim (fun h => h.elim) (fun h => Nat.le_trans hkb2.out.size h), hkb2.out.trans hK (fun _ _ h => h.elim)⟩)
    have V6 := hidden (show Vr F0 w4 w.heap.size ⟨kk, kn, kt⟩ from ⟨hkv2.out.keeps hK (fun h => h), fun h => (hF _ h).elim (fun h => h.elim) (fun h => Nat.lt_irrefl _ (Nat.lt_of_lt_of_le (blk_lt hkv2.out) h))⟩)
    clear hH hK hF hkb2 hkv2
    have C7 := hidden (value_Int 5 w4)
    (try unfold V.val at C7)
    (try unfold V.null at C7)
    (try dsimp only [rV, iV] at C7)
    (try go_wp2_with fail)
    refine C7.out.mono ?_
    rintro e w8 ⟨rfl, hK⟩
    have H9 := hidden (H5.out.calm hK)
    have V10 := hidden (V6.out.calm hK)
    clear C7 hK H5 V6
    have C11 := hidden (value_Int 6 w8)
    (try unfold V.val at C11)
    (try unfold V.null at C11)
    (try dsimp only [rV, iV] at C11)
    (try go_wp2_with fail)
    refine C11.out.mono ?_
    rintro e w12 ⟨rfl, hK⟩
    have H13 := hidden (H9.out.calm hK)
    have V14 := hidden (V10.out.calm hK)
    clear C11 hK H9 V10
    (try go_wp2_with fail)
    have K15 := (Keeps.refl (fun _ => False) w12).alloc (.cells #[.int .i64 2, .int .i64 5, .string ⟨#[]⟩, .int .i64 2, .int .i64 6, .string ⟨#[]⟩] 26)
    have VL0 := hidden (show Vals (w12.alloc (.cells #[.int .i64 2, .int .i64 5, .string ⟨#[]⟩, .int .i64 2, .int .i64 6, .string ⟨#[]⟩] 26)) (some ⟨w12.heap.size, 0, none⟩) [⟨2, 5, ⟨#[]⟩⟩, ⟨2, 6, ⟨#[]⟩⟩] from Vals.lit w12 [⟨2, 5, ⟨#[]⟩⟩, ⟨2, 6, ⟨#[]⟩⟩] _ rfl)
    have H17 := hidden (H13.out.calm K15)
    have V18 := hidden (V14.out.calm K15)
    clear K15 H13 V14
    generalize w12.heap.size = vb19 at *
    generalize w12.alloc (.cells #[.int .i64 2, .int .i64 5, .string ⟨#[]⟩, .int .i64 2, .int .i64 6, .string ⟨#[]⟩] 26) = w16 at *
    have C20 := hidden (heap_NewArray_ok _ _ _ _ _ (some ⟨vb19, 0, none⟩) 2 [⟨2, 5, ⟨#[]⟩⟩, ⟨2, 6, ⟨#[]⟩⟩] H17.out.heap H17.out.ok VL0.out (by simp) (fun h => (Option.some_ne_none _ h).elim) (by decide))
    clear VL0
    dsimp only [List.length_cons, List.length_nil] at C20
    (try unfold V.val at C20)
    (try unfold V.null at C20)
    (try dsimp only [rV, iV] at C20)
    (try go_wp2_with fail)
    refine C20.out.mono ?_
    rintro e w21 ⟨l, pl, lb, F22, HH23, st24, rfl, hM⟩
    have N25 := hidden (show HH23[l]? = some (some (pl, arrayCl lb [⟨2, 5, ⟨#[]⟩⟩, ⟨2, 6, ⟨#[]⟩⟩])) from hM.new.at_)
    have S26 := hidden (show st24.live = 1 ∧ st24.limit = 50 from ⟨by rw [hM.live]; decide, by rw [hM.limit]⟩)
    have H27 := hidden (H17.out.made hM (fun k h => h.elim))
    have V28 := hidden (V18.out.step hM.keeps hM.fr)
    clear C20 hM H17 V18
    (try go_wp2_with fail)
    have V32 := hidden (show Vr F22 (w21.alloc (.cells #[.int .i64 4, .int .i64 l, .string ⟨#[]⟩] 26)) w21.heap.size ⟨4, l, ⟨#[]⟩⟩ from Vr.new ⟨4, l, ⟨#[]⟩⟩ H27.out.heap.inw)
    have SZ33 := hidden (show (w21.alloc (.cells #[.int .i64 4, .int .i64 l, .string ⟨#[]⟩] 26)).heap.size = w21.heap.size + 1 from by simp)
    have GE34 := hidden (show w.heap.size ≤ w21.heap.size from H27.out.K.size)
    have K29 := (Keeps.refl (fun _ => False) w21).alloc (.cells #[.int .i64 4, .int .i64 l, .string ⟨#[]⟩] 26)
    have H35 := hidden (H27.out.calm K29)
    have V36 := hidden (V28.out.calm K29)
    clear K29 H27 V28
    generalize w21.heap.size = v30 at *
    generalize w21.alloc (.cells #[.int .i64 4, .int .i64 l, .string ⟨#[]⟩] 26) = w31 at *
    have C37 := hidden (value_Null w31)
    (try unfold V.val at C37)
    (try unfold V.null at C37)
    (try dsimp only [rV, iV] at C37)
    (try go_wp2_with fail)
    refine C37.out.mono ?_
    rintro e w38 ⟨rfl, hK⟩
    have H39 := hidden (H35.out.calm hK)
    have V40 := hidden (V36.out.calm hK)
    have V41 := hidden (V32.out.calm hK)
    clear C37 hK H35 V36 V32
    have C42 := hidden (lay_New_null H39.out.heap H39.out.ok (by rw [S26.out.1, S26.out.2]; decide))
    (try unfold V.val at C42)
    (try unfold V.null at C42)
    (try dsimp only [rV, iV] at C42)
    (try go_wp2_with fail)
    refine C42.out.mono ?_
    rintro e w43 ⟨c, pc, tc, F44, HH45, st46, rfl, hM⟩
    have N47 := hidden (hM.new.old N25.out)
    have E48 := hidden (hM.new.ne N25.out)
    have N49 := hidden (show HH45[c]? = some (some (pc, classCl tc [] 0 V.null)) from hM.new.at_)
    have S50 := hidden (show st46.live = 2 ∧ st46.limit = 50 from ⟨by rw [hM.live, S26.out.1]; decide, by rw [hM.limit, S26.out.2]⟩)
    have H51 := hidden (H39.out.made hM (fun k h => h.elim))
    have V52 := hidden (V40.out.step hM.keeps hM.fr)
    have V53 := hidden (V41.out.step hM.keeps hM.fr)
    clear C42 hM N25 S26 H39 V40 V41
    (try go_wp2_with fail)
    have V57 := hidden (show Vr F44 (w43.alloc (.cells #[.int .i64 4, .int .i64 c, .string ⟨#[]⟩] 26)) w43.heap.size ⟨4, c, ⟨#[]⟩⟩ from Vr.new ⟨4, c, ⟨#[]⟩⟩ H51.out.heap.inw)
    have SZ58 := hidden (show (w43.alloc (.cells #[.int .i64 4, .int .i64 c, .string ⟨#[]⟩] 26)).heap.size = w43.heap.size + 1 from by simp)
    have GE59 := hidden (show w.heap.size ≤ w43.heap.size from H51.out.K.size)
    have K54 := (Keeps.refl (fun _ => False) w43).alloc (.cells #[.int .i64 4, .int .i64 c, .string ⟨#[]⟩] 26)
    have H60 := hidden (H51.out.calm K54)
    have V61 := hidden (V52.out.calm K54)
    have V62 := hidden (V53.out.calm K54)
    clear K54 H51 V52 V53
    generalize w43.heap.size = v55 at *
    generalize w43.alloc (.cells #[.int .i64 4, .int .i64 c, .string ⟨#[]⟩] 26) = w56 at *
    have SK63 := hidden (fun (W : World) (hk : Keeps (fun _ => False) w56 W) => show W.cell? ⟨v55, 0, none⟩ = some (.int .i64 4) ∧ W.cell? ⟨v55, 1, none⟩ = some (.int .i64 c) ∧ W.cell? ⟨v55, 2, none⟩ = some (.string ⟨#[]⟩) from (by have c0 := (V57.out.calm hk).cells; exact ⟨c0.1, c0.2.1, c0.2.2.1⟩))
    refine wp_region_noPanic ?_
    refine wp_region_held_drew (S := (fun W => W.cell? ⟨v55, 0, none⟩ = some (.int .i64 4) ∧ W.cell? ⟨v55, 1, none⟩ = some (.int .i64 c) ∧ W.cell? ⟨v55, 2, none⟩ = some (.string ⟨#[]⟩))) (by kernel_rfl) ?_ (fun hHeld => ?_)
    · ((try dsimp only); (first | done | exact SK63.out _ ((Keeps.refl _ w56).drew)))
    have KD64 := (Keeps.refl (fun _ => False) w56).drew
    have H66 := hidden (H60.out.calm KD64)
    have V67 := hidden (V61.out.calm KD64)
    have V68 := hidden (V62.out.calm KD64)
    have V69 := hidden (V57.out.calm KD64)
    clear KD64 H60 V61 V62 V57
    generalize w56.drew = w65 at *
    clear SK63
    refine wpAnyH_take (i := 0) (oi := ⟨_, _, _, _, _, _⟩) (v := ?_) rfl (by kernel_rfl) (by kernel_rfl) (by kernel_rfl) (fun _ _ _ h => h) (Or.inl ⟨by rfl, ?_⟩) hHeld ?_
    rotate_left
    · (intro w' hSw; (try dsimp only at hSw); go_simp; (try with_reducible rfl))
    try simp only [Act.put, List.setIfInBounds_toArray, List.set_cons_zero, List.set_cons_succ]
    refine wpAnyH_take (i := 1) (oi := ⟨_, _, _, _, _, _⟩) (v := ?_) rfl (by kernel_rfl) (by kernel_rfl) (by kernel_rfl) (fun _ _ _ h => h) (Or.inl ⟨by rfl, ?_⟩) hHeld ?_
    rotate_left
    · (intro w' hSw; (try dsimp only at hSw); go_simp; (try with_reducible rfl))
    try simp only [Act.put, List.setIfInBounds_toArray, List.set_cons_zero, List.set_cons_succ]
    refine wpAnyH_ready (rs := [2]) (by kernel_rfl) (by simp) ?_
    refine AllReadyH.cons (o := ⟨_, _, _, _, _, _⟩) rfl (fun K hK => ?_) AllReadyH.nil
    go_simp
    have C70 := hidden (value_Str ⟨#[109]⟩ w65)
    (try unfold V.val at C70)
    (try unfold V.null at C70)
    (try dsimp only [rV, iV] at C70)
    (first | (go_at_call 34; refine C70.out.mono ?_))
    rintro e w71 ⟨rfl, hK1⟩
    have H72 := hidden (H66.out.calm hK1)
    have V73 := hidden (V67.out.calm hK1)
    have V74 := hidden (V68.out.calm hK1)
    have V75 := hidden (V69.out.calm hK1)
    clear C70 hK1 H66 V67 V68 V69
    (try go_wp2_with fail)
    refine hK.out _ _ ?_ (fun hH2 => ?_)
    · ((try dsimp only); (first | done | exact (by have c0 := (V75.out).cells; exact ⟨c0.1, c0.2.1, c0.2.2.1⟩)))
    clear hK K hHeld
    have hHeld := hH2
    clear hH2
    try simp only [Act.put, List.setIfInBounds_toArray, List.set_cons_zero, List.set_cons_succ]
    refine wpAnyH_ready (rs := [3]) (by kernel_rfl) (by simp) ?_
    refine AllReadyH.cons (o := ⟨_, _, _, _, _, _⟩) rfl (fun K hK => ?_) AllReadyH.nil
    go_simp
    have C76 := hidden (value_Int 7 w71)
    (try unfold V.val at C76)
    (try unfold V.null at C76)
    (try dsimp only [rV, iV] at C76)
    (first | (go_at_call 17; refine C76.out.mono ?_))
    rintro e w77 ⟨rfl, hK1⟩
    have H78 := hidden (H72.out.calm hK1)
    have V79 := hidden (V73.out.calm hK1)
    have V80 := hidden (V74.out.calm hK1)
    have V81 := hidden (V75.out.calm hK1)
    clear C76 hK1 H72 V73 V74 V75
    (try go_wp2_with fail)
    refine hK.out _ _ ?_ (fun hH2 => ?_)
    · ((try dsimp only); (first | done | exact (by have c0 := (V81.out).cells; exact ⟨c0.1, c0.2.1, c0.2.2.1⟩)))
    clear hK K hHeld
    have hHeld := hH2
    clear hH2
    try simp only [Act.put, List.setIfInBounds_toArray, List.set_cons_zero, List.set_cons_succ]
    refine wpAnyH_ready (rs := [4]) (by kernel_rfl) (by simp) ?_
    refine AllReadyH.cons (o := ⟨_, _, _, _, _, _⟩) rfl (fun K hK => ?_) AllReadyH.nil
    go_simp
    have C82 := hidden (lay_Member H78.out.heap N49.out rfl rfl (by decide) ⟨#[]⟩ ⟨3, 0, ⟨#[109]⟩⟩ ⟨2, 7, ⟨#[]⟩⟩ (by decide) (by decide) (by simp))
    (try unfold V.val at C82)
    (try unfold V.null at C82)
    (try dsimp only [rV, iV] at C82)
    (first | (go_at_call 19; refine C82.out.mono ?_))
    rintro e w83 ⟨F84, rfl, g1, g2, g3⟩
    have N86 := hidden (show (tabH HH45 c pc (classCl tc [] 0 V.null) tc (putE [] 0 ⟨3, 0, ⟨#[109]⟩⟩ ⟨2, 7, ⟨#[]⟩⟩))[l]? = some (some (pl, arrayCl lb [⟨2, 5, ⟨#[]⟩⟩, ⟨2, 6, ⟨#[]⟩⟩])) from set_old N47.out E48.out)
    have N87 := hidden (show (tabH HH45 c pc (classCl tc [] 0 V.null) tc (putE [] 0 ⟨3, 0, ⟨#[109]⟩⟩ ⟨2, 7, ⟨#[]⟩⟩))[c]? = some (some (pc, classCl tc [⟨⟨3, 0, ⟨#[109]⟩⟩, ⟨2, 7, ⟨#[]⟩⟩, 1, false⟩] 1 V.null)) from tabH_at N49.out)
    have H88 := hidden (show Hd w hb F84 (tabH HH45 c pc (classCl tc [] 0 V.null) tc (putE [] 0 ⟨3, 0, ⟨#[109]⟩⟩ ⟨2, 7, ⟨#[]⟩⟩)) st46 w83 from H78.out.turn2 N49.out g1 g2 g3)
    have V89 := hidden (V79.out.step g2 g3)
    have V90 := hidden (V80.out.step g2 g3)
    have V91 := hidden (V81.out.step g2 g3)
    clear C82 g1 g2 g3 N47 N49 H78 V79 V80 V81
    generalize tabH HH45 c pc (classCl tc [] 0 V.null) tc (putE [] 0 ⟨3, 0, ⟨#[109]⟩⟩ ⟨2, 7, ⟨#[]⟩⟩) = HH85 at *
    (try go_wp2_with fail)
    refine hK.out _ _ ?_ (fun hH2 => ?_)
    · ((try dsimp only); (first | done | exact (by have c0 := (V91.out).cells; exact ⟨c0.1, c0.2.1, c0.2.2.1⟩)))
    clear hK K hHeld
    have hHeld := hH2
    clear hH2
    try simp only [Act.put, List.setIfInBounds_toArray, List.set_cons_zero, List.set_cons_succ]
    refine wpAnyH_done (by kernel_rfl) ?_ _
    refine NoPanic.normal ?_
    clear hHeld
    have C92 := hidden (lay_Make H88.out.heap H88.out.ok (by rw [S50.out.1, S50.out.2]; decide) N87.out rfl rfl (by decide))
    rw [fieldsE_one HH85 (by decide)] at C92
    (try unfold V.val at C92)
    (try unfold V.null at C92)
    (try dsimp only [rV, iV] at C92)
    obtain ⟨l930, l931, l932, l93z⟩ := V91.out.cells
    (try dsimp only [rV, iV, V.null] at l930 l931 l932)
    (try go_wp2_with fail)
    refine C92.out.mono ?_
    rintro e w94 ⟨i, pi, ti, F95, HH96, st97, rfl, hM⟩
    have N98 := hidden (hM.new.old N86.out)
    have E99 := hidden (hM.new.ne N86.out)
    have N100 := hidden (hM.new.old N87.out)
    have E101 := hidden (hM.new.ne N87.out)
    have N102 := hidden (show HH96[i]? = some (some (pi, instCl ti [⟨⟨3, 0, ⟨#[109]⟩⟩, ⟨2, 7, ⟨#[]⟩⟩, 1, false⟩] 1 ⟨4, c, ⟨#[]⟩⟩)) from hM.new.at_)
    have S103 := hidden (show st97.live = 3 ∧ st97.limit = 50 from ⟨by rw [hM.live, S50.out.1]; decide, by rw [hM.limit, S50.out.2]⟩)
    have H104 := hidden (H88.out.made hM (fun k h => h.elim))
    have V105 := hidden (V89.out.step hM.keeps hM.fr)
    have V106 := hidden (V90.out.step hM.keeps hM.fr)
    have V107 := hidden (V91.out.step hM.keeps hM.fr)
    clear l930 l931 l932 l93z C92 hM N86 N87 S50 H88 V89 V90 V91
    (try go_wp2_with fail)
    have V111 := hidden (show Vr F95 (w94.alloc (.cells #[.int .i64 4, .int .i64 i, .string ⟨#[]⟩] 26)) w94.heap.size ⟨4, i, ⟨#[]⟩⟩ from Vr.new ⟨4, i, ⟨#[]⟩⟩ H104.out.heap.inw)
    have SZ112 := hidden (show (w94.alloc (.cells #[.int .i64 4, .int .i64 i, .string ⟨#[]⟩] 26)).heap.size = w94.heap.size + 1 from by simp)
    have GE113 := hidden (show w.heap.size ≤ w94.heap.size from H104.out.K.size)
    have K108 := (Keeps.refl (fun _ => False) w94).alloc (.cells #[.int .i64 4, .int .i64 i, .string ⟨#[]⟩] 26)
    have H114 := hidden (H104.out.calm K108)
    have V115 := hidden (V105.out.calm K108)
    have V116 := hidden (V106.out.calm K108)
    have V117 := hidden (V107.out.calm K108)
    clear K108 H104 V105 V106 V107
    generalize w94.heap.size = v109 at *
    generalize w94.alloc (.cells #[.int .i64 4, .int .i64 i, .string ⟨#[]⟩] 26) = w110 at *
    obtain ⟨l1180, l1181, l1182, l118z⟩ := V117.out.cells
    (try dsimp only [rV, iV, V.null] at l1180 l1181 l1182)
    (try go_wp2_with fail)
    clear l1180 l1181 l1182 l118z
    have SK119 := hidden (fun (W : World) (hk : Keeps (fun _ => False) w110 W) => show W.cell? ⟨v55, 0, none⟩ = some (.int .i64 4) ∧ W.cell? ⟨v55, 1, none⟩ = some (.int .i64 c) ∧ W.cell? ⟨v55, 2, none⟩ = some (.string ⟨#[]⟩) from (by have c0 := (V117.out.calm hk).cells; exact ⟨c0.1, c0.2.1, c0.2.2.1⟩))
    refine wp_region_noPanic ?_
    refine wp_region_held_drew (S := (fun W => W.cell? ⟨v55, 0, none⟩ = some (.int .i64 4) ∧ W.cell? ⟨v55, 1, none⟩ = some (.int .i64 c) ∧ W.cell? ⟨v55, 2, none⟩ = some (.string ⟨#[]⟩))) (by kernel_rfl) ?_ (fun hHeld => ?_)
    · ((try dsimp only); (first | done | exact SK119.out _ ((Keeps.refl _ w110).drew)))
    have KD120 := (Keeps.refl (fun _ => False) w110).drew
    have H122 := hidden (H114.out.calm KD120)
    have V123 := hidden (V115.out.calm KD120)
    have V124 := hidden (V116.out.calm KD120)
    have V125 := hidden (V117.out.calm KD120)
    have V126 := hidden (V111.out.calm KD120)
    clear KD120 H114 V115 V116 V117 V111
    generalize w110.drew = w121 at *
    clear SK119
    refine wpAnyH_take (i := 0) (oi := ⟨_, _, _, _, _, _⟩) (v := ?_) rfl (by kernel_rfl) (by kernel_rfl) (by kernel_rfl) (fun _ _ _ h => h) (Or.inl ⟨by rfl, ?_⟩) hHeld ?_
    rotate_left
    · (intro w' hSw; (try dsimp only at hSw); go_simp; (try with_reducible rfl))
    try simp only [Act.put, List.setIfInBounds_toArray, List.set_cons_zero, List.set_cons_succ]
    refine wpAnyH_take (i := 1) (oi := ⟨_, _, _, _, _, _⟩) (v := ?_) rfl (by kernel_rfl) (by kernel_rfl) (by kernel_rfl) (fun _ _ _ h => h) (Or.inl ⟨by rfl, ?_⟩) hHeld ?_
    rotate_left
    · (intro w' hSw; (try dsimp only at hSw); go_simp; (try with_reducible rfl))
    try simp only [Act.put, List.setIfInBounds_toArray, List.set_cons_zero, List.set_cons_succ]
    refine wpAnyH_ready (rs := [2]) (by kernel_rfl) (by simp) ?_
    refine AllReadyH.cons (o := ⟨_, _, _, _, _, _⟩) rfl (fun K hK => ?_) AllReadyH.nil
    go_simp
    have C127 := hidden (value_Str ⟨#[110]⟩ w121)
    (try unfold V.val at C127)
    (try unfold V.null at C127)
    (try dsimp only [rV, iV] at C127)
    (first | (go_at_call 34; refine C127.out.mono ?_))
    rintro e w128 ⟨rfl, hK1⟩
    have H129 := hidden (H122.out.calm hK1)
    have V130 := hidden (V123.out.calm hK1)
    have V131 := hidden (V124.out.calm hK1)
    have V132 := hidden (V125.out.calm hK1)
    have V133 := hidden (V126.out.calm hK1)
    clear C127 hK1 H122 V123 V124 V125 V126
    (try go_wp2_with fail)
    refine hK.out _ _ ?_ (fun hH2 => ?_)
    · ((try dsimp only); (first | done | exact (by have c0 := (V132.out).cells; exact ⟨c0.1, c0.2.1, c0.2.2.1⟩)))
    clear hK K hHeld
    have hHeld := hH2
    clear hH2
    try simp only [Act.put, List.setIfInBounds_toArray, List.set_cons_zero, List.set_cons_succ]
    refine wpAnyH_ready (rs := [3]) (by kernel_rfl) (by simp) ?_
    refine AllReadyH.cons (o := ⟨_, _, _, _, _, _⟩) rfl (fun K hK => ?_) AllReadyH.nil
    go_simp
    have C134 := hidden (value_Int 8 w128)
    (try unfold V.val at C134)
    (try unfold V.null at C134)
    (try dsimp only [rV, iV] at C134)
    (first | (go_at_call 17; refine C134.out.mono ?_))
    rintro e w135 ⟨rfl, hK1⟩
    have H136 := hidden (H129.out.calm hK1)
    have V137 := hidden (V130.out.calm hK1)
    have V138 := hidden (V131.out.calm hK1)
    have V139 := hidden (V132.out.calm hK1)
    have V140 := hidden (V133.out.calm hK1)
    clear C134 hK1 H129 V130 V131 V132 V133
    (try go_wp2_with fail)
    refine hK.out _ _ ?_ (fun hH2 => ?_)
    · ((try dsimp only); (first | done | exact (by have c0 := (V139.out).cells; exact ⟨c0.1, c0.2.1, c0.2.2.1⟩)))
    clear hK K hHeld
    have hHeld := hH2
    clear hH2
    try simp only [Act.put, List.setIfInBounds_toArray, List.set_cons_zero, List.set_cons_succ]
    refine wpAnyH_ready (rs := [4]) (by kernel_rfl) (by simp) ?_
    refine AllReadyH.cons (o := ⟨_, _, _, _, _, _⟩) rfl (fun K hK => ?_) AllReadyH.nil
    go_simp
    have C141 := hidden (lay_Member H136.out.heap N100.out rfl rfl (by decide) ⟨#[]⟩ ⟨3, 0, ⟨#[110]⟩⟩ ⟨2, 8, ⟨#[]⟩⟩ (by decide) (by decide) (by simp))
    (try unfold V.val at C141)
    (try unfold V.null at C141)
    (try dsimp only [rV, iV] at C141)
    (first | (go_at_call 19; refine C141.out.mono ?_))
    rintro e w142 ⟨F143, rfl, g1, g2, g3⟩
    have N145 := hidden (show (tabH HH96 c pc (classCl tc [⟨⟨3, 0, ⟨#[109]⟩⟩, ⟨2, 7, ⟨#[]⟩⟩, 1, false⟩] 1 V.null) tc (putE [⟨⟨3, 0, ⟨#[109]⟩⟩, ⟨2, 7, ⟨#[]⟩⟩, 1, false⟩] 1 ⟨3, 0, ⟨#[110]⟩⟩ ⟨2, 8, ⟨#[]⟩⟩))[l]? = some (some (pl, arrayCl lb [⟨2, 5, ⟨#[]⟩⟩, ⟨2, 6, ⟨#[]⟩⟩])) from set_old N98.out E48.out)
    have N146 := hidden (show (tabH HH96 c pc (classCl tc [⟨⟨3, 0, ⟨#[109]⟩⟩, ⟨2, 7, ⟨#[]⟩⟩, 1, false⟩] 1 V.null) tc (putE [⟨⟨3, 0, ⟨#[109]⟩⟩, ⟨2, 7, ⟨#[]⟩⟩, 1, false⟩] 1 ⟨3, 0, ⟨#[110]⟩⟩ ⟨2, 8, ⟨#[]⟩⟩))[c]? = some (some (pc, classCl tc [⟨⟨3, 0, ⟨#[109]⟩⟩, ⟨2, 7, ⟨#[]⟩⟩, 1, false⟩, ⟨⟨3, 0, ⟨#[110]⟩⟩, ⟨2, 8, ⟨#[]⟩⟩, 2, false⟩] 2 V.null)) from tabH_at N100.out)
    have N147 := hidden (show (tabH HH96 c pc (classCl tc [⟨⟨3, 0, ⟨#[109]⟩⟩, ⟨2, 7, ⟨#[]⟩⟩, 1, false⟩] 1 V.null) tc (putE [⟨⟨3, 0, ⟨#[109]⟩⟩, ⟨2, 7, ⟨#[]⟩⟩, 1, false⟩] 1 ⟨3, 0, ⟨#[110]⟩⟩ ⟨2, 8, ⟨#[]⟩⟩))[i]? = some (some (pi, instCl ti [⟨⟨3, 0, ⟨#[109]⟩⟩, ⟨2, 7, ⟨#[]⟩⟩, 1, false⟩] 1 ⟨4, c, ⟨#[]⟩⟩)) from set_old N102.out (Ne.symm E101.out))
    have H148 := hidden (show Hd w hb F143 (tabH HH96 c pc (classCl tc [⟨⟨3, 0, ⟨#[109]⟩⟩, ⟨2, 7, ⟨#[]⟩⟩, 1, false⟩] 1 V.null) tc (putE [⟨⟨3, 0, ⟨#[109]⟩⟩, ⟨2, 7, ⟨#[]⟩⟩, 1, false⟩] 1 ⟨3, 0, ⟨#[110]⟩⟩ ⟨2, 8, ⟨#[]⟩⟩)) st97 w142 from H136.out.turn2 N100.out g1 g2 g3)
    have V149 := hidden (V137.out.step g2 g3)
    have V150 := hidden (V138.out.step g2 g3)
    have V151 := hidden (V139.out.step g2 g3)
    have V152 := hidden (V140.out.step g2 g3)
    clear C141 g1 g2 g3 N98 N100 N102 H136 V137 V138 V139 V140
    generalize tabH HH96 c pc (classCl tc [⟨⟨3, 0, ⟨#[109]⟩⟩, ⟨2, 7, ⟨#[]⟩⟩, 1, false⟩] 1 V.null) tc (putE [⟨⟨3, 0, ⟨#[109]⟩⟩, ⟨2, 7, ⟨#[]⟩⟩, 1, false⟩] 1 ⟨3, 0, ⟨#[110]⟩⟩ ⟨2, 8, ⟨#[]⟩⟩) = HH144 at *
    (try go_wp2_with fail)
    refine hK.out _ _ ?_ (fun hH2 => ?_)
    · ((try dsimp only); (first | done | exact (by have c0 := (V151.out).cells; exact ⟨c0.1, c0.2.1, c0.2.2.1⟩)))
    clear hK K hHeld
    have hHeld := hH2
    clear hH2
    try simp only [Act.put, List.setIfInBounds_toArray, List.set_cons_zero, List.set_cons_succ]
    refine wpAnyH_done (by kernel_rfl) ?_ _
    refine NoPanic.normal ?_
    clear hHeld
    have C153 := hidden (value_Str st w142)
    (try unfold V.val at C153)
    (try unfold V.null at C153)
    (try dsimp only [rV, iV] at C153)
    (try go_wp2_with fail)
    refine C153.out.mono ?_
    rintro e w154 ⟨rfl, hK⟩
    have H155 := hidden (H148.out.calm hK)
    have V156 := hidden (V149.out.calm hK)
    have V157 := hidden (V150.out.calm hK)
    have V158 := hidden (V151.out.calm hK)
    have V159 := hidden (V152.out.calm hK)
    clear C153 hK H148 V149 V150 V151 V152
    have C160 := hidden (value_Int at' w154)
    (try unfold V.val at C160)
    (try unfold V.null at C160)
    (try dsimp only [rV, iV] at C160)
    (try go_wp2_with fail)
    refine C160.out.mono ?_
    rintro e w161 ⟨rfl, hK⟩
    have H162 := hidden (H155.out.calm hK)
    have V163 := hidden (V156.out.calm hK)
    have V164 := hidden (V157.out.calm hK)
    have V165 := hidden (V158.out.calm hK)
    have V166 := hidden (V159.out.calm hK)
    clear C160 hK H155 V156 V157 V158 V159
    have C167 := hidden (slot_Get_str (w := w161) (hb := hb) 0 st 2 at' ⟨#[]⟩ rk rn ⟨#[]⟩ re hoct)
    (try unfold V.val at C167)
    (try unfold V.null at C167)
    (try dsimp only [rV, iV] at C167)
    (try go_wp2_with fail)
    refine C167.out.mono ?_
    rintro e w168 ⟨rfl, hK⟩
    have H169 := hidden (H162.out.calm hK)
    have V170 := hidden (V163.out.calm hK)
    have V171 := hidden (V164.out.calm hK)
    have V172 := hidden (V165.out.calm hK)
    have V173 := hidden (V166.out.calm hK)
    clear C167 hK H162 V163 V164 V165 V166
    go_upto_region 12 with fail
    have V177 := hidden (show Vr F143 (w168.alloc (.cells #[.int .i64 rk, .int .i64 rn, .string ⟨#[]⟩] 26)) w168.heap.size ⟨rk, rn, ⟨#[]⟩⟩ from Vr.new ⟨rk, rn, ⟨#[]⟩⟩ H169.out.heap.inw)
    have SZ178 := hidden (show (w168.alloc (.cells #[.int .i64 rk, .int .i64 rn, .string ⟨#[]⟩] 26)).heap.size = w168.heap.size + 1 from by simp)
    have GE179 := hidden (show w.heap.size ≤ w168.heap.size from H169.out.K.size)
    have K174 := (Keeps.refl (fun _ => False) w168).alloc (.cells #[.int .i64 rk, .int .i64 rn, .string ⟨#[]⟩] 26)
    have H180 := hidden (H169.out.calm K174)
    have V181 := hidden (V170.out.calm K174)
    have V182 := hidden (V171.out.calm K174)
    have V183 := hidden (V172.out.calm K174)
    have V184 := hidden (V173.out.calm K174)
    clear K174 H169 V170 V171 V172 V173
    generalize w168.heap.size = v175 at *
    generalize w168.alloc (.cells #[.int .i64 rk, .int .i64 rn, .string ⟨#[]⟩] 26) = w176 at *
    obtain ⟨inb, hinb⟩ : ∃ inb : Bool, inb = (decide (0 ≤ at') && decide (at' < (st.size : Int))) := ⟨_, rfl⟩
    go_cut [91] from 84 to 90 (fun bv wx => bv = .bool inb ∧ w176 = wx)
    case first =>
      by_cases hx0 : (0 : Int) ≤ at'
      · go_wp2_with fail
        all_goals
          go_meet
          exact ⟨by rw [hinb]; simp; omega, rfl⟩
      · go_wp2_with fail
        all_goals
          go_meet
          exact ⟨by rw [hinb]; simp; omega, rfl⟩
    case rest =>
    obtain ⟨rfl, hwc⟩ := hcut
    subst hwc
    (try go_upto_if 91 with fail)
    go_cut [14] from 92 to 109 (fun pv wx => pv = .pointer (some ⟨v175, 0, none⟩) ∧ Keeps (fun _ => False) w176 wx)
    case first =>
      rcases hans with hans | hans | hans
      · obtain ⟨mm, rfl, hmm, rfl, rfl, rfl⟩ := hans
        have KQ185 := hidden (Keeps.refl (fun _ => False) w176)
        have hinb1 : inb = true := by rw [hinb]; simp; omega
        clear hinb
        subst hinb1
        have hg0 : (0 : Int) ≤ (mm : Int) := by omega
        have hg1 : (mm : Int) < (st.size : Int) := by omega
        have hb8 := UInt8.toNat_lt st[mm]
        have hw1 : wrap64 (st[mm].toNat : Int) = (st[mm].toNat : Int) := IntWalk.wrap64_in _ (by omega)
        have hw2 : IntKind.i64.wrap (st[mm].toNat : Int) = (st[mm].toNat : Int) := IntWalk.i64_in _ (by omega)
        clear hb8
        (try go_wp2_with fail)
        have SK186 := hidden (fun (W : World) (hk : Keeps (fun _ => False) w176 W) => show W.cell? ⟨v175, 0, none⟩ = some (.int .i64 2) ∧ W.cell? ⟨v175, 1, none⟩ = some (.int .i64 (st[mm].toNat : Int)) ∧ W.cell? ⟨v175, 2, none⟩ = some (.string ⟨#[]⟩) from (by have c0 := (V177.out.calm hk).cells; exact ⟨c0.1, c0.2.1, c0.2.2.1⟩))
        refine wp_region_noPanic ?_
        refine wp_region_held_drew (S := (fun W => W.cell? ⟨v175, 0, none⟩ = some (.int .i64 2) ∧ W.cell? ⟨v175, 1, none⟩ = some (.int .i64 (st[mm].toNat : Int)) ∧ W.cell? ⟨v175, 2, none⟩ = some (.string ⟨#[]⟩))) (by kernel_rfl) ?_ (fun hHeld => ?_)
        · ((try dsimp only); (first | done | exact SK186.out _ ((Keeps.refl _ w176).drew)))
        have KD187 := (Keeps.refl (fun _ => False) w176).drew
        have H189 := hidden (H180.out.calm KD187)
        have V190 := hidden (V181.out.calm KD187)
        have V191 := hidden (V182.out.calm KD187)
        have V192 := hidden (V183.out.calm KD187)
        have V193 := hidden (V184.out.calm KD187)
        have V194 := hidden (V177.out.calm KD187)
        have Q195 := hidden (KQ185.out.trans KD187 (fun _ _ h => h))
        clear KD187 H180 V181 V182 V183 V184 V177 KQ185
        generalize w176.drew = w188 at *
        clear SK186
        refine wpAnyH_take (i := 0) (oi := ⟨_, _, _, _, _, _⟩) (v := ?_) rfl (by kernel_rfl) (by kernel_rfl) (by kernel_rfl) (fun _ _ _ h => h) (Or.inl ⟨by rfl, ?_⟩) hHeld ?_
        rotate_left
        · (intro w' hSw; (try dsimp only at hSw); go_simp; (try with_reducible rfl))
        try simp only [Act.put, List.setIfInBounds_toArray, List.set_cons_zero, List.set_cons_succ]
        refine wpAnyH_take (i := 1) (oi := ⟨_, _, _, _, _, _⟩) (v := ?_) rfl (by kernel_rfl) (by kernel_rfl) (by kernel_rfl) (fun _ _ _ h => h) (Or.inl ⟨by rfl, ?_⟩) hHeld ?_
        rotate_left
        · (intro w' hSw; (try dsimp only at hSw); go_simp; (try with_reducible rfl))
        try simp only [Act.put, List.setIfInBounds_toArray, List.set_cons_zero, List.set_cons_succ]
        refine wpAnyH_take (i := 2) (oi := ⟨_, _, _, _, _, _⟩) (v := ?_) rfl (by kernel_rfl) (by kernel_rfl) (by kernel_rfl) (fun _ _ _ h => h) (Or.inl ⟨by rfl, ?_⟩) hHeld ?_
        rotate_left
        · (intro w' hSw; (try dsimp only at hSw); go_simp; (try with_reducible rfl))
        try simp only [Act.put, List.setIfInBounds_toArray, List.set_cons_zero, List.set_cons_succ]
        refine wpAnyH_take (i := 3) (oi := ⟨_, _, _, _, _, _⟩) (v := ?_) rfl (by kernel_rfl) (by kernel_rfl) (by kernel_rfl) (fun _ _ _ h => h) (Or.inl ⟨by rfl, ?_⟩) hHeld ?_
        rotate_left
        · (intro w' hSw; (try dsimp only at hSw); go_simp; (try with_reducible rfl))
        try simp only [Act.put, List.setIfInBounds_toArray, List.set_cons_zero, List.set_cons_succ]
        refine wpAnyH_take (i := 4) (oi := ⟨_, _, _, _, _, _⟩) (v := ?_) rfl (by kernel_rfl) (by kernel_rfl) (by kernel_rfl) (fun _ _ _ h => h) (Or.inl ⟨by rfl, ?_⟩) hHeld ?_
        rotate_left
        · (intro w' hSw; (try dsimp only at hSw); go_simp; (try with_reducible rfl))
        try simp only [Act.put, List.setIfInBounds_toArray, List.set_cons_zero, List.set_cons_succ]
        refine wpAnyH_take (i := 5) (oi := ⟨_, _, _, _, _, _⟩) (v := ?_) rfl (by kernel_rfl) (by kernel_rfl) (by kernel_rfl) (fun _ _ _ h => h) (Or.inl ⟨by rfl, ?_⟩) hHeld ?_
        rotate_left
        · (intro w' hSw; (try dsimp only at hSw); go_simp; (try with_reducible rfl))
        try simp only [Act.put, List.setIfInBounds_toArray, List.set_cons_zero, List.set_cons_succ]
        refine wpAnyH_take (i := 6) (oi := ⟨_, _, _, _, _, _⟩) (v := ?_) rfl (by kernel_rfl) (by kernel_rfl) (by kernel_rfl) (fun _ _ _ h => h) (Or.inl ⟨by rfl, ?_⟩) hHeld ?_
        rotate_left
        · (intro w' hSw; (try dsimp only at hSw); go_simp; (try with_reducible rfl))
        try simp only [Act.put, List.setIfInBounds_toArray, List.set_cons_zero, List.set_cons_succ]
        refine wpAnyH_take (i := 7) (oi := ⟨_, _, _, _, _, _⟩) (v := ?_) rfl (by kernel_rfl) (by kernel_rfl) (by kernel_rfl) (fun _ _ _ h => h) (Or.inl ⟨by rfl, ?_⟩) hHeld ?_
        rotate_left
        · (intro w' hSw; (try dsimp only at hSw); go_simp; (try with_reducible rfl))
        try simp only [Act.put, List.setIfInBounds_toArray, List.set_cons_zero, List.set_cons_succ]
        refine wpAnyH_ready (rs := [8]) (by kernel_rfl) (by simp) ?_
        refine AllReadyH.cons (o := ⟨_, _, _, _, _, _⟩) rfl (fun K hK => ?_) AllReadyH.nil
        go_simp
        have C196 := hidden (value_Int (st[mm].toNat : Int) w188)
        (try unfold V.val at C196)
        (try unfold V.null at C196)
        (try dsimp only [rV, iV] at C196)
        (first | (go_at_call 17; refine C196.out.mono ?_))
        rintro e w197 ⟨rfl, hK1⟩
        have H198 := hidden (H189.out.calm hK1)
        have V199 := hidden (V190.out.calm hK1)
        have V200 := hidden (V191.out.calm hK1)
        have V201 := hidden (V192.out.calm hK1)
        have V202 := hidden (V193.out.calm hK1)
        have V203 := hidden (V194.out.calm hK1)
        have Q204 := hidden (Q195.out.trans hK1 (fun _ _ h => h))
        clear C196 hK1 H189 V190 V191 V192 V193 V194 Q195
        (try go_wp2_with fail)
        refine hK.out _ _ ?_ (fun hH2 => ?_)
        · ((try dsimp only); (first | done | exact (by have c0 := (V203.out).cells; exact ⟨c0.1, c0.2.1, c0.2.2.1⟩)))
        clear hK K hHeld
        have hHeld := hH2
        clear hH2
        try simp only [Act.put, List.setIfInBounds_toArray, List.set_cons_zero, List.set_cons_succ]
        refine wpAnyH_take (i := 9) (oi := ⟨_, _, _, _, _, _⟩) (v := ?_) rfl (by kernel_rfl) (by kernel_rfl) (by kernel_rfl) (fun _ _ _ h => h) (Or.inl ⟨by rfl, ?_⟩) hHeld ?_
        rotate_left
        · (intro w' hSw; (try dsimp only at hSw); go_simp; (try with_reducible rfl))
        try simp only [Act.put, List.setIfInBounds_toArray, List.set_cons_zero, List.set_cons_succ]
        refine wpAnyH_take (i := 10) (oi := ⟨_, _, _, _, _, _⟩) (v := ?_) rfl (by kernel_rfl) (by kernel_rfl) (by kernel_rfl) (fun _ _ _ h => h) (Or.inl ⟨by rfl, ?_⟩) hHeld ?_
        rotate_left
        · (intro w' hSw; (try dsimp only at hSw); go_simp; (try with_reducible rfl))
        try simp only [Act.put, List.setIfInBounds_toArray, List.set_cons_zero, List.set_cons_succ]
        refine wpAnyH_done (by kernel_rfl) ?_ _
        refine NoPanic.normal ?_
        clear hHeld
        (try go_wp2_with fail)
        go_meet
        exact ⟨rfl, Q204.out⟩
      · obtain ⟨ha, rfl, rfl, rfl⟩ := hans
        have KQ205 := hidden (Keeps.refl (fun _ => False) w176)
        have hinb1 : inb = false := by rw [hinb]; simp; omega
        clear hinb
        subst hinb1
        (try go_wp2_with fail)
        have SK206 := hidden (fun (W : World) (hk : Keeps (fun _ => False) w176 W) => show W.cell? ⟨v175, 0, none⟩ = some (.int .i64 0) ∧ W.cell? ⟨v175, 1, none⟩ = some (.int .i64 0) ∧ W.cell? ⟨v175, 2, none⟩ = some (.string ⟨#[]⟩) from (by have c0 := (V177.out.calm hk).cells; exact ⟨c0.1, c0.2.1, c0.2.2.1⟩))
        refine wp_region_noPanic ?_
        refine wp_region_held_drew (S := (fun W => W.cell? ⟨v175, 0, none⟩ = some (.int .i64 0) ∧ W.cell? ⟨v175, 1, none⟩ = some (.int .i64 0) ∧ W.cell? ⟨v175, 2, none⟩ = some (.string ⟨#[]⟩))) (by kernel_rfl) ?_ (fun hHeld => ?_)
        · ((try dsimp only); (first | done | exact SK206.out _ ((Keeps.refl _ w176).drew)))
        have KD207 := (Keeps.refl (fun _ => False) w176).drew
        have H209 := hidden (H180.out.calm KD207)
        have V210 := hidden (V181.out.calm KD207)
        have V211 := hidden (V182.out.calm KD207)
        have V212 := hidden (V183.out.calm KD207)
        have V213 := hidden (V184.out.calm KD207)
        have V214 := hidden (V177.out.calm KD207)
        have Q215 := hidden (KQ205.out.trans KD207 (fun _ _ h => h))
        clear KD207 H180 V181 V182 V183 V184 V177 KQ205
        generalize w176.drew = w208 at *
        clear SK206
        refine wpAnyH_take (i := 0) (oi := ⟨_, _, _, _, _, _⟩) (v := ?_) rfl (by kernel_rfl) (by kernel_rfl) (by kernel_rfl) (fun _ _ _ h => h) (Or.inl ⟨by rfl, ?_⟩) hHeld ?_
        rotate_left
        · (intro w' hSw; (try dsimp only at hSw); go_simp; (try with_reducible rfl))
        try simp only [Act.put, List.setIfInBounds_toArray, List.set_cons_zero, List.set_cons_succ]
        refine wpAnyH_take (i := 1) (oi := ⟨_, _, _, _, _, _⟩) (v := ?_) rfl (by kernel_rfl) (by kernel_rfl) (by kernel_rfl) (fun _ _ _ h => h) (Or.inl ⟨by rfl, ?_⟩) hHeld ?_
        rotate_left
        · (intro w' hSw; (try dsimp only at hSw); go_simp; (try with_reducible rfl))
        try simp only [Act.put, List.setIfInBounds_toArray, List.set_cons_zero, List.set_cons_succ]
        refine wpAnyH_take (i := 2) (oi := ⟨_, _, _, _, _, _⟩) (v := ?_) rfl (by kernel_rfl) (by kernel_rfl) (by kernel_rfl) (fun _ _ _ h => h) (Or.inl ⟨by rfl, ?_⟩) hHeld ?_
        rotate_left
        · (intro w' hSw; (try dsimp only at hSw); go_simp; (try with_reducible rfl))
        try simp only [Act.put, List.setIfInBounds_toArray, List.set_cons_zero, List.set_cons_succ]
        refine wpAnyH_take (i := 3) (oi := ⟨_, _, _, _, _, _⟩) (v := ?_) rfl (by kernel_rfl) (by kernel_rfl) (by kernel_rfl) (fun _ _ _ h => h) (Or.inl ⟨by rfl, ?_⟩) hHeld ?_
        rotate_left
        · (intro w' hSw; (try dsimp only at hSw); go_simp; (try with_reducible rfl))
        try simp only [Act.put, List.setIfInBounds_toArray, List.set_cons_zero, List.set_cons_succ]
        refine wpAnyH_ready (rs := [4]) (by kernel_rfl) (by simp) ?_
        refine AllReadyH.cons (o := ⟨_, _, _, _, _, _⟩) rfl (fun K hK => ?_) AllReadyH.nil
        go_simp
        have C216 := hidden (value_Null w208)
        (try unfold V.val at C216)
        (try unfold V.null at C216)
        (try dsimp only [rV, iV] at C216)
        (first | (go_at_call 12; refine C216.out.mono ?_))
        rintro e w217 ⟨rfl, hK1⟩
        have H218 := hidden (H209.out.calm hK1)
        have V219 := hidden (V210.out.calm hK1)
        have V220 := hidden (V211.out.calm hK1)
        have V221 := hidden (V212.out.calm hK1)
        have V222 := hidden (V213.out.calm hK1)
        have V223 := hidden (V214.out.calm hK1)
        have Q224 := hidden (Q215.out.trans hK1 (fun _ _ h => h))
        clear C216 hK1 H209 V210 V211 V212 V213 V214 Q215
        (try go_wp2_with fail)
        refine hK.out _ _ ?_ (fun hH2 => ?_)
        · ((try dsimp only); (first | done | exact (by have c0 := (V223.out).cells; exact ⟨c0.1, c0.2.1, c0.2.2.1⟩)))
        clear hK K hHeld
        have hHeld := hH2
        clear hH2
        try simp only [Act.put, List.setIfInBounds_toArray, List.set_cons_zero, List.set_cons_succ]
        refine wpAnyH_take (i := 5) (oi := ⟨_, _, _, _, _, _⟩) (v := ?_) rfl (by kernel_rfl) (by kernel_rfl) (by kernel_rfl) (fun _ _ _ h => h) (Or.inl ⟨by rfl, ?_⟩) hHeld ?_
        rotate_left
        · (intro w' hSw; (try dsimp only at hSw); go_simp; (try with_reducible rfl))
        try simp only [Act.put, List.setIfInBounds_toArray, List.set_cons_zero, List.set_cons_succ]
        refine wpAnyH_take (i := 6) (oi := ⟨_, _, _, _, _, _⟩) (v := ?_) rfl (by kernel_rfl) (by kernel_rfl) (by kernel_rfl) (fun _ _ _ h => h) (Or.inl ⟨by rfl, ?_⟩) hHeld ?_
        rotate_left
        · (intro w' hSw; (try dsimp only at hSw); go_simp; (try with_reducible rfl))
        try simp only [Act.put, List.setIfInBounds_toArray, List.set_cons_zero, List.set_cons_succ]
        refine wpAnyH_done (by kernel_rfl) ?_ _
        refine NoPanic.normal ?_
        clear hHeld
        (try go_wp2_with fail)
        go_meet
        exact ⟨rfl, Q224.out⟩
      · obtain ⟨ha0, ha, rfl, rfl, rfl⟩ := hans
        have KQ225 := hidden (Keeps.refl (fun _ => False) w176)
        have hinb1 : inb = false := by rw [hinb]; simp; omega
        clear hinb
        subst hinb1
        (try go_wp2_with fail)
        have SK226 := hidden (fun (W : World) (hk : Keeps (fun _ => False) w176 W) => show W.cell? ⟨v175, 0, none⟩ = some (.int .i64 0) ∧ W.cell? ⟨v175, 1, none⟩ = some (.int .i64 0) ∧ W.cell? ⟨v175, 2, none⟩ = some (.string ⟨#[]⟩) from (by have c0 := (V177.out.calm hk).cells; exact ⟨c0.1, c0.2.1, c0.2.2.1⟩))
        refine wp_region_noPanic ?_
        refine wp_region_held_drew (S := (fun W => W.cell? ⟨v175, 0, none⟩ = some (.int .i64 0) ∧ W.cell? ⟨v175, 1, none⟩ = some (.int .i64 0) ∧ W.cell? ⟨v175, 2, none⟩ = some (.string ⟨#[]⟩))) (by kernel_rfl) ?_ (fun hHeld => ?_)
        · ((try dsimp only); (first | done | exact SK226.out _ ((Keeps.refl _ w176).drew)))
        have KD227 := (Keeps.refl (fun _ => False) w176).drew
        have H229 := hidden (H180.out.calm KD227)
        have V230 := hidden (V181.out.calm KD227)
        have V231 := hidden (V182.out.calm KD227)
        have V232 := hidden (V183.out.calm KD227)
        have V233 := hidden (V184.out.calm KD227)
        have V234 := hidden (V177.out.calm KD227)
        have Q235 := hidden (KQ225.out.trans KD227 (fun _ _ h => h))
        clear KD227 H180 V181 V182 V183 V184 V177 KQ225
        generalize w176.drew = w228 at *
        clear SK226
        refine wpAnyH_take (i := 0) (oi := ⟨_, _, _, _, _, _⟩) (v := ?_) rfl (by kernel_rfl) (by kernel_rfl) (by kernel_rfl) (fun _ _ _ h => h) (Or.inl ⟨by rfl, ?_⟩) hHeld ?_
        rotate_left
        · (intro w' hSw; (try dsimp only at hSw); go_simp; (try with_reducible rfl))
        try simp only [Act.put, List.setIfInBounds_toArray, List.set_cons_zero, List.set_cons_succ]
        refine wpAnyH_take (i := 1) (oi := ⟨_, _, _, _, _, _⟩) (v := ?_) rfl (by kernel_rfl) (by kernel_rfl) (by kernel_rfl) (fun _ _ _ h => h) (Or.inl ⟨by rfl, ?_⟩) hHeld ?_
        rotate_left
        · (intro w' hSw; (try dsimp only at hSw); go_simp; (try with_reducible rfl))
        try simp only [Act.put, List.setIfInBounds_toArray, List.set_cons_zero, List.set_cons_succ]
        refine wpAnyH_take (i := 2) (oi := ⟨_, _, _, _, _, _⟩) (v := ?_) rfl (by kernel_rfl) (by kernel_rfl) (by kernel_rfl) (fun _ _ _ h => h) (Or.inl ⟨by rfl, ?_⟩) hHeld ?_
        rotate_left
        · (intro w' hSw; (try dsimp only at hSw); go_simp; (try with_reducible rfl))
        try simp only [Act.put, List.setIfInBounds_toArray, List.set_cons_zero, List.set_cons_succ]
        refine wpAnyH_take (i := 3) (oi := ⟨_, _, _, _, _, _⟩) (v := ?_) rfl (by kernel_rfl) (by kernel_rfl) (by kernel_rfl) (fun _ _ _ h => h) (Or.inl ⟨by rfl, ?_⟩) hHeld ?_
        rotate_left
        · (intro w' hSw; (try dsimp only at hSw); go_simp; (try with_reducible rfl))
        try simp only [Act.put, List.setIfInBounds_toArray, List.set_cons_zero, List.set_cons_succ]
        refine wpAnyH_ready (rs := [4]) (by kernel_rfl) (by simp) ?_
        refine AllReadyH.cons (o := ⟨_, _, _, _, _, _⟩) rfl (fun K hK => ?_) AllReadyH.nil
        go_simp
        have C236 := hidden (value_Null w228)
        (try unfold V.val at C236)
        (try unfold V.null at C236)
        (try dsimp only [rV, iV] at C236)
        (first | (go_at_call 12; refine C236.out.mono ?_))
        rintro e w237 ⟨rfl, hK1⟩
        have H238 := hidden (H229.out.calm hK1)
        have V239 := hidden (V230.out.calm hK1)
        have V240 := hidden (V231.out.calm hK1)
        have V241 := hidden (V232.out.calm hK1)
        have V242 := hidden (V233.out.calm hK1)
        have V243 := hidden (V234.out.calm hK1)
        have Q244 := hidden (Q235.out.trans hK1 (fun _ _ h => h))
        clear C236 hK1 H229 V230 V231 V232 V233 V234 Q235
        (try go_wp2_with fail)
        refine hK.out _ _ ?_ (fun hH2 => ?_)
        · ((try dsimp only); (first | done | exact (by have c0 := (V243.out).cells; exact ⟨c0.1, c0.2.1, c0.2.2.1⟩)))
        clear hK K hHeld
        have hHeld := hH2
        clear hH2
        try simp only [Act.put, List.setIfInBounds_toArray, List.set_cons_zero, List.set_cons_succ]
        refine wpAnyH_take (i := 5) (oi := ⟨_, _, _, _, _, _⟩) (v := ?_) rfl (by kernel_rfl) (by kernel_rfl) (by kernel_rfl) (fun _ _ _ h => h) (Or.inl ⟨by rfl, ?_⟩) hHeld ?_
        rotate_left
        · (intro w' hSw; (try dsimp only at hSw); go_simp; (try with_reducible rfl))
        try simp only [Act.put, List.setIfInBounds_toArray, List.set_cons_zero, List.set_cons_succ]
        refine wpAnyH_take (i := 6) (oi := ⟨_, _, _, _, _, _⟩) (v := ?_) rfl (by kernel_rfl) (by kernel_rfl) (by kernel_rfl) (fun _ _ _ h => h) (Or.inl ⟨by rfl, ?_⟩) hHeld ?_
        rotate_left
        · (intro w' hSw; (try dsimp only at hSw); go_simp; (try with_reducible rfl))
        try simp only [Act.put, List.setIfInBounds_toArray, List.set_cons_zero, List.set_cons_succ]
        refine wpAnyH_done (by kernel_rfl) ?_ _
        refine NoPanic.normal ?_
        clear hHeld
        (try go_wp2_with fail)
        go_meet
        exact ⟨rfl, Q244.out⟩
    case rest =>
    obtain ⟨rfl, hKc⟩ := hcut
    have H245 := hidden (H180.out.calm hKc)
    have V246 := hidden (V181.out.calm hKc)
    have V247 := hidden (V182.out.calm hKc)
    have V248 := hidden (V183.out.calm hKc)
    have V249 := hidden (V184.out.calm hKc)
    have V250 := hidden (V177.out.calm hKc)
    clear hKc H180 V181 V182 V183 V184 V177
    generalize wc = w251 at *
    clear hans hoct hinb
    obtain ⟨l2520, l2521, l2522, l252z⟩ := V246.out.cells
    (try dsimp only [rV, iV, V.null] at l2520 l2521 l2522)
    (try go_wp2_with fail)
    clear l2520 l2521 l2522 l252z
    have SK253 := hidden (fun (W : World) (hk : Keeps (fun _ => False) w251 W) => show W.cell? ⟨w.heap.size, 0, none⟩ = some (.int .i64 kk) ∧ W.cell? ⟨w.heap.size, 1, none⟩ = some (.int .i64 kn) ∧ W.cell? ⟨w.heap.size, 2, none⟩ = some (.string kt) from (by have c0 := (V246.out.calm hk).cells; exact ⟨c0.1, c0.2.1, c0.2.2.1⟩))
    refine wp_region_noPanic ?_
    refine wp_region_held_drew (S := (fun W => W.cell? ⟨w.heap.size, 0, none⟩ = some (.int .i64 kk) ∧ W.cell? ⟨w.heap.size, 1, none⟩ = some (.int .i64 kn) ∧ W.cell? ⟨w.heap.size, 2, none⟩ = some (.string kt))) (by kernel_rfl) ?_ (fun hHeld => ?_)
    · ((try dsimp only); (first | done | exact SK253.out _ ((Keeps.refl _ w251).drew)))
    have KD254 := (Keeps.refl (fun _ => False) w251).drew
    have H256 := hidden (H245.out.calm KD254)
    have V257 := hidden (V246.out.calm KD254)
    have V258 := hidden (V247.out.calm KD254)
    have V259 := hidden (V248.out.calm KD254)
    have V260 := hidden (V249.out.calm KD254)
    have V261 := hidden (V250.out.calm KD254)
    clear KD254 H245 V246 V247 V248 V249 V250
    generalize w251.drew = w255 at *
    clear SK253
    refine wpAnyH_take (i := 0) (oi := ⟨_, _, _, _, _, _⟩) (v := ?_) rfl (by kernel_rfl) (by kernel_rfl) (by kernel_rfl) (fun _ _ _ h => h) (Or.inl ⟨by rfl, ?_⟩) hHeld ?_
    rotate_left
    · (intro w' hSw; (try dsimp only at hSw); go_simp; (try with_reducible rfl))
    try simp only [Act.put, List.setIfInBounds_toArray, List.set_cons_zero, List.set_cons_succ]
    refine wpAnyH_take (i := 2) (oi := ⟨_, _, _, _, _, _⟩) (v := ?_) rfl (by kernel_rfl) (by kernel_rfl) (by kernel_rfl) (fun _ _ _ h => h) (Or.inl ⟨by rfl, ?_⟩) hHeld ?_
    rotate_left
    · (intro w' hSw; (try dsimp only at hSw); go_simp; (try with_reducible rfl))
    try simp only [Act.put, List.setIfInBounds_toArray, List.set_cons_zero, List.set_cons_succ]
    refine wpAnyH_ready (rs := [1]) (by kernel_rfl) (by simp) ?_
    refine AllReadyH.cons (o := ⟨_, _, _, _, _, _⟩) rfl (fun K hK => ?_) AllReadyH.nil
    go_simp
    have C262 := hidden (value_Null w255)
    (try unfold V.val at C262)
    (try unfold V.null at C262)
    (try dsimp only [rV, iV] at C262)
    (first | (go_at_call 12; refine C262.out.mono ?_))
    rintro e w263 ⟨rfl, hK1⟩
    have H264 := hidden (H256.out.calm hK1)
    have V265 := hidden (V257.out.calm hK1)
    have V266 := hidden (V258.out.calm hK1)
    have V267 := hidden (V259.out.calm hK1)
    have V268 := hidden (V260.out.calm hK1)
    have V269 := hidden (V261.out.calm hK1)
    clear C262 hK1 H256 V257 V258 V259 V260 V261
    (try go_wp2_with fail)
    refine hK.out _ _ ?_ (fun hH2 => ?_)
    · ((try dsimp only); (first | done | exact (by have c0 := (V265.out).cells; exact ⟨c0.1, c0.2.1, c0.2.2.1⟩)))
    clear hK K hHeld
    have hHeld := hH2
    clear hH2
    try simp only [Act.put, List.setIfInBounds_toArray, List.set_cons_zero, List.set_cons_succ]
    refine wpAnyH_ready (rs := [3]) (by kernel_rfl) (by simp) ?_
    refine AllReadyH.cons (o := ⟨_, _, _, _, _, _⟩) rfl (fun K hK => ?_) AllReadyH.nil
    go_simp
    have C270 := hidden (slot_Get_null (w := w263) (hb := hb) 0 ⟨#[]⟩ kk kn kt)
    (try unfold V.val at C270)
    (try unfold V.null at C270)
    (try dsimp only [rV, iV] at C270)
    (first | (go_at_call 43; refine C270.out.mono ?_))
    rintro e w271 ⟨rfl, hK1⟩
    have H272 := hidden (H264.out.calm hK1)
    have V273 := hidden (V265.out.calm hK1)
    have V274 := hidden (V266.out.calm hK1)
    have V275 := hidden (V267.out.calm hK1)
    have V276 := hidden (V268.out.calm hK1)
    have V277 := hidden (V269.out.calm hK1)
    clear C270 hK1 H264 V265 V266 V267 V268 V269
    (try go_wp2_with fail)
    refine hK.out _ _ ?_ (fun hH2 => ?_)
    · ((try dsimp only); (first | done | exact (by have c0 := (V273.out).cells; exact ⟨c0.1, c0.2.1, c0.2.2.1⟩)))
    clear hK K hHeld
    have hHeld := hH2
    clear hH2
    try simp only [Act.put, List.setIfInBounds_toArray, List.set_cons_zero, List.set_cons_succ]
    refine wpAnyH_take (i := 4) (oi := ⟨_, _, _, _, _, _⟩) (v := ?_) rfl (by kernel_rfl) (by kernel_rfl) (by kernel_rfl) (fun _ _ _ h => h) (Or.inl ⟨by rfl, ?_⟩) hHeld ?_
    rotate_left
    · (intro w' hSw; (try dsimp only at hSw); go_simp; (try with_reducible rfl))
    try simp only [Act.put, List.setIfInBounds_toArray, List.set_cons_zero, List.set_cons_succ]
    refine wpAnyH_take (i := 5) (oi := ⟨_, _, _, _, _, _⟩) (v := ?_) rfl (by kernel_rfl) (by kernel_rfl) (by kernel_rfl) (fun _ _ _ h => h) (Or.inl ⟨by rfl, ?_⟩) hHeld ?_
    rotate_left
    · (intro w' hSw; (try dsimp only at hSw); go_simp; (try with_reducible rfl))
    try simp only [Act.put, List.setIfInBounds_toArray, List.set_cons_zero, List.set_cons_succ]
    refine wpAnyH_take (i := 6) (oi := ⟨_, _, _, _, _, _⟩) (v := ?_) rfl (by kernel_rfl) (by kernel_rfl) (by kernel_rfl) (fun _ _ _ h => h) (Or.inl ⟨by rfl, ?_⟩) hHeld ?_
    rotate_left
    · (intro w' hSw; (try dsimp only at hSw); go_simp; (try with_reducible rfl))
    try simp only [Act.put, List.setIfInBounds_toArray, List.set_cons_zero, List.set_cons_succ]
    refine wpAnyH_take (i := 7) (oi := ⟨_, _, _, _, _, _⟩) (v := ?_) rfl (by kernel_rfl) (by kernel_rfl) (by kernel_rfl) (fun _ _ _ h => h) (Or.inl ⟨by rfl, ?_⟩) hHeld ?_
    rotate_left
    · (intro w' hSw; (try dsimp only at hSw); go_simp; (try with_reducible rfl))
    try simp only [Act.put, List.setIfInBounds_toArray, List.set_cons_zero, List.set_cons_succ]
    refine wpAnyH_done (by kernel_rfl) ?_ _
    refine NoPanic.normal ?_
    clear hHeld
    obtain ⟨l2780, l2781, l2782, l278z⟩ := V273.out.cells
    (try dsimp only [rV, iV, V.null] at l2780 l2781 l2782)
    (try go_wp2_with fail)
    clear l2780 l2781 l2782 l278z
    have SK280 := hidden (fun (W : World) (hk : Keeps (fun k => w271.heap.size ≤ k) w271 W) => show W.cell? ⟨w.heap.size, 0, none⟩ = some (.int .i64 kk) ∧ W.cell? ⟨w.heap.size, 1, none⟩ = some (.int .i64 kn) ∧ W.cell? ⟨w.heap.size, 2, none⟩ = some (.string kt) from (by have c0 := (V273.out.beyond hk).cells; exact ⟨c0.1, c0.2.1, c0.2.2.1⟩))
    have C281 := hidden (fun (W : World) (hk : Keeps (fun _ => False) w271 W) => value_Int 1 W)
    (try unfold V.val at C281)
    (try unfold V.null at C281)
    (try dsimp only [rV, iV] at C281)
    have C282 := hidden (fun (W : World) (hk : Keeps (fun _ => False) w271 W) => slot_Get_no (H272.out.calm hk).heap 2 1 ⟨#[]⟩ (by decide) (by decide) (not_num _ _ 0) kk kn kt)
    (try unfold V.val at C282)
    (try unfold V.null at C282)
    (try dsimp only [rV, iV] at C282)
    refine wp_region_noPanic ?_
    refine wp_region_held_drew (S := (fun W => W.cell? ⟨w.heap.size, 0, none⟩ = some (.int .i64 kk) ∧ W.cell? ⟨w.heap.size, 1, none⟩ = some (.int .i64 kn) ∧ W.cell? ⟨w.heap.size, 2, none⟩ = some (.string kt))) (by kernel_rfl) ?_ (fun hHeld => ?_)
    · ((try dsimp only); exact SK280.out _ ((Keeps.refl _ w271).drew))
    refine wpAnyH_take (i := 0) (oi := ⟨_, _, _, _, _, _⟩) (v := ?_) rfl (by kernel_rfl) (by kernel_rfl) (by kernel_rfl) (fun _ _ _ h => h) (Or.inl ⟨by rfl, ?_⟩) hHeld ?_
    rotate_left
    · (intro w' hSw; (try dsimp only at hSw); go_simp; (try with_reducible rfl))
    try simp only [Act.put, List.setIfInBounds_toArray, List.set_cons_zero, List.set_cons_succ]
    refine wpAnyH_take (i := 2) (oi := ⟨_, _, _, _, _, _⟩) (v := ?_) rfl (by kernel_rfl) (by kernel_rfl) (by kernel_rfl) (fun _ _ _ h => h) (Or.inl ⟨by rfl, ?_⟩) hHeld ?_
    rotate_left
    · (intro w' hSw; (try dsimp only at hSw); go_simp; (try with_reducible rfl))
    try simp only [Act.put, List.setIfInBounds_toArray, List.set_cons_zero, List.set_cons_succ]
    have KDx278 := hidden ((Keeps.refl (fun _ => False) w271).drew)
    generalize w271.drew = wdx278 at *
    clear hHeld
    refine merge1 ?PPx278 (fun TAIL => ?_) ?_
    rotate_left
    · refine wpAnyH_ready (rs := [1, 7]) (by kernel_rfl) (by simp) ?_
      refine AllReadyH.cons (o := ⟨_, _, _, _, _, _⟩) rfl (fun K hK => ?_) (AllReadyH.cons (o := ⟨_, _, _, _, _, _⟩) rfl (fun K hK => ?_) AllReadyH.nil)
      · go_simp
        (first | (go_at_call 17; refine (C281.out wdx278 KDx278.out).mono ?_; rintro e wcx2781 ⟨rfl, h1⟩))
        go_wp2_with fail
        have KCx2781 := hidden (KDx278.out.trans h1 (fun _ _ h => h))
        refine hK.out _ _ ?_ (fun hH2 => ?_)
        · ((try dsimp only); exact SK280.out _ (KCx2781.out.mono (fun _ _ h => h.elim)))
        clear hK K hH2
        try simp only [Act.put, List.setIfInBounds_toArray, List.set_cons_zero, List.set_cons_succ]
        clear h1 
        refine wpAnyH_ready (rs := [3, 7]) (by kernel_rfl) (by simp) ?_
        refine AllReadyH.cons (o := ⟨_, _, _, _, _, _⟩) rfl (fun K hK => ?_) (AllReadyH.cons (o := ⟨_, _, _, _, _, _⟩) rfl (fun K hK => ?_) AllReadyH.nil)
        · go_simp
          (first | (go_at_call 43; refine (C282.out wcx2781 KCx2781.out).mono ?_; rintro e wcx2782 ⟨rfl, h1⟩))
          go_wp2_with fail
          have KCx2782 := hidden (KCx2781.out.trans h1 (fun _ _ h => h))
          refine hK.out _ _ ?_ (fun hH2 => ?_)
          · ((try dsimp only); exact SK280.out _ (KCx2782.out.mono (fun _ _ h => h.elim)))
          clear hK K hH2
          try simp only [Act.put, List.setIfInBounds_toArray, List.set_cons_zero, List.set_cons_succ]
          clear h1 KCx2781
          have hHeld := SK280.out _ (KCx2782.out.mono (fun _ _ h => h.elim))
          (try dsimp only at hHeld)
          refine wpAnyH_take (i := 4) (oi := ⟨_, _, _, _, _, _⟩) (v := ?_) rfl (by kernel_rfl) (by kernel_rfl) (by kernel_rfl) (fun _ _ _ h => h) (Or.inl ⟨by rfl, ?_⟩) hHeld ?_
          rotate_left
          · (intro w' hSw; (try dsimp only at hSw); go_simp; (try with_reducible rfl))
          try simp only [Act.put, List.setIfInBounds_toArray, List.set_cons_zero, List.set_cons_succ]
          refine wpAnyH_take (i := 5) (oi := ⟨_, _, _, _, _, _⟩) (v := ?_) rfl (by kernel_rfl) (by kernel_rfl) (by kernel_rfl) (fun _ _ _ h => h) (Or.inl ⟨by rfl, ?_⟩) hHeld ?_
          rotate_left
          · (intro w' hSw; (try dsimp only at hSw); go_simp; (try with_reducible rfl))
          try simp only [Act.put, List.setIfInBounds_toArray, List.set_cons_zero, List.set_cons_succ]
          refine wpAnyH_take (i := 6) (oi := ⟨_, _, _, _, _, _⟩) (v := ?_) rfl (by kernel_rfl) (by kernel_rfl) (by kernel_rfl) (fun _ _ _ h => h) (Or.inl ⟨by rfl, ?_⟩) hHeld ?_
          rotate_left
          · (intro w' hSw; (try dsimp only at hSw); go_simp; (try with_reducible rfl))
          try simp only [Act.put, List.setIfInBounds_toArray, List.set_cons_zero, List.set_cons_succ]
          clear hHeld
          refine wpAnyH_ready (rs := [7]) (by kernel_rfl) (by simp) ?_
          refine AllReadyH.cons (o := ⟨_, _, _, _, _, _⟩) rfl (fun K hK => ?_) AllReadyH.nil
          go_simp
          refine hK.out _ _ ?_ (fun hH2 => ?_)
          · ((try dsimp only); exact SK280.out _ ((KCx2782.out.alloc _).mono (fun _ _ h => h.elim)))
          clear hK K hH2
          try simp only [Act.put, List.setIfInBounds_toArray, List.set_cons_zero, List.set_cons_succ]
          have KAx2783 := hidden (KCx2782.out.alloc (.cells #[.int .i64 0, .int .i64 0, .string ⟨#[]⟩] 26))
          have XX3 := hidden (show IsVar (wcx2782.alloc (.cells #[.int .i64 0, .int .i64 0, .string ⟨#[]⟩] 26)) wcx2782.heap.size V.null from IsVar.new wcx2782 V.null)
          have GG3 := hidden (show w271.heap.size ≤ wcx2782.heap.size from KCx2782.out.size)
          clear KCx2782
          generalize wcx2782.heap.size = rx2780_3 at *
          generalize wcx2782.alloc (.cells #[.int .i64 0, .int .i64 0, .string ⟨#[]⟩] 26) = wax2783 at *
          have ALL := hidden (show Keeps (fun _ => False) w271 wax2783 ∧ IsVar wax2783 rx2780_3 V.null ∧ w271.heap.size ≤ rx2780_3 from ⟨KAx2783.out, XX3.out, GG3.out⟩)
          revert ALL
          exact TAIL rx2780_3 wax2783
        · go_simp
          refine hK.out _ _ ?_ (fun hH2 => ?_)
          · ((try dsimp only); exact SK280.out _ ((KCx2781.out.alloc _).mono (fun _ _ h => h.elim)))
          clear hK K hH2
          try simp only [Act.put, List.setIfInBounds_toArray, List.set_cons_zero, List.set_cons_succ]
          have KAx2784 := hidden (KCx2781.out.alloc (.cells #[.int .i64 0, .int .i64 0, .string ⟨#[]⟩] 26))
          have XX4 := hidden (show IsVar (wcx2781.alloc (.cells #[.int .i64 0, .int .i64 0, .string ⟨#[]⟩] 26)) wcx2781.heap.size V.null from IsVar.new wcx2781 V.null)
          have GG4 := hidden (show w271.heap.size ≤ wcx2781.heap.size from KCx2781.out.size)
          clear KCx2781
          generalize wcx2781.heap.size = rx2780_4 at *
          generalize wcx2781.alloc (.cells #[.int .i64 0, .int .i64 0, .string ⟨#[]⟩] 26) = wax2784 at *
          refine wpAnyH_ready (rs := [3]) (by kernel_rfl) (by simp) ?_
          refine AllReadyH.cons (o := ⟨_, _, _, _, _, _⟩) rfl (fun K hK => ?_) AllReadyH.nil
          go_simp
          (first | (go_at_call 43; refine (C282.out wax2784 KAx2784.out).mono ?_; rintro e wcx2785 ⟨rfl, h1⟩))
          go_wp2_with fail
          have KCx2785 := hidden (KAx2784.out.trans h1 (fun _ _ h => h))
          refine hK.out _ _ ?_ (fun hH2 => ?_)
          · ((try dsimp only); exact SK280.out _ (KCx2785.out.mono (fun _ _ h => h.elim)))
          clear hK K hH2
          try simp only [Act.put, List.setIfInBounds_toArray, List.set_cons_zero, List.set_cons_succ]
          have XX5_0 := hidden (show IsVar wcx2785 rx2780_4 V.null from XX4.out.keeps h1 (fun h => h))
          clear h1 KAx2784
          have hHeld := SK280.out _ (KCx2785.out.mono (fun _ _ h => h.elim))
          (try dsimp only at hHeld)
          refine wpAnyH_take (i := 4) (oi := ⟨_, _, _, _, _, _⟩) (v := ?_) rfl (by kernel_rfl) (by kernel_rfl) (by kernel_rfl) (fun _ _ _ h => h) (Or.inl ⟨by rfl, ?_⟩) hHeld ?_
          rotate_left
          · (intro w' hSw; (try dsimp only at hSw); go_simp; (try with_reducible rfl))
          try simp only [Act.put, List.setIfInBounds_toArray, List.set_cons_zero, List.set_cons_succ]
          refine wpAnyH_take (i := 5) (oi := ⟨_, _, _, _, _, _⟩) (v := ?_) rfl (by kernel_rfl) (by kernel_rfl) (by kernel_rfl) (fun _ _ _ h => h) (Or.inl ⟨by rfl, ?_⟩) hHeld ?_
          rotate_left
          · (intro w' hSw; (try dsimp only at hSw); go_simp; (try with_reducible rfl))
          try simp only [Act.put, List.setIfInBounds_toArray, List.set_cons_zero, List.set_cons_succ]
          refine wpAnyH_take (i := 6) (oi := ⟨_, _, _, _, _, _⟩) (v := ?_) rfl (by kernel_rfl) (by kernel_rfl) (by kernel_rfl) (fun _ _ _ h => h) (Or.inl ⟨by rfl, ?_⟩) hHeld ?_
          rotate_left
          · (intro w' hSw; (try dsimp only at hSw); go_simp; (try with_reducible rfl))
          try simp only [Act.put, List.setIfInBounds_toArray, List.set_cons_zero, List.set_cons_succ]
          clear hHeld
          have ALL := hidden (show Keeps (fun _ => False) w271 wcx2785 ∧ IsVar wcx2785 rx2780_4 V.null ∧ w271.heap.size ≤ rx2780_4 from ⟨KCx2785.out, XX5_0.out, GG4.out⟩)
          revert ALL
          exact TAIL rx2780_4 wcx2785
      · go_simp
        refine hK.out _ _ ?_ (fun hH2 => ?_)
        · ((try dsimp only); exact SK280.out _ ((KDx278.out.alloc _).mono (fun _ _ h => h.elim)))
        clear hK K hH2
        try simp only [Act.put, List.setIfInBounds_toArray, List.set_cons_zero, List.set_cons_succ]
        have KAx2786 := hidden (KDx278.out.alloc (.cells #[.int .i64 0, .int .i64 0, .string ⟨#[]⟩] 26))
        have XX6 := hidden (show IsVar (wdx278.alloc (.cells #[.int .i64 0, .int .i64 0, .string ⟨#[]⟩] 26)) wdx278.heap.size V.null from IsVar.new wdx278 V.null)
        have GG6 := hidden (show w271.heap.size ≤ wdx278.heap.size from KDx278.out.size)
        generalize wdx278.heap.size = rx2780_6 at *
        generalize wdx278.alloc (.cells #[.int .i64 0, .int .i64 0, .string ⟨#[]⟩] 26) = wax2786 at *
        refine wpAnyH_ready (rs := [1]) (by kernel_rfl) (by simp) ?_
        refine AllReadyH.cons (o := ⟨_, _, _, _, _, _⟩) rfl (fun K hK => ?_) AllReadyH.nil
        go_simp
        (first | (go_at_call 17; refine (C281.out wax2786 KAx2786.out).mono ?_; rintro e wcx2787 ⟨rfl, h1⟩))
        go_wp2_with fail
        have KCx2787 := hidden (KAx2786.out.trans h1 (fun _ _ h => h))
        refine hK.out _ _ ?_ (fun hH2 => ?_)
        · ((try dsimp only); exact SK280.out _ (KCx2787.out.mono (fun _ _ h => h.elim)))
        clear hK K hH2
        try simp only [Act.put, List.setIfInBounds_toArray, List.set_cons_zero, List.set_cons_succ]
        have XX7_0 := hidden (show IsVar wcx2787 rx2780_6 V.null from XX6.out.keeps h1 (fun h => h))
        clear h1 KAx2786
        refine wpAnyH_ready (rs := [3]) (by kernel_rfl) (by simp) ?_
        refine AllReadyH.cons (o := ⟨_, _, _, _, _, _⟩) rfl (fun K hK => ?_) AllReadyH.nil
        go_simp
        (first | (go_at_call 43; refine (C282.out wcx2787 KCx2787.out).mono ?_; rintro e wcx2788 ⟨rfl, h1⟩))
        go_wp2_with fail
        have KCx2788 := hidden (KCx2787.out.trans h1 (fun _ _ h => h))
        refine hK.out _ _ ?_ (fun hH2 => ?_)
        · ((try dsimp only); exact SK280.out _ (KCx2788.out.mono (fun _ _ h => h.elim)))
        clear hK K hH2
        try simp only [Act.put, List.setIfInBounds_toArray, List.set_cons_zero, List.set_cons_succ]
        have XX8_0 := hidden (show IsVar wcx2788 rx2780_6 V.null from XX7_0.out.keeps h1 (fun h => h))
        clear h1 KCx2787
        have hHeld := SK280.out _ (KCx2788.out.mono (fun _ _ h => h.elim))
        (try dsimp only at hHeld)
        refine wpAnyH_take (i := 4) (oi := ⟨_, _, _, _, _, _⟩) (v := ?_) rfl (by kernel_rfl) (by kernel_rfl) (by kernel_rfl) (fun _ _ _ h => h) (Or.inl ⟨by rfl, ?_⟩) hHeld ?_
        rotate_left
        · (intro w' hSw; (try dsimp only at hSw); go_simp; (try with_reducible rfl))
        try simp only [Act.put, List.setIfInBounds_toArray, List.set_cons_zero, List.set_cons_succ]
        refine wpAnyH_take (i := 5) (oi := ⟨_, _, _, _, _, _⟩) (v := ?_) rfl (by kernel_rfl) (by kernel_rfl) (by kernel_rfl) (fun _ _ _ h => h) (Or.inl ⟨by rfl, ?_⟩) hHeld ?_
        rotate_left
        · (intro w' hSw; (try dsimp only at hSw); go_simp; (try with_reducible rfl))
        try simp only [Act.put, List.setIfInBounds_toArray, List.set_cons_zero, List.set_cons_succ]
        refine wpAnyH_take (i := 6) (oi := ⟨_, _, _, _, _, _⟩) (v := ?_) rfl (by kernel_rfl) (by kernel_rfl) (by kernel_rfl) (fun _ _ _ h => h) (Or.inl ⟨by rfl, ?_⟩) hHeld ?_
        rotate_left
        · (intro w' hSw; (try dsimp only at hSw); go_simp; (try with_reducible rfl))
        try simp only [Act.put, List.setIfInBounds_toArray, List.set_cons_zero, List.set_cons_succ]
        clear hHeld
        have ALL := hidden (show Keeps (fun _ => False) w271 wcx2788 ∧ IsVar wcx2788 rx2780_6 V.null ∧ w271.heap.size ≤ rx2780_6 from ⟨KCx2788.out, XX8_0.out, GG6.out⟩)
        revert ALL
        exact TAIL rx2780_6 wcx2788
    · intro rx2780 wzx278 ALL
      obtain ⟨hKZ, hXR0, hGR0⟩ := ALL.out
      have KZx278 := hidden hKZ
      have XRx2780 := hidden hXR0
      have GRx2780 := hidden hGR0
      clear ALL hKZ hXR0 hGR0
      have KSx278 := hidden (show Keeps (fun k => w271.heap.size ≤ k) w271 wzx278 from KZx278.out.mono (fun _ _ h => h.elim))
      obtain ⟨a0, a1, a2, a3, a4, a5⟩ := XRx2780.out.cells
      have haz := blk_lt XRx2780.out
      simp only [V.null] at a0 a1 a2
      have hHeld := SK280.out _ KSx278.out
      (try dsimp only at hHeld)
      refine wpAnyH_ready (rs := [8]) (by kernel_rfl) (by simp) ?_
      refine AllReadyH.cons (o := ⟨_, _, _, _, _, _⟩) rfl (fun K hK => ?_) AllReadyH.nil
      go_simp
      refine hK.out _ _ ?_ (fun hH2 => ?_)
      · ((try dsimp only); refine SK280.out _ ?_; (repeat with_reducible (first | exact KSx278.out | refine Keeps.var ?_ (fun _ => (by first | exact GRx2780.out)) _ _ _)))
      clear hK K hHeld
      have hHeld := hH2
      clear hH2
      try simp only [Act.put, List.setIfInBounds_toArray, List.set_cons_zero, List.set_cons_succ]
      refine wpAnyH_take (i := 9) (oi := ⟨_, _, _, _, _, _⟩) (v := ?_) rfl (by kernel_rfl) (by kernel_rfl) (by kernel_rfl) (fun _ _ _ h => h) (Or.inl ⟨by rfl, ?_⟩) hHeld ?_
      rotate_left
      · (intro w' hSw; (try dsimp only at hSw); go_simp; (try with_reducible rfl))
      try simp only [Act.put, List.setIfInBounds_toArray, List.set_cons_zero, List.set_cons_succ]
      refine wpAnyH_done (by kernel_rfl) ?_ _
      refine NoPanic.normal ?_
      clear hHeld
      have K283 : Keeps (fun k => w271.heap.size ≤ k) w271 (((wzx278.setCell ⟨rx2780, 0, none⟩ (.int .i64 0)).setCell ⟨rx2780, 1, none⟩ (.int .i64 0)).setCell ⟨rx2780, 2, none⟩ (.string ⟨#[]⟩)) := by repeat with_reducible (first | exact KSx278.out | refine Keeps.var ?_ (fun _ => (by first | exact GRx2780.out)) _ _ _)
      have V285 := hidden (show Vr F143 (((wzx278.setCell ⟨rx2780, 0, none⟩ (.int .i64 0)).setCell ⟨rx2780, 1, none⟩ (.int .i64 0)).setCell ⟨rx2780, 2, none⟩ (.string ⟨#[]⟩)) rx2780 ⟨0, 0, ⟨#[]⟩⟩ from ⟨(XRx2780.out.set ⟨0, 0, ⟨#[]⟩⟩), fun h => by have := H272.out.heap.inw _ h; have := GRx2780.out; omega⟩)
      have H286 := hidden (H272.out.beyond K283)
      have V287 := hidden (V273.out.beyond K283)
      have V288 := hidden (V274.out.beyond K283)
      have V289 := hidden (V275.out.beyond K283)
      have V290 := hidden (V276.out.beyond K283)
      have V291 := hidden (V277.out.beyond K283)
      clear K283 SK280 H272 V273 V274 V275 V276 V277 KSx278 KZx278 XRx2780 GRx2780 a0 a1 a2 a3 a4 a5 haz
      generalize (((wzx278.setCell ⟨rx2780, 0, none⟩ (.int .i64 0)).setCell ⟨rx2780, 1, none⟩ (.int .i64 0)).setCell ⟨rx2780, 2, none⟩ (.string ⟨#[]⟩)) = w284 at *
      obtain ⟨l2920, l2921, l2922, l292z⟩ := V287.out.cells
      (try dsimp only [rV, iV, V.null] at l2920 l2921 l2922)
      (try go_wp2_with fail)
      clear l2920 l2921 l2922 l292z
      have SK293 := hidden (fun (W : World) (hk : Keeps (fun _ => False) w284 W) => show W.cell? ⟨w.heap.size, 0, none⟩ = some (.int .i64 kk) ∧ W.cell? ⟨w.heap.size, 1, none⟩ = some (.int .i64 kn) ∧ W.cell? ⟨w.heap.size, 2, none⟩ = some (.string kt) ∧ W.cell? ⟨v30, 0, none⟩ = some (.int .i64 4) ∧ W.cell? ⟨v30, 1, none⟩ = some (.int .i64 l) ∧ W.cell? ⟨v30, 2, none⟩ = some (.string ⟨#[]⟩) ∧ W.cell? ⟨v109, 0, none⟩ = some (.int .i64 4) ∧ W.cell? ⟨v109, 1, none⟩ = some (.int .i64 i) ∧ W.cell? ⟨v109, 2, none⟩ = some (.string ⟨#[]⟩) from (by have c0 := (V287.out.calm hk).cells; have c1 := (V288.out.calm hk).cells; have c2 := (V290.out.calm hk).cells; exact ⟨c0.1, c0.2.1, c0.2.2.1, c1.1, c1.2.1, c1.2.2.1, c2.1, c2.2.1, c2.2.2.1⟩))
      refine wp_region_noPanic ?_
      refine wp_region_held_drew (S := (fun W => W.cell? ⟨w.heap.size, 0, none⟩ = some (.int .i64 kk) ∧ W.cell? ⟨w.heap.size, 1, none⟩ = some (.int .i64 kn) ∧ W.cell? ⟨w.heap.size, 2, none⟩ = some (.string kt) ∧ W.cell? ⟨v30, 0, none⟩ = some (.int .i64 4) ∧ W.cell? ⟨v30, 1, none⟩ = some (.int .i64 l) ∧ W.cell? ⟨v30, 2, none⟩ = some (.string ⟨#[]⟩) ∧ W.cell? ⟨v109, 0, none⟩ = some (.int .i64 4) ∧ W.cell? ⟨v109, 1, none⟩ = some (.int .i64 i) ∧ W.cell? ⟨v109, 2, none⟩ = some (.string ⟨#[]⟩))) (by kernel_rfl) ?_ (fun hHeld => ?_)
      · ((try dsimp only); (first | done | exact SK293.out _ ((Keeps.refl _ w284).drew)))
      have KD294 := (Keeps.refl (fun _ => False) w284).drew
      have H296 := hidden (H286.out.calm KD294)
      have V297 := hidden (V287.out.calm KD294)
      have V298 := hidden (V288.out.calm KD294)
      have V299 := hidden (V289.out.calm KD294)
      have V300 := hidden (V290.out.calm KD294)
      have V301 := hidden (V291.out.calm KD294)
      have V302 := hidden (V285.out.calm KD294)
      clear KD294 H286 V287 V288 V289 V290 V291 V285
      generalize w284.drew = w295 at *
      clear SK293
      refine wpAnyH_take (i := 0) (oi := ⟨_, _, _, _, _, _⟩) (v := ?_) rfl (by kernel_rfl) (by kernel_rfl) (by kernel_rfl) (fun _ _ _ h => h) (Or.inl ⟨by rfl, ?_⟩) hHeld ?_
      rotate_left
      · (intro w' hSw; (try dsimp only at hSw); go_simp; (try with_reducible rfl))
      try simp only [Act.put, List.setIfInBounds_toArray, List.set_cons_zero, List.set_cons_succ]
      refine wpAnyH_take (i := 1) (oi := ⟨_, _, _, _, _, _⟩) (v := ?_) rfl (by kernel_rfl) (by kernel_rfl) (by kernel_rfl) (fun _ _ _ h => h) (Or.inl ⟨by rfl, ?_⟩) hHeld ?_
      rotate_left
      · (intro w' hSw; (try dsimp only at hSw); go_simp; (try with_reducible rfl))
      try simp only [Act.put, List.setIfInBounds_toArray, List.set_cons_zero, List.set_cons_succ]
      refine wpAnyH_take (i := 2) (oi := ⟨_, _, _, _, _, _⟩) (v := ?_) rfl (by kernel_rfl) (by kernel_rfl) (by kernel_rfl) (fun _ _ _ h => h) (Or.inl ⟨by rfl, ?_⟩) hHeld ?_
      rotate_left
      · (intro w' hSw; (try dsimp only at hSw); go_simp; (try with_reducible rfl))
      try simp only [Act.put, List.setIfInBounds_toArray, List.set_cons_zero, List.set_cons_succ]
      refine wpAnyH_take (i := 3) (oi := ⟨_, _, _, _, _, _⟩) (v := ?_) rfl (by kernel_rfl) (by kernel_rfl) (by kernel_rfl) (fun _ _ _ h => h) (Or.inl ⟨by rfl, ?_⟩) hHeld ?_
      rotate_left
      · (intro w' hSw; (try dsimp only at hSw); go_simp; (try with_reducible rfl))
      try simp only [Act.put, List.setIfInBounds_toArray, List.set_cons_zero, List.set_cons_succ]
      refine wpAnyH_take (i := 4) (oi := ⟨_, _, _, _, _, _⟩) (v := ?_) rfl (by kernel_rfl) (by kernel_rfl) (by kernel_rfl) (fun _ _ _ h => h) (Or.inl ⟨by rfl, ?_⟩) hHeld ?_
      rotate_left
      · (intro w' hSw; (try dsimp only at hSw); go_simp; (try with_reducible rfl))
      try simp only [Act.put, List.setIfInBounds_toArray, List.set_cons_zero, List.set_cons_succ]
      refine wpAnyH_take (i := 5) (oi := ⟨_, _, _, _, _, _⟩) (v := ?_) rfl (by kernel_rfl) (by kernel_rfl) (by kernel_rfl) (fun _ _ _ h => h) (Or.inl ⟨by rfl, ?_⟩) hHeld ?_
      rotate_left
      · (intro w' hSw; (try dsimp only at hSw); go_simp; (try with_reducible rfl))
      try simp only [Act.put, List.setIfInBounds_toArray, List.set_cons_zero, List.set_cons_succ]
      refine wpAnyH_take (i := 6) (oi := ⟨_, _, _, _, _, _⟩) (v := ?_) rfl (by kernel_rfl) (by kernel_rfl) (by kernel_rfl) (fun _ _ _ h => h) (Or.inl ⟨by rfl, ?_⟩) hHeld ?_
      rotate_left
      · (intro w' hSw; (try dsimp only at hSw); go_simp; (try with_reducible rfl))
      try simp only [Act.put, List.setIfInBounds_toArray, List.set_cons_zero, List.set_cons_succ]
      refine wpAnyH_take (i := 7) (oi := ⟨_, _, _, _, _, _⟩) (v := ?_) rfl (by kernel_rfl) (by kernel_rfl) (by kernel_rfl) (fun _ _ _ h => h) (Or.inl ⟨by rfl, ?_⟩) hHeld ?_
      rotate_left
      · (intro w' hSw; (try dsimp only at hSw); go_simp; (try with_reducible rfl))
      try simp only [Act.put, List.setIfInBounds_toArray, List.set_cons_zero, List.set_cons_succ]
      refine wpAnyH_take (i := 9) (oi := ⟨_, _, _, _, _, _⟩) (v := ?_) rfl (by kernel_rfl) (by kernel_rfl) (by kernel_rfl) (fun _ _ _ h => h) (Or.inl ⟨by rfl, ?_⟩) hHeld ?_
      rotate_left
      · (intro w' hSw; (try dsimp only at hSw); go_simp; (try with_reducible rfl))
      try simp only [Act.put, List.setIfInBounds_toArray, List.set_cons_zero, List.set_cons_succ]
      refine wpAnyH_take (i := 10) (oi := ⟨_, _, _, _, _, _⟩) (v := ?_) rfl (by kernel_rfl) (by kernel_rfl) (by kernel_rfl) (fun _ _ _ h => h) (Or.inl ⟨by rfl, ?_⟩) hHeld ?_
      rotate_left
      · (intro w' hSw; (try dsimp only at hSw); go_simp; (try with_reducible rfl))
      try simp only [Act.put, List.setIfInBounds_toArray, List.set_cons_zero, List.set_cons_succ]
      refine wpAnyH_ready (rs := [8]) (by kernel_rfl) (by simp) ?_
      refine AllReadyH.cons (o := ⟨_, _, _, _, _, _⟩) rfl (fun K hK => ?_) AllReadyH.nil
      go_simp
      have C303 := hidden (value_Int 1 w295)
      (try unfold V.val at C303)
      (try unfold V.null at C303)
      (try dsimp only [rV, iV] at C303)
      (first | (go_at_call 17; refine C303.out.mono ?_))
      rintro e w304 ⟨rfl, hK1⟩
      have H305 := hidden (H296.out.calm hK1)
      have V306 := hidden (V297.out.calm hK1)
      have V307 := hidden (V298.out.calm hK1)
      have V308 := hidden (V299.out.calm hK1)
      have V309 := hidden (V300.out.calm hK1)
      have V310 := hidden (V301.out.calm hK1)
      have V311 := hidden (V302.out.calm hK1)
      clear C303 hK1 H296 V297 V298 V299 V300 V301 V302
      (try go_wp2_with fail)
      refine hK.out _ _ ?_ (fun hH2 => ?_)
      · ((try dsimp only); (first | done | exact (by have c0 := (V306.out).cells; have c1 := (V307.out).cells; have c2 := (V309.out).cells; exact ⟨c0.1, c0.2.1, c0.2.2.1, c1.1, c1.2.1, c1.2.2.1, c2.1, c2.2.1, c2.2.2.1⟩)))
      clear hK K hHeld
      have hHeld := hH2
      clear hH2
      try simp only [Act.put, List.setIfInBounds_toArray, List.set_cons_zero, List.set_cons_succ]
      refine wpAnyH_ready (rs := [11]) (by kernel_rfl) (by simp) ?_
      refine AllReadyH.cons (o := ⟨_, _, _, _, _, _⟩) rfl (fun K hK => ?_) AllReadyH.nil
      go_simp
      have C312 := hidden (slot_Set_no H305.out.heap 2 1 ⟨#[]⟩ (not_num _ _ 0) kk kn kt kk kn kt)
      (try unfold V.val at C312)
      (try unfold V.null at C312)
      (try dsimp only [rV, iV] at C312)
      (first | (go_at_call 41; refine C312.out.mono ?_))
      rintro e w313 ⟨rfl, hK1⟩
      have H314 := hidden (H305.out.calm hK1)
      have V315 := hidden (V306.out.calm hK1)
      have V316 := hidden (V307.out.calm hK1)
      have V317 := hidden (V308.out.calm hK1)
      have V318 := hidden (V309.out.calm hK1)
      have V319 := hidden (V310.out.calm hK1)
      have V320 := hidden (V311.out.calm hK1)
      clear C312 hK1 H305 V306 V307 V308 V309 V310 V311
      (try go_wp2_with fail)
      refine hK.out _ _ ?_ (fun hH2 => ?_)
      · ((try dsimp only); (first | done | exact (by have c0 := (V315.out).cells; have c1 := (V316.out).cells; have c2 := (V318.out).cells; exact ⟨c0.1, c0.2.1, c0.2.2.1, c1.1, c1.2.1, c1.2.2.1, c2.1, c2.2.1, c2.2.2.1⟩)))
      clear hK K hHeld
      have hHeld := hH2
      clear hH2
      try simp only [Act.put, List.setIfInBounds_toArray, List.set_cons_zero, List.set_cons_succ]
      refine wpAnyH_take (i := 12) (oi := ⟨_, _, _, _, _, _⟩) (v := ?_) rfl (by kernel_rfl) (by kernel_rfl) (by kernel_rfl) (fun _ _ _ h => h) (Or.inl ⟨by rfl, ?_⟩) hHeld ?_
      rotate_left
      · (intro w' hSw; (try dsimp only at hSw); go_simp; (try with_reducible rfl))
      try simp only [Act.put, List.setIfInBounds_toArray, List.set_cons_zero, List.set_cons_succ]
      refine wpAnyH_take (i := 13) (oi := ⟨_, _, _, _, _, _⟩) (v := ?_) rfl (by kernel_rfl) (by kernel_rfl) (by kernel_rfl) (fun _ _ _ h => h) (Or.inl ⟨by rfl, ?_⟩) hHeld ?_
      rotate_left
      · (intro w' hSw; (try dsimp only at hSw); go_simp; (try with_reducible rfl))
      try simp only [Act.put, List.setIfInBounds_toArray, List.set_cons_zero, List.set_cons_succ]
      refine wpAnyH_take (i := 14) (oi := ⟨_, _, _, _, _, _⟩) (v := ?_) rfl (by kernel_rfl) (by kernel_rfl) (by kernel_rfl) (fun _ _ _ h => h) (Or.inl ⟨by rfl, ?_⟩) hHeld ?_
      rotate_left
      · (intro w' hSw; (try dsimp only at hSw); go_simp; (try with_reducible rfl))
      try simp only [Act.put, List.setIfInBounds_toArray, List.set_cons_zero, List.set_cons_succ]
      refine wpAnyH_take (i := 15) (oi := ⟨_, _, _, _, _, _⟩) (v := ?_) rfl (by kernel_rfl) (by kernel_rfl) (by kernel_rfl) (fun _ _ _ h => h) (Or.inl ⟨by rfl, ?_⟩) hHeld ?_
      rotate_left
      · (intro w' hSw; (try dsimp only at hSw); go_simp; (try with_reducible rfl))
      try simp only [Act.put, List.setIfInBounds_toArray, List.set_cons_zero, List.set_cons_succ]
      refine wpAnyH_take (i := 16) (oi := ⟨_, _, _, _, _, _⟩) (v := ?_) rfl (by kernel_rfl) (by kernel_rfl) (by kernel_rfl) (fun _ _ _ h => h) (Or.inl ⟨by rfl, ?_⟩) hHeld ?_
      rotate_left
      · (intro w' hSw; (try dsimp only at hSw); go_simp; (try with_reducible rfl))
      try simp only [Act.put, List.setIfInBounds_toArray, List.set_cons_zero, List.set_cons_succ]
      refine wpAnyH_take (i := 17) (oi := ⟨_, _, _, _, _, _⟩) (v := ?_) rfl (by kernel_rfl) (by kernel_rfl) (by kernel_rfl) (fun _ _ _ h => h) (Or.inl ⟨by rfl, ?_⟩) hHeld ?_
      rotate_left
      · (intro w' hSw; (try dsimp only at hSw); go_simp; (try with_reducible rfl))
      try simp only [Act.put, List.setIfInBounds_toArray, List.set_cons_zero, List.set_cons_succ]
      refine wpAnyH_take (i := 18) (oi := ⟨_, _, _, _, _, _⟩) (v := ?_) rfl (by kernel_rfl) (by kernel_rfl) (by kernel_rfl) (fun _ _ _ h => h) (Or.inl ⟨by rfl, ?_⟩) hHeld ?_
      rotate_left
      · (intro w' hSw; (try dsimp only at hSw); go_simp; (try with_reducible rfl))
      try simp only [Act.put, List.setIfInBounds_toArray, List.set_cons_zero, List.set_cons_succ]
      refine wpAnyH_ready (rs := [19]) (by kernel_rfl) (by simp) ?_
      refine AllReadyH.cons (o := ⟨_, _, _, _, _, _⟩) rfl (fun K hK => ?_) AllReadyH.nil
      go_simp
      have C321 := hidden (slot_New_type H314.out.heap ⟨4, l, ⟨#[]⟩⟩ ⟨kk, kn, kt⟩ ⟨kk, kn, kt⟩ (.inr ⟨l, pl, _, rfl, N145.out, show (1 : Int) ≠ 2 by decide, show (1 : Int) ≠ 3 by decide⟩))
      (try unfold V.val at C321)
      (try unfold V.null at C321)
      (try dsimp only [rV, iV] at C321)
      (first | (go_at_call 39; refine C321.out.mono ?_))
      rintro e w322 ⟨rfl, hK1⟩
      have H323 := hidden (H314.out.calm hK1)
      have V324 := hidden (V315.out.calm hK1)
      have V325 := hidden (V316.out.calm hK1)
      have V326 := hidden (V317.out.calm hK1)
      have V327 := hidden (V318.out.calm hK1)
      have V328 := hidden (V319.out.calm hK1)
      have V329 := hidden (V320.out.calm hK1)
      clear C321 hK1 H314 V315 V316 V317 V318 V319 V320
      (try go_wp2_with fail)
      refine hK.out _ _ ?_ (fun hH2 => ?_)
      · ((try dsimp only); (first | done | exact (by have c0 := (V324.out).cells; have c1 := (V325.out).cells; have c2 := (V327.out).cells; exact ⟨c0.1, c0.2.1, c0.2.2.1, c1.1, c1.2.1, c1.2.2.1, c2.1, c2.2.1, c2.2.2.1⟩)))
      clear hK K hHeld
      have hHeld := hH2
      clear hH2
      try simp only [Act.put, List.setIfInBounds_toArray, List.set_cons_zero, List.set_cons_succ]
      refine wpAnyH_take (i := 20) (oi := ⟨_, _, _, _, _, _⟩) (v := ?_) rfl (by kernel_rfl) (by kernel_rfl) (by kernel_rfl) (fun _ _ _ h => h) (Or.inl ⟨by rfl, ?_⟩) hHeld ?_
      rotate_left
      · (intro w' hSw; (try dsimp only at hSw); go_simp; (try with_reducible rfl))
      try simp only [Act.put, List.setIfInBounds_toArray, List.set_cons_zero, List.set_cons_succ]
      refine wpAnyH_take (i := 21) (oi := ⟨_, _, _, _, _, _⟩) (v := ?_) rfl (by kernel_rfl) (by kernel_rfl) (by kernel_rfl) (fun _ _ _ h => h) (Or.inl ⟨by rfl, ?_⟩) hHeld ?_
      rotate_left
      · (intro w' hSw; (try dsimp only at hSw); go_simp; (try with_reducible rfl))
      try simp only [Act.put, List.setIfInBounds_toArray, List.set_cons_zero, List.set_cons_succ]
      refine wpAnyH_take (i := 22) (oi := ⟨_, _, _, _, _, _⟩) (v := ?_) rfl (by kernel_rfl) (by kernel_rfl) (by kernel_rfl) (fun _ _ _ h => h) (Or.inl ⟨by rfl, ?_⟩) hHeld ?_
      rotate_left
      · (intro w' hSw; (try dsimp only at hSw); go_simp; (try with_reducible rfl))
      try simp only [Act.put, List.setIfInBounds_toArray, List.set_cons_zero, List.set_cons_succ]
      refine wpAnyH_take (i := 23) (oi := ⟨_, _, _, _, _, _⟩) (v := ?_) rfl (by kernel_rfl) (by kernel_rfl) (by kernel_rfl) (fun _ _ _ h => h) (Or.inl ⟨by rfl, ?_⟩) hHeld ?_
      rotate_left
      · (intro w' hSw; (try dsimp only at hSw); go_simp; (try with_reducible rfl))
      try simp only [Act.put, List.setIfInBounds_toArray, List.set_cons_zero, List.set_cons_succ]
      refine wpAnyH_take (i := 24) (oi := ⟨_, _, _, _, _, _⟩) (v := ?_) rfl (by kernel_rfl) (by kernel_rfl) (by kernel_rfl) (fun _ _ _ h => h) (Or.inl ⟨by rfl, ?_⟩) hHeld ?_
      rotate_left
      · (intro w' hSw; (try dsimp only at hSw); go_simp; (try with_reducible rfl))
      try simp only [Act.put, List.setIfInBounds_toArray, List.set_cons_zero, List.set_cons_succ]
      refine wpAnyH_take (i := 25) (oi := ⟨_, _, _, _, _, _⟩) (v := ?_) rfl (by kernel_rfl) (by kernel_rfl) (by kernel_rfl) (fun _ _ _ h => h) (Or.inl ⟨by rfl, ?_⟩) hHeld ?_
      rotate_left
      · (intro w' hSw; (try dsimp only at hSw); go_simp; (try with_reducible rfl))
      try simp only [Act.put, List.setIfInBounds_toArray, List.set_cons_zero, List.set_cons_succ]
      refine wpAnyH_take (i := 26) (oi := ⟨_, _, _, _, _, _⟩) (v := ?_) rfl (by kernel_rfl) (by kernel_rfl) (by kernel_rfl) (fun _ _ _ h => h) (Or.inl ⟨by rfl, ?_⟩) hHeld ?_
      rotate_left
      · (intro w' hSw; (try dsimp only at hSw); go_simp; (try with_reducible rfl))
      try simp only [Act.put, List.setIfInBounds_toArray, List.set_cons_zero, List.set_cons_succ]
      refine wpAnyH_ready (rs := [27]) (by kernel_rfl) (by simp) ?_
      refine AllReadyH.cons (o := ⟨_, _, _, _, _, _⟩) rfl (fun K hK => ?_) AllReadyH.nil
      go_simp
      have C330 := hidden (slot_New_type H323.out.heap ⟨4, i, ⟨#[]⟩⟩ ⟨kk, kn, kt⟩ ⟨kk, kn, kt⟩ (.inr ⟨i, pi, _, rfl, N147.out, show (4 : Int) ≠ 2 by decide, show (4 : Int) ≠ 3 by decide⟩))
      (try unfold V.val at C330)
      (try unfold V.null at C330)
      (try dsimp only [rV, iV] at C330)
      (first | (go_at_call 39; refine C330.out.mono ?_))
      rintro e w331 ⟨rfl, hK1⟩
      have H332 := hidden (H323.out.calm hK1)
      have V333 := hidden (V324.out.calm hK1)
      have V334 := hidden (V325.out.calm hK1)
      have V335 := hidden (V326.out.calm hK1)
      have V336 := hidden (V327.out.calm hK1)
      have V337 := hidden (V328.out.calm hK1)
      have V338 := hidden (V329.out.calm hK1)
      clear C330 hK1 H323 V324 V325 V326 V327 V328 V329
      (try go_wp2_with fail)
      refine hK.out _ _ ?_ (fun hH2 => ?_)
      · ((try dsimp only); (first | done | exact (by have c0 := (V333.out).cells; have c1 := (V334.out).cells; have c2 := (V336.out).cells; exact ⟨c0.1, c0.2.1, c0.2.2.1, c1.1, c1.2.1, c1.2.2.1, c2.1, c2.2.1, c2.2.2.1⟩)))
      clear hK K hHeld
      have hHeld := hH2
      clear hH2
      try simp only [Act.put, List.setIfInBounds_toArray, List.set_cons_zero, List.set_cons_succ]
      refine wpAnyH_take (i := 28) (oi := ⟨_, _, _, _, _, _⟩) (v := ?_) rfl (by kernel_rfl) (by kernel_rfl) (by kernel_rfl) (fun _ _ _ h => h) (Or.inl ⟨by rfl, ?_⟩) hHeld ?_
      rotate_left
      · (intro w' hSw; (try dsimp only at hSw); go_simp; (try with_reducible rfl))
      try simp only [Act.put, List.setIfInBounds_toArray, List.set_cons_zero, List.set_cons_succ]
      refine wpAnyH_take (i := 29) (oi := ⟨_, _, _, _, _, _⟩) (v := ?_) rfl (by kernel_rfl) (by kernel_rfl) (by kernel_rfl) (fun _ _ _ h => h) (Or.inl ⟨by rfl, ?_⟩) hHeld ?_
      rotate_left
      · (intro w' hSw; (try dsimp only at hSw); go_simp; (try with_reducible rfl))
      try simp only [Act.put, List.setIfInBounds_toArray, List.set_cons_zero, List.set_cons_succ]
      refine wpAnyH_done (by kernel_rfl) ?_ _
      refine NoPanic.normal ?_
      clear hHeld
      have C339 := hidden (slot_Delete_no H332.out.heap 4 l ⟨#[]⟩ (by rw [ofR_kind N145.out ⟨#[]⟩ (by decide) (show (1 : Int) ≠ 2 by decide)]; decide) kk kn kt)
      (try unfold V.val at C339)
      (try unfold V.null at C339)
      (try dsimp only [rV, iV] at C339)
      obtain ⟨l3400, l3401, l3402, l340z⟩ := V334.out.cells
      (try dsimp only [rV, iV, V.null] at l3400 l3401 l3402)
      obtain ⟨l3410, l3411, l3412, l341z⟩ := V333.out.cells
      (try dsimp only [rV, iV, V.null] at l3410 l3411 l3412)
      (try go_wp2_with fail)
      refine C339.out.mono ?_
      rintro e w342 ⟨rfl, hK⟩
      have H343 := hidden (H332.out.calm hK)
      have V344 := hidden (V333.out.calm hK)
      have V345 := hidden (V334.out.calm hK)
      have V346 := hidden (V335.out.calm hK)
      have V347 := hidden (V336.out.calm hK)
      have V348 := hidden (V337.out.calm hK)
      have V349 := hidden (V338.out.calm hK)
      clear l3400 l3401 l3402 l340z l3410 l3411 l3412 l341z C339 hK H332 V333 V334 V335 V336 V337 V338
      obtain ⟨l3500, l3501, l3502, l350z⟩ := V345.out.cells
      (try dsimp only [rV, iV, V.null] at l3500 l3501 l3502)
      obtain ⟨l3510, l3511, l3512, l351z⟩ := V344.out.cells
      (try dsimp only [rV, iV, V.null] at l3510 l3511 l3512)
      (try go_wp2_with fail)
      clear l3500 l3501 l3502 l350z l3510 l3511 l3512 l351z
      have V355 := hidden (show Vr F143 (w342.alloc (.cells #[.int .i64 0, .int .i64 0, .string ⟨#[]⟩] 26)) w342.heap.size ⟨0, 0, ⟨#[]⟩⟩ from Vr.new ⟨0, 0, ⟨#[]⟩⟩ H343.out.heap.inw)
      have SZ356 := hidden (show (w342.alloc (.cells #[.int .i64 0, .int .i64 0, .string ⟨#[]⟩] 26)).heap.size = w342.heap.size + 1 from by simp)
      have GE357 := hidden (show w.heap.size ≤ w342.heap.size from H343.out.K.size)
      have K352 := (Keeps.refl (fun _ => False) w342).alloc (.cells #[.int .i64 0, .int .i64 0, .string ⟨#[]⟩] 26)
      have H358 := hidden (H343.out.calm K352)
      have V359 := hidden (V344.out.calm K352)
      have V360 := hidden (V345.out.calm K352)
      have V361 := hidden (V346.out.calm K352)
      have V362 := hidden (V347.out.calm K352)
      have V363 := hidden (V348.out.calm K352)
      have V364 := hidden (V349.out.calm K352)
      clear K352 H343 V344 V345 V346 V347 V348 V349
      generalize w342.heap.size = v353 at *
      generalize w342.alloc (.cells #[.int .i64 0, .int .i64 0, .string ⟨#[]⟩] 26) = w354 at *
      rename_i qq_0 qq_1 qq_2 qq_3 qq_4
      revert w kk kn kt st at' hchk rk rn re hok R hR hst hkz w0 w1 w2 qq_0 w4 hb F0 w8 w12 vb19 w16 w21 l pl lb F22 HH23 st24 v30 GE34 w31 SZ33 w38 w43 c pc tc F44 HH45 st46 E48 v55 GE59 w56 SZ58 w65 w71 w77 w83 F84 HH85 w94 i pi ti F95 HH96 st97 E99 E101 S103 v109 GE113 w110 SZ112 w121 w128 w135 w142 F143 HH144 N145 N146 N147 w154 w161 w168 v175 GE179 w176 SZ178 inb u84 u85 u86 u87 u88 u89 u90 wc u6 u92 u93 u94 u95 u96 u97 u98 u99 u100 u101 u102 u103 u104 u105 u106 u107 u108 u109 w251 w255 w263 w271 C281 C282 wdx278 KDx278 rx2780 wzx278 w284 w295 w304 w313 w322 w331 w342 qq_1 qq_2 qq_3 qq_4 v353 GE357 w354 H358 V359 V360 V361 V362 V363 V364 V355 SZ356
      exact leaf ok
end Go.Proofs.Ytfdfjogoiagnkaa
namespace Go.Proofs.Ytfdfjogoiagnkaa
open Go.RowKit
set_option maxRecDepth 100000
set_option linter.unusedSimpArgs false
set_option linter.unusedVariables false

set_option maxHeartbeats 32000000 in
theorem slotKinds_A : sk_pre.1 0 := by
  intro w kk kn kt st at' hchk rk rn re hok R hR hst hkz w0 w1 w2 qq_0 w4 hb F0 w8 w12 vb19 w16 w21 l pl lb F22 HH23 st24 v30 GE34 w31 SZ33 w38 w43 c pc tc F44 HH45 st46 E48 v55 GE59 w56 SZ58 w65 w71 w77 w83 F84 HH85 w94 i pi ti F95 HH96 st97 E99 E101 S103 v109 GE113 w110 SZ112 w121 w128 w135 w142 F143 HH144 N145 N146 N147 w154 w161 w168 v175 GE179 w176 SZ178 inb u84 u85 u86 u87 u88 u89 u90 wc u6 u92 u93 u94 u95 u96 u97 u98 u99 u100 u101 u102 u103 u104 u105 u106 u107 u108 u109 w251 w255 w263 w271 C281 C282 wdx278 KDx278 rx2780 wzx278 w284 w295 w304 w313 w322 w331 w342 qq_1 qq_2 qq_3 qq_4 v353 GE357 w354 H358 V359 V360 V361 V362 V363 V364 V355 SZ356
  obtain ⟨rfl, m, hm, rfl⟩ := KC.a hok
  have hmm := @run_makeMap Try.prog
  have hmz : ∃ z : V, [⟨2, 5, ⟨#[]⟩⟩, ⟨2, 6, ⟨#[]⟩⟩][m]? = some z ∧ z = ⟨2, 5 + (m : Int), ⟨#[]⟩⟩ := by
    rcases (by omega : m = 0 ∨ m = 1) with rfl | rfl
    · exact ⟨_, rfl, rfl⟩
    · exact ⟨_, rfl, rfl⟩
  obtain ⟨z, hz1, hz2⟩ := hmz
  have hml : listR [⟨2, 5, ⟨#[]⟩⟩, ⟨2, 6, ⟨#[]⟩⟩] (m : Int) = (⟨2, 5 + (m : Int), ⟨#[]⟩⟩, 0) := by
    unfold listR
    rw [if_neg (by omega), Int.toNat_natCast, hz1, hz2]
  clear hz1 hz2
  have C365 := hidden (get_as (slot_Get_array H358.out.heap N145.out rfl rfl (m : Int) kt) hml)
  (try unfold V.val at C365)
  (try unfold V.null at C365)
  (try dsimp only [rV, iV] at C365)
  obtain ⟨l3660, l3661, l3662, l366z⟩ := V360.out.cells
  (try dsimp only [rV, iV, V.null] at l3660 l3661 l3662)
  obtain ⟨l3670, l3671, l3672, l367z⟩ := V359.out.cells
  (try dsimp only [rV, iV, V.null] at l3670 l3671 l3672)
  (try go_wp2_with fail)
  refine C365.out.mono ?_
  rintro e w368 ⟨rfl, hK⟩
  have H369 := hidden (H358.out.calm hK)
  have V370 := hidden (V359.out.calm hK)
  have V371 := hidden (V360.out.calm hK)
  have V372 := hidden (V361.out.calm hK)
  have V373 := hidden (V362.out.calm hK)
  have V374 := hidden (V363.out.calm hK)
  have V375 := hidden (V364.out.calm hK)
  have V376 := hidden (V355.out.calm hK)
  clear l3660 l3661 l3662 l366z l3670 l3671 l3672 l367z C365 hK H358 V359 V360 V361 V362 V363 V364 V355
  have hm0 : ¬ ((m : Int) < 0) := by omega
  have hm1 : ¬ ((1 : Int) < (m : Int)) := by omega
  have hw5 : wrap64 (5 + (m : Int)) = 5 + (m : Int) := IntWalk.wrap64_in _ (by omega)
  have hw6 : IntKind.i64.wrap (5 + (m : Int)) = 5 + (m : Int) := IntWalk.i64_in _ (by omega)
  obtain ⟨l3770, l3771, l3772, l377z⟩ := V370.out.cells
  (try dsimp only [rV, iV, V.null] at l3770 l3771 l3772)
  (try go_wp2_with fail)
  clear l3770 l3771 l3772 l377z
  have V381 := hidden (show Vr F143 (w368.alloc (.cells #[.int .i64 2, .int .i64 (5 + (m : Int)), .string ⟨#[]⟩] 26)) w368.heap.size ⟨2, (5 + (m : Int)), ⟨#[]⟩⟩ from Vr.new ⟨2, (5 + (m : Int)), ⟨#[]⟩⟩ H369.out.heap.inw)
  have SZ382 := hidden (show (w368.alloc (.cells #[.int .i64 2, .int .i64 (5 + (m : Int)), .string ⟨#[]⟩] 26)).heap.size = w368.heap.size + 1 from by simp)
  have GE383 := hidden (show w.heap.size ≤ w368.heap.size from H369.out.K.size)
  have K378 := (Keeps.refl (fun _ => False) w368).alloc (.cells #[.int .i64 2, .int .i64 (5 + (m : Int)), .string ⟨#[]⟩] 26)
  have H384 := hidden (H369.out.calm K378)
  have V385 := hidden (V370.out.calm K378)
  have V386 := hidden (V371.out.calm K378)
  have V387 := hidden (V372.out.calm K378)
  have V388 := hidden (V373.out.calm K378)
  have V389 := hidden (V374.out.calm K378)
  have V390 := hidden (V375.out.calm K378)
  have V391 := hidden (V376.out.calm K378)
  clear K378 H369 V370 V371 V372 V373 V374 V375 V376
  generalize w368.heap.size = v379 at *
  generalize w368.alloc (.cells #[.int .i64 2, .int .i64 (5 + (m : Int)), .string ⟨#[]⟩] 26) = w380 at *
  have SK392 := hidden (fun (W : World) (hk : Keeps (fun _ => False) w380 W) => show W.cell? ⟨v379, 0, none⟩ = some (.int .i64 2) ∧ W.cell? ⟨v379, 1, none⟩ = some (.int .i64 (5 + (m : Int))) ∧ W.cell? ⟨v379, 2, none⟩ = some (.string ⟨#[]⟩) ∧ W.cell? ⟨w.heap.size, 0, none⟩ = some (.int .i64 2) ∧ W.cell? ⟨w.heap.size, 1, none⟩ = some (.int .i64 (m : Nat)) ∧ W.cell? ⟨w.heap.size, 2, none⟩ = some (.string kt) ∧ W.cell? ⟨v30, 0, none⟩ = some (.int .i64 4) ∧ W.cell? ⟨v30, 1, none⟩ = some (.int .i64 l) ∧ W.cell? ⟨v30, 2, none⟩ = some (.string ⟨#[]⟩) from (by have c0 := (V381.out.calm hk).cells; have c1 := (V385.out.calm hk).cells; have c2 := (V386.out.calm hk).cells; exact ⟨c0.1, c0.2.1, c0.2.2.1, c1.1, c1.2.1, c1.2.2.1, c2.1, c2.2.1, c2.2.2.1⟩))
  refine wp_region_noPanic ?_
  refine wp_region_held_drew (S := (fun W => W.cell? ⟨v379, 0, none⟩ = some (.int .i64 2) ∧ W.cell? ⟨v379, 1, none⟩ = some (.int .i64 (5 + (m : Int))) ∧ W.cell? ⟨v379, 2, none⟩ = some (.string ⟨#[]⟩) ∧ W.cell? ⟨w.heap.size, 0, none⟩ = some (.int .i64 2) ∧ W.cell? ⟨w.heap.size, 1, none⟩ = some (.int .i64 (m : Nat)) ∧ W.cell? ⟨w.heap.size, 2, none⟩ = some (.string kt) ∧ W.cell? ⟨v30, 0, none⟩ = some (.int .i64 4) ∧ W.cell? ⟨v30, 1, none⟩ = some (.int .i64 l) ∧ W.cell? ⟨v30, 2, none⟩ = some (.string ⟨#[]⟩))) (by kernel_rfl) ?_ (fun hHeld => ?_)
  · ((try dsimp only); (first | done | exact SK392.out _ ((Keeps.refl _ w380).drew)))
  have KD393 := (Keeps.refl (fun _ => False) w380).drew
  have H395 := hidden (H384.out.calm KD393)
  have V396 := hidden (V385.out.calm KD393)
  have V397 := hidden (V386.out.calm KD393)
  have V398 := hidden (V387.out.calm KD393)
  have V399 := hidden (V388.out.calm KD393)
  have V400 := hidden (V389.out.calm KD393)
  have V401 := hidden (V390.out.calm KD393)
  have V402 := hidden (V391.out.calm KD393)
  have V403 := hidden (V381.out.calm KD393)
  clear KD393 H384 V385 V386 V387 V388 V389 V390 V391 V381
  generalize w380.drew = w394 at *
  clear SK392
  refine wpAnyH_take (i := 0) (oi := ⟨_, _, _, _, _, _⟩) (v := ?_) rfl (by kernel_rfl) (by kernel_rfl) (by kernel_rfl) (fun _ _ _ h => h) (Or.inl ⟨by rfl, ?_⟩) hHeld ?_
  rotate_left
  · (intro w' hSw; (try dsimp only at hSw); go_simp; (try with_reducible rfl))
  try simp only [Act.put, List.setIfInBounds_toArray, List.set_cons_zero, List.set_cons_succ]
  refine wpAnyH_take (i := 1) (oi := ⟨_, _, _, _, _, _⟩) (v := ?_) rfl (by kernel_rfl) (by kernel_rfl) (by kernel_rfl) (fun _ _ _ h => h) (Or.inl ⟨by rfl, ?_⟩) hHeld ?_
  rotate_left
  · (intro w' hSw; (try dsimp only at hSw); go_simp; (try with_reducible rfl))
  try simp only [Act.put, List.setIfInBounds_toArray, List.set_cons_zero, List.set_cons_succ]
  refine wpAnyH_take (i := 2) (oi := ⟨_, _, _, _, _, _⟩) (v := ?_) rfl (by kernel_rfl) (by kernel_rfl) (by kernel_rfl) (fun _ _ _ h => h) (Or.inl ⟨by rfl, ?_⟩) hHeld ?_
  rotate_left
  · (intro w' hSw; (try dsimp only at hSw); go_simp; (try with_reducible rfl))
  try simp only [Act.put, List.setIfInBounds_toArray, List.set_cons_zero, List.set_cons_succ]
  refine wpAnyH_take (i := 3) (oi := ⟨_, _, _, _, _, _⟩) (v := ?_) rfl (by kernel_rfl) (by kernel_rfl) (by kernel_rfl) (fun _ _ _ h => h) (Or.inl ⟨by rfl, ?_⟩) hHeld ?_
  rotate_left
  · (intro w' hSw; (try dsimp only at hSw); go_simp; (try with_reducible rfl))
  try simp only [Act.put, List.setIfInBounds_toArray, List.set_cons_zero, List.set_cons_succ]
  refine wpAnyH_take (i := 4) (oi := ⟨_, _, _, _, _, _⟩) (v := ?_) rfl (by kernel_rfl) (by kernel_rfl) (by kernel_rfl) (fun _ _ _ h => h) (Or.inl ⟨by rfl, ?_⟩) hHeld ?_
  rotate_left
  · (intro w' hSw; (try dsimp only at hSw); go_simp; (try with_reducible rfl))
  try simp only [Act.put, List.setIfInBounds_toArray, List.set_cons_zero, List.set_cons_succ]
  refine wpAnyH_take (i := 5) (oi := ⟨_, _, _, _, _, _⟩) (v := ?_) rfl (by kernel_rfl) (by kernel_rfl) (by kernel_rfl) (fun _ _ _ h => h) (Or.inl ⟨by rfl, ?_⟩) hHeld ?_
  rotate_left
  · (intro w' hSw; (try dsimp only at hSw); go_simp; (try with_reducible rfl))
  try simp only [Act.put, List.setIfInBounds_toArray, List.set_cons_zero, List.set_cons_succ]
  refine wpAnyH_take (i := 6) (oi := ⟨_, _, _, _, _, _⟩) (v := ?_) rfl (by kernel_rfl) (by kernel_rfl) (by kernel_rfl) (fun _ _ _ h => h) (Or.inl ⟨by rfl, ?_⟩) hHeld ?_
  rotate_left
  · (intro w' hSw; (try dsimp only at hSw); go_simp; (try with_reducible rfl))
  try simp only [Act.put, List.setIfInBounds_toArray, List.set_cons_zero, List.set_cons_succ]
  refine wpAnyH_ready (rs := [7]) (by kernel_rfl) (by simp) ?_
  refine AllReadyH.cons (o := ⟨_, _, _, _, _, _⟩) rfl (fun K hK => ?_) AllReadyH.nil
  go_simp
  have C404 := hidden (value_Int (5 + (m : Int)) w394)
  (try unfold V.val at C404)
  (try unfold V.null at C404)
  (try dsimp only [rV, iV] at C404)
  (first | (go_at_call 17; refine C404.out.mono ?_))
  rintro e w405 ⟨rfl, hK1⟩
  have H406 := hidden (H395.out.calm hK1)
  have V407 := hidden (V396.out.calm hK1)
  have V408 := hidden (V397.out.calm hK1)
  have V409 := hidden (V398.out.calm hK1)
  have V410 := hidden (V399.out.calm hK1)
  have V411 := hidden (V400.out.calm hK1)
  have V412 := hidden (V401.out.calm hK1)
  have V413 := hidden (V402.out.calm hK1)
  have V414 := hidden (V403.out.calm hK1)
  clear C404 hK1 H395 V396 V397 V398 V399 V400 V401 V402 V403
  (try go_wp2_with fail)
  refine hK.out _ _ ?_ (fun hH2 => ?_)
  · ((try dsimp only); (first | done | exact (by have c0 := (V414.out).cells; have c1 := (V407.out).cells; have c2 := (V408.out).cells; exact ⟨c0.1, c0.2.1, c0.2.2.1, c1.1, c1.2.1, c1.2.2.1, c2.1, c2.2.1, c2.2.2.1⟩)))
  clear hK K hHeld
  have hHeld := hH2
  clear hH2
  try simp only [Act.put, List.setIfInBounds_toArray, List.set_cons_zero, List.set_cons_succ]
  refine wpAnyH_take (i := 8) (oi := ⟨_, _, _, _, _, _⟩) (v := ?_) rfl (by kernel_rfl) (by kernel_rfl) (by kernel_rfl) (fun _ _ _ h => h) (Or.inl ⟨by rfl, ?_⟩) hHeld ?_
  rotate_left
  · (intro w' hSw; (try dsimp only at hSw); go_simp; (try with_reducible rfl))
  try simp only [Act.put, List.setIfInBounds_toArray, List.set_cons_zero, List.set_cons_succ]
  refine wpAnyH_take (i := 9) (oi := ⟨_, _, _, _, _, _⟩) (v := ?_) rfl (by kernel_rfl) (by kernel_rfl) (by kernel_rfl) (fun _ _ _ h => h) (Or.inl ⟨by rfl, ?_⟩) hHeld ?_
  rotate_left
  · (intro w' hSw; (try dsimp only at hSw); go_simp; (try with_reducible rfl))
  try simp only [Act.put, List.setIfInBounds_toArray, List.set_cons_zero, List.set_cons_succ]
  refine wpAnyH_take (i := 10) (oi := ⟨_, _, _, _, _, _⟩) (v := ?_) rfl (by kernel_rfl) (by kernel_rfl) (by kernel_rfl) (fun _ _ _ h => h) (Or.inl ⟨by rfl, ?_⟩) hHeld ?_
  rotate_left
  · (intro w' hSw; (try dsimp only at hSw); go_simp; (try with_reducible rfl))
  try simp only [Act.put, List.setIfInBounds_toArray, List.set_cons_zero, List.set_cons_succ]
  refine wpAnyH_take (i := 11) (oi := ⟨_, _, _, _, _, _⟩) (v := ?_) rfl (by kernel_rfl) (by kernel_rfl) (by kernel_rfl) (fun _ _ _ h => h) (Or.inl ⟨by rfl, ?_⟩) hHeld ?_
  rotate_left
  · (intro w' hSw; (try dsimp only at hSw); go_simp; (try with_reducible rfl))
  try simp only [Act.put, List.setIfInBounds_toArray, List.set_cons_zero, List.set_cons_succ]
  refine wpAnyH_take (i := 12) (oi := ⟨_, _, _, _, _, _⟩) (v := ?_) rfl (by kernel_rfl) (by kernel_rfl) (by kernel_rfl) (fun _ _ _ h => h) (Or.inl ⟨by rfl, ?_⟩) hHeld ?_
  rotate_left
  · (intro w' hSw; (try dsimp only at hSw); go_simp; (try with_reducible rfl))
  try simp only [Act.put, List.setIfInBounds_toArray, List.set_cons_zero, List.set_cons_succ]
  refine wpAnyH_take (i := 13) (oi := ⟨_, _, _, _, _, _⟩) (v := ?_) rfl (by kernel_rfl) (by kernel_rfl) (by kernel_rfl) (fun _ _ _ h => h) (Or.inl ⟨by rfl, ?_⟩) hHeld ?_
  rotate_left
  · (intro w' hSw; (try dsimp only at hSw); go_simp; (try with_reducible rfl))
  try simp only [Act.put, List.setIfInBounds_toArray, List.set_cons_zero, List.set_cons_succ]
  refine wpAnyH_ready (rs := [14]) (by kernel_rfl) (by simp) ?_
  refine AllReadyH.cons (o := ⟨_, _, _, _, _, _⟩) rfl (fun K hK => ?_) AllReadyH.nil
  go_simp
  have C415 := hidden (value_Int 9 w405)
  (try unfold V.val at C415)
  (try unfold V.null at C415)
  (try dsimp only [rV, iV] at C415)
  (first | (go_at_call 17; refine C415.out.mono ?_))
  rintro e w416 ⟨rfl, hK1⟩
  have H417 := hidden (H406.out.calm hK1)
  have V418 := hidden (V407.out.calm hK1)
  have V419 := hidden (V408.out.calm hK1)
  have V420 := hidden (V409.out.calm hK1)
  have V421 := hidden (V410.out.calm hK1)
  have V422 := hidden (V411.out.calm hK1)
  have V423 := hidden (V412.out.calm hK1)
  have V424 := hidden (V413.out.calm hK1)
  have V425 := hidden (V414.out.calm hK1)
  clear C415 hK1 H406 V407 V408 V409 V410 V411 V412 V413 V414
  (try go_wp2_with fail)
  refine hK.out _ _ ?_ (fun hH2 => ?_)
  · ((try dsimp only); (first | done | exact (by have c0 := (V425.out).cells; have c1 := (V418.out).cells; have c2 := (V419.out).cells; exact ⟨c0.1, c0.2.1, c0.2.2.1, c1.1, c1.2.1, c1.2.2.1, c2.1, c2.2.1, c2.2.2.1⟩)))
  clear hK K hHeld
  have hHeld := hH2
  clear hH2
  try simp only [Act.put, List.setIfInBounds_toArray, List.set_cons_zero, List.set_cons_succ]
  refine wpAnyH_ready (rs := [15]) (by kernel_rfl) (by simp) ?_
  refine AllReadyH.cons (o := ⟨_, _, _, _, _, _⟩) rfl (fun K hK => ?_) AllReadyH.nil
  go_simp
  have C426 := hidden (slot_Set_array_in H417.out.heap N145.out rfl rfl m kt (by simp; omega) 2 9 ⟨#[]⟩)
  (try unfold V.val at C426)
  (try unfold V.null at C426)
  (try dsimp only [rV, iV] at C426)
  (first | (go_at_call 41; refine C426.out.mono ?_))
  rintro e w427 ⟨F428, rfl, g1, g2, g3⟩
  have N430 := hidden (show (HH144.set l (some (pl, { arrayCl lb [⟨2, 5, ⟨#[]⟩⟩, ⟨2, 6, ⟨#[]⟩⟩] with list := some (lb, [⟨2, 5, ⟨#[]⟩⟩, ⟨2, 6, ⟨#[]⟩⟩].set m ⟨2, 9, ⟨#[]⟩⟩) })))[l]? = some (some (pl, { arrayCl lb [⟨2, 5, ⟨#[]⟩⟩, ⟨2, 6, ⟨#[]⟩⟩] with list := some (lb, [⟨2, 5, ⟨#[]⟩⟩, ⟨2, 6, ⟨#[]⟩⟩].set m ⟨2, 9, ⟨#[]⟩⟩) })) from set_self N145.out)
  have N431 := hidden (show (HH144.set l (some (pl, { arrayCl lb [⟨2, 5, ⟨#[]⟩⟩, ⟨2, 6, ⟨#[]⟩⟩] with list := some (lb, [⟨2, 5, ⟨#[]⟩⟩, ⟨2, 6, ⟨#[]⟩⟩].set m ⟨2, 9, ⟨#[]⟩⟩) })))[c]? = some (some (pc, classCl tc [⟨⟨3, 0, ⟨#[109]⟩⟩, ⟨2, 7, ⟨#[]⟩⟩, 1, false⟩, ⟨⟨3, 0, ⟨#[110]⟩⟩, ⟨2, 8, ⟨#[]⟩⟩, 2, false⟩] 2 V.null)) from set_old N146.out (Ne.symm E48.out))
  have N432 := hidden (show (HH144.set l (some (pl, { arrayCl lb [⟨2, 5, ⟨#[]⟩⟩, ⟨2, 6, ⟨#[]⟩⟩] with list := some (lb, [⟨2, 5, ⟨#[]⟩⟩, ⟨2, 6, ⟨#[]⟩⟩].set m ⟨2, 9, ⟨#[]⟩⟩) })))[i]? = some (some (pi, instCl ti [⟨⟨3, 0, ⟨#[109]⟩⟩, ⟨2, 7, ⟨#[]⟩⟩, 1, false⟩] 1 ⟨4, c, ⟨#[]⟩⟩)) from set_old N147.out (Ne.symm E99.out))
  have H433 := hidden (show Hd w hb F428 (HH144.set l (some (pl, { arrayCl lb [⟨2, 5, ⟨#[]⟩⟩, ⟨2, 6, ⟨#[]⟩⟩] with list := some (lb, [⟨2, 5, ⟨#[]⟩⟩, ⟨2, 6, ⟨#[]⟩⟩].set m ⟨2, 9, ⟨#[]⟩⟩) }))) st97 w427 from H417.out.turn2 N145.out g1 g2 g3)
  have V434 := hidden (V418.out.step g2 g3)
  have V435 := hidden (V419.out.step g2 g3)
  have V436 := hidden (V420.out.step g2 g3)
  have V437 := hidden (V421.out.step g2 g3)
  have V438 := hidden (V422.out.step g2 g3)
  have V439 := hidden (V423.out.step g2 g3)
  have V440 := hidden (V424.out.step g2 g3)
  have V441 := hidden (V425.out.step g2 g3)
  clear C426 g1 g2 g3 N145 N146 N147 H417 V418 V419 V420 V421 V422 V423 V424 V425
  generalize HH144.set l (some (pl, { arrayCl lb [⟨2, 5, ⟨#[]⟩⟩, ⟨2, 6, ⟨#[]⟩⟩] with list := some (lb, [⟨2, 5, ⟨#[]⟩⟩, ⟨2, 6, ⟨#[]⟩⟩].set m ⟨2, 9, ⟨#[]⟩⟩) })) = HH429 at *
  (try go_wp2_with fail)
  refine hK.out _ _ ?_ (fun hH2 => ?_)
  · ((try dsimp only); (first | done | exact (by have c0 := (V441.out).cells; have c1 := (V434.out).cells; have c2 := (V435.out).cells; exact ⟨c0.1, c0.2.1, c0.2.2.1, c1.1, c1.2.1, c1.2.2.1, c2.1, c2.2.1, c2.2.2.1⟩)))
  clear hK K hHeld
  have hHeld := hH2
  clear hH2
  try simp only [Act.put, List.setIfInBounds_toArray, List.set_cons_zero, List.set_cons_succ]
  refine wpAnyH_take (i := 16) (oi := ⟨_, _, _, _, _, _⟩) (v := ?_) rfl (by kernel_rfl) (by kernel_rfl) (by kernel_rfl) (fun _ _ _ h => h) (Or.inl ⟨by rfl, ?_⟩) hHeld ?_
  rotate_left
  · (intro w' hSw; (try dsimp only at hSw); go_simp; (try with_reducible rfl))
  try simp only [Act.put, List.setIfInBounds_toArray, List.set_cons_zero, List.set_cons_succ]
  refine wpAnyH_take (i := 17) (oi := ⟨_, _, _, _, _, _⟩) (v := ?_) rfl (by kernel_rfl) (by kernel_rfl) (by kernel_rfl) (fun _ _ _ h => h) (Or.inl ⟨by rfl, ?_⟩) hHeld ?_
  rotate_left
  · (intro w' hSw; (try dsimp only at hSw); go_simp; (try with_reducible rfl))
  try simp only [Act.put, List.setIfInBounds_toArray, List.set_cons_zero, List.set_cons_succ]
  refine wpAnyH_done (by kernel_rfl) ?_ _
  refine NoPanic.normal ?_
  clear hHeld
  have hy1 : instR [⟨⟨3, 0, ⟨#[109]⟩⟩, ⟨2, 7, ⟨#[]⟩⟩, 1, false⟩] [⟨⟨3, 0, ⟨#[109]⟩⟩, ⟨2, 7, ⟨#[]⟩⟩, 1, false⟩, ⟨⟨3, 0, ⟨#[110]⟩⟩, ⟨2, 8, ⟨#[]⟩⟩, 2, false⟩] ⟨2, (m : Nat), kt⟩ = (V.null, 3) := by simp [instR, getR, V.null]
  have hy2 : getR [⟨⟨3, 0, ⟨#[109]⟩⟩, ⟨2, 7, ⟨#[]⟩⟩, 1, false⟩, ⟨⟨3, 0, ⟨#[110]⟩⟩, ⟨2, 8, ⟨#[]⟩⟩, 2, false⟩] ⟨2, (m : Nat), kt⟩ = (V.null, 3) := by simp [getR, V.null]
  have hy3 : (getR [⟨⟨3, 0, ⟨#[109]⟩⟩, ⟨2, 7, ⟨#[]⟩⟩, 1, false⟩] ⟨2, (m : Nat), kt⟩).2 = 3 := by simp [getR]
  have C442 := hidden (get_as (slot_Get_inst H433.out.heap N432.out rfl rfl (by decide) rfl N431.out rfl rfl (by decide) 2 (m : Nat) kt (by omega)) hy1)
  (try unfold V.val at C442)
  (try unfold V.null at C442)
  (try dsimp only [rV, iV] at C442)
  obtain ⟨l4430, l4431, l4432, l443z⟩ := V437.out.cells
  (try dsimp only [rV, iV, V.null] at l4430 l4431 l4432)
  obtain ⟨l4440, l4441, l4442, l444z⟩ := V434.out.cells
  (try dsimp only [rV, iV, V.null] at l4440 l4441 l4442)
  (try go_wp2_with fail)
  refine C442.out.mono ?_
  rintro e w445 ⟨rfl, hK⟩
  have H446 := hidden (H433.out.calm hK)
  have V447 := hidden (V434.out.calm hK)
  have V448 := hidden (V435.out.calm hK)
  have V449 := hidden (V436.out.calm hK)
  have V450 := hidden (V437.out.calm hK)
  have V451 := hidden (V438.out.calm hK)
  have V452 := hidden (V439.out.calm hK)
  have V453 := hidden (V440.out.calm hK)
  have V454 := hidden (V441.out.calm hK)
  clear l4430 l4431 l4432 l443z l4440 l4441 l4442 l444z C442 hK H433 V434 V435 V436 V437 V438 V439 V440 V441
  obtain ⟨l4550, l4551, l4552, l455z⟩ := V449.out.cells
  (try dsimp only [rV, iV, V.null] at l4550 l4551 l4552)
  obtain ⟨l4560, l4561, l4562, l456z⟩ := V447.out.cells
  (try dsimp only [rV, iV, V.null] at l4560 l4561 l4562)
  (try go_wp2_with fail)
  clear l4550 l4551 l4552 l455z l4560 l4561 l4562 l456z
  have V460 := hidden (show Vr F428 (w445.alloc (.cells #[.int .i64 0, .int .i64 0, .string ⟨#[]⟩] 26)) w445.heap.size ⟨0, 0, ⟨#[]⟩⟩ from Vr.new ⟨0, 0, ⟨#[]⟩⟩ H446.out.heap.inw)
  have SZ461 := hidden (show (w445.alloc (.cells #[.int .i64 0, .int .i64 0, .string ⟨#[]⟩] 26)).heap.size = w445.heap.size + 1 from by simp)
  have GE462 := hidden (show w.heap.size ≤ w445.heap.size from H446.out.K.size)
  have K457 := (Keeps.refl (fun _ => False) w445).alloc (.cells #[.int .i64 0, .int .i64 0, .string ⟨#[]⟩] 26)
  have H463 := hidden (H446.out.calm K457)
  have V464 := hidden (V447.out.calm K457)
  have V465 := hidden (V448.out.calm K457)
  have V466 := hidden (V449.out.calm K457)
  have V467 := hidden (V450.out.calm K457)
  have V468 := hidden (V451.out.calm K457)
  have V469 := hidden (V452.out.calm K457)
  have V470 := hidden (V453.out.calm K457)
  have V471 := hidden (V454.out.calm K457)
  clear K457 H446 V447 V448 V449 V450 V451 V452 V453 V454
  generalize w445.heap.size = v458 at *
  generalize w445.alloc (.cells #[.int .i64 0, .int .i64 0, .string ⟨#[]⟩] 26) = w459 at *
  have C472 := hidden (get_as (slot_Get_class H463.out.heap N431.out rfl rfl (by decide) 2 (m : Nat) kt (by omega)) hy2)
  (try unfold V.val at C472)
  (try unfold V.null at C472)
  (try dsimp only [rV, iV] at C472)
  obtain ⟨l4730, l4731, l4732, l473z⟩ := V466.out.cells
  (try dsimp only [rV, iV, V.null] at l4730 l4731 l4732)
  obtain ⟨l4740, l4741, l4742, l474z⟩ := V464.out.cells
  (try dsimp only [rV, iV, V.null] at l4740 l4741 l4742)
  (try go_wp2_with fail)
  refine C472.out.mono ?_
  rintro e w475 ⟨rfl, hK⟩
  have H476 := hidden (H463.out.calm hK)
  have V477 := hidden (V464.out.calm hK)
  have V478 := hidden (V465.out.calm hK)
  have V479 := hidden (V466.out.calm hK)
  have V480 := hidden (V467.out.calm hK)
  have V481 := hidden (V468.out.calm hK)
  have V482 := hidden (V469.out.calm hK)
  have V483 := hidden (V470.out.calm hK)
  have V484 := hidden (V471.out.calm hK)
  have V485 := hidden (V460.out.calm hK)
  clear l4730 l4731 l4732 l473z l4740 l4741 l4742 l474z C472 hK H463 V464 V465 V466 V467 V468 V469 V470 V471 V460
  obtain ⟨l4860, l4861, l4862, l486z⟩ := V477.out.cells
  (try dsimp only [rV, iV, V.null] at l4860 l4861 l4862)
  (try go_wp2_with fail)
  clear l4860 l4861 l4862 l486z
  have V490 := hidden (show Vr F428 (w475.alloc (.cells #[.int .i64 0, .int .i64 0, .string ⟨#[]⟩] 26)) w475.heap.size ⟨0, 0, ⟨#[]⟩⟩ from Vr.new ⟨0, 0, ⟨#[]⟩⟩ H476.out.heap.inw)
  have SZ491 := hidden (show (w475.alloc (.cells #[.int .i64 0, .int .i64 0, .string ⟨#[]⟩] 26)).heap.size = w475.heap.size + 1 from by simp)
  have GE492 := hidden (show w.heap.size ≤ w475.heap.size from H476.out.K.size)
  have K487 := (Keeps.refl (fun _ => False) w475).alloc (.cells #[.int .i64 0, .int .i64 0, .string ⟨#[]⟩] 26)
  have H493 := hidden (H476.out.calm K487)
  have V494 := hidden (V477.out.calm K487)
  have V495 := hidden (V478.out.calm K487)
  have V496 := hidden (V479.out.calm K487)
  have V497 := hidden (V480.out.calm K487)
  have V498 := hidden (V481.out.calm K487)
  have V499 := hidden (V482.out.calm K487)
  have V500 := hidden (V483.out.calm K487)
  have V501 := hidden (V484.out.calm K487)
  have V502 := hidden (V485.out.calm K487)
  clear K487 H476 V477 V478 V479 V480 V481 V482 V483 V484 V485
  generalize w475.heap.size = v488 at *
  generalize w475.alloc (.cells #[.int .i64 0, .int .i64 0, .string ⟨#[]⟩] 26) = w489 at *
  have M0 : IsMap (κ := ByteArray) (β := Int) (fun s => .string s) (fun s => s.size ≤ maxLen) (fun n => .int .i64 n) (w489.alloc (.map #[] 0)) (v488 + 1) [] := SZ491.out ▸ IsMap.new w489
  obtain ⟨W1, e1, k1, M1⟩ := M0.update2 ks_str Try.underlying95 (x := ⟨#[109]⟩) (by decide) 7
  obtain ⟨W2, e2, k2, M2⟩ := M1.update2 ks_str Try.underlying95 (x := ⟨#[110]⟩) (by decide) 8
  have e3 := M2.look false ks_str Try.underlying95 (zero_int64 W2) (x := kt) (by unfold maxLen; omega)
  obtain ⟨wv, hwv⟩ : ∃ wv : Int, ((mget (mput (mput ([] : List (ByteArray × Int)) ⟨#[109]⟩ 7) ⟨#[110]⟩ 8) kt).map fun n => Value.int .i64 n).getD (.int .i64 0) = .int .i64 wv := by
    cases mget (mput (mput ([] : List (ByteArray × Int)) ⟨#[109]⟩ 7) ⟨#[110]⟩ 8) kt with
    | none => exact ⟨0, rfl⟩
    | some n => exact ⟨n, rfl⟩
  rw [hwv] at e3
  clear hwv
  simp only [Bool.false_eq_true, if_false] at e3
  (try dsimp only at e1 e2)
  have KM : Keeps (fun k => w489.heap.size ≤ k) w489 W2 := (((Keeps.refl _ w489).alloc _).trans k1 (fun k _ h => by have := SZ491.out; have h9 : k = v488 + 1 := h; omega)).trans k2 (fun k _ h => by have := SZ491.out; have h9 : k = v488 + 1 := h; omega)
  have H503 := hidden (H493.out.beyond KM)
  have V504 := hidden (V494.out.beyond KM)
  have V505 := hidden (V495.out.beyond KM)
  have V506 := hidden (V496.out.beyond KM)
  have V507 := hidden (V497.out.beyond KM)
  have V508 := hidden (V498.out.beyond KM)
  have V509 := hidden (V499.out.beyond KM)
  have V510 := hidden (V500.out.beyond KM)
  have V511 := hidden (V501.out.beyond KM)
  have V512 := hidden (V502.out.beyond KM)
  have V513 := hidden (V490.out.beyond KM)
  clear KM k1 k2 M0 M1 M2 SZ491 H493 V494 V495 V496 V497 V498 V499 V500 V501 V502 V490
  obtain ⟨l5140, l5141, l5142, l514z⟩ := V504.out.cells
  (try dsimp only [rV, iV, V.null] at l5140 l5141 l5142)
  obtain ⟨l5150, l5151, l5152, l515z⟩ := V507.out.cells
  (try dsimp only [rV, iV, V.null] at l5150 l5151 l5152)
  rw [e1]
  (try go_wp2_with fail)
  (try rw [e2])
  (try go_wp2_with fail)
  (try rw [e3])
  (try go_wp2_with fail)
  clear e1 e2 e3
  clear l5140 l5141 l5142 l514z l5150 l5151 l5152 l515z
  -- behind the map
  have C516 := hidden (slot_Set_tabR H503.out.heap N432.out (.inr (.inr rfl)) rfl (by decide) ⟨2, (m : Nat), kt⟩ ⟨2, (m : Nat), kt⟩ (by simp only; omega) hy3)
  (try unfold V.val at C516)
  (try unfold V.null at C516)
  (try dsimp only [rV, iV] at C516)
  obtain ⟨l5170, l5171, l5172, l517z⟩ := V507.out.cells
  (try dsimp only [rV, iV, V.null] at l5170 l5171 l5172)
  obtain ⟨l5180, l5181, l5182, l518z⟩ := V504.out.cells
  (try dsimp only [rV, iV, V.null] at l5180 l5181 l5182)
  (try go_wp2_with fail)
  refine C516.out.mono ?_
  rintro e w519 ⟨F520, rfl, g1, g2, g3⟩
  have N522 := hidden (show (tabH HH429 i pi (instCl ti [⟨⟨3, 0, ⟨#[109]⟩⟩, ⟨2, 7, ⟨#[]⟩⟩, 1, false⟩] 1 ⟨4, c, ⟨#[]⟩⟩) ti (putL [⟨⟨3, 0, ⟨#[109]⟩⟩, ⟨2, 7, ⟨#[]⟩⟩, 1, false⟩] ⟨2, (m : Nat), kt⟩ ⟨2, (m : Nat), kt⟩, 1))[l]? = some (some (pl, { arrayCl lb [⟨2, 5, ⟨#[]⟩⟩, ⟨2, 6, ⟨#[]⟩⟩] with list := some (lb, [⟨2, 5, ⟨#[]⟩⟩, ⟨2, 6, ⟨#[]⟩⟩].set m ⟨2, 9, ⟨#[]⟩⟩) })) from set_old N430.out E99.out)
  have N523 := hidden (show (tabH HH429 i pi (instCl ti [⟨⟨3, 0, ⟨#[109]⟩⟩, ⟨2, 7, ⟨#[]⟩⟩, 1, false⟩] 1 ⟨4, c, ⟨#[]⟩⟩) ti (putL [⟨⟨3, 0, ⟨#[109]⟩⟩, ⟨2, 7, ⟨#[]⟩⟩, 1, false⟩] ⟨2, (m : Nat), kt⟩ ⟨2, (m : Nat), kt⟩, 1))[c]? = some (some (pc, classCl tc [⟨⟨3, 0, ⟨#[109]⟩⟩, ⟨2, 7, ⟨#[]⟩⟩, 1, false⟩, ⟨⟨3, 0, ⟨#[110]⟩⟩, ⟨2, 8, ⟨#[]⟩⟩, 2, false⟩] 2 V.null)) from set_old N431.out E101.out)
  have N524 := hidden (show (tabH HH429 i pi (instCl ti [⟨⟨3, 0, ⟨#[109]⟩⟩, ⟨2, 7, ⟨#[]⟩⟩, 1, false⟩] 1 ⟨4, c, ⟨#[]⟩⟩) ti (putL [⟨⟨3, 0, ⟨#[109]⟩⟩, ⟨2, 7, ⟨#[]⟩⟩, 1, false⟩] ⟨2, (m : Nat), kt⟩ ⟨2, (m : Nat), kt⟩, 1))[i]? = some (some (pi, { instCl ti [⟨⟨3, 0, ⟨#[109]⟩⟩, ⟨2, 7, ⟨#[]⟩⟩, 1, false⟩] 1 ⟨4, c, ⟨#[]⟩⟩ with tab := some (ti, putL [⟨⟨3, 0, ⟨#[109]⟩⟩, ⟨2, 7, ⟨#[]⟩⟩, 1, false⟩] ⟨2, (m : Nat), kt⟩ ⟨2, (m : Nat), kt⟩, 1) })) from tabH_at N432.out)
  have H525 := hidden (show Hd w hb F520 (tabH HH429 i pi (instCl ti [⟨⟨3, 0, ⟨#[109]⟩⟩, ⟨2, 7, ⟨#[]⟩⟩, 1, false⟩] 1 ⟨4, c, ⟨#[]⟩⟩) ti (putL [⟨⟨3, 0, ⟨#[109]⟩⟩, ⟨2, 7, ⟨#[]⟩⟩, 1, false⟩] ⟨2, (m : Nat), kt⟩ ⟨2, (m : Nat), kt⟩, 1)) st97 w519 from H503.out.turn2 N432.out g1 g2 g3)
  have V526 := hidden (V504.out.step g2 g3)
  have V527 := hidden (V505.out.step g2 g3)
  have V528 := hidden (V506.out.step g2 g3)
  have V529 := hidden (V507.out.step g2 g3)
  have V530 := hidden (V508.out.step g2 g3)
  have V531 := hidden (V509.out.step g2 g3)
  have V532 := hidden (V510.out.step g2 g3)
  have V533 := hidden (V511.out.step g2 g3)
  have V534 := hidden (V512.out.step g2 g3)
  have V535 := hidden (V513.out.step g2 g3)
  clear l5170 l5171 l5172 l517z l5180 l5181 l5182 l518z C516 g1 g2 g3 N430 N431 N432 H503 V504 V505 V506 V507 V508 V509 V510 V511 V512 V513
  generalize tabH HH429 i pi (instCl ti [⟨⟨3, 0, ⟨#[109]⟩⟩, ⟨2, 7, ⟨#[]⟩⟩, 1, false⟩] 1 ⟨4, c, ⟨#[]⟩⟩) ti (putL [⟨⟨3, 0, ⟨#[109]⟩⟩, ⟨2, 7, ⟨#[]⟩⟩, 1, false⟩] ⟨2, (m : Nat), kt⟩ ⟨2, (m : Nat), kt⟩, 1) = HH521 at *
  (try go_wp2_with fail)
  exact hR.out _ _ ⟨rfl, H525.out.K.below (Nat.le_refl _) (fun _ h => h)⟩
end Go.Proofs.Ytfdfjogoiagnkaa
namespace Go.Proofs.Ytfdfjogoiagnkaa
open Go.RowKit
set_option maxRecDepth 100000
set_option linter.unusedSimpArgs false
set_option linter.unusedVariables false

set_option maxHeartbeats 32000000 in
theorem slotKinds_B : sk_pre.1 1 := by
  intro w kk kn kt st at' hchk rk rn re hok R hR hst hkz w0 w1 w2 qq_0 w4 hb F0 w8 w12 vb19 w16 w21 l pl lb F22 HH23 st24 v30 GE34 w31 SZ33 w38 w43 c pc tc F44 HH45 st46 E48 v55 GE59 w56 SZ58 w65 w71 w77 w83 F84 HH85 w94 i pi ti F95 HH96 st97 E99 E101 S103 v109 GE113 w110 SZ112 w121 w128 w135 w142 F143 HH144 N145 N146 N147 w154 w161 w168 v175 GE179 w176 SZ178 inb u84 u85 u86 u87 u88 u89 u90 wc u6 u92 u93 u94 u95 u96 u97 u98 u99 u100 u101 u102 u103 u104 u105 u106 u107 u108 u109 w251 w255 w263 w271 C281 C282 wdx278 KDx278 rx2780 wzx278 w284 w295 w304 w313 w322 w331 w342 qq_1 qq_2 qq_3 qq_4 v353 GE357 w354 H358 V359 V360 V361 V362 V363 V364 V355 SZ356
  obtain ⟨rfl, hk⟩ := KC.b hok
  have hmm := @run_makeMap Try.prog
  have hml : listR [⟨2, 5, ⟨#[]⟩⟩, ⟨2, 6, ⟨#[]⟩⟩] kn = (V.null, 1) := by
    unfold listR
    by_cases h : kn < 0
    · rw [if_pos h]
    · rw [if_neg h, List.getElem?_eq_none (by simp; omega)]
  have C365 := hidden (get_as (slot_Get_array H358.out.heap N145.out rfl rfl kn kt) hml)
  (try unfold V.val at C365)
  (try unfold V.null at C365)
  (try dsimp only [rV, iV] at C365)
  obtain ⟨l3660, l3661, l3662, l366z⟩ := V360.out.cells
  (try dsimp only [rV, iV, V.null] at l3660 l3661 l3662)
  obtain ⟨l3670, l3671, l3672, l367z⟩ := V359.out.cells
  (try dsimp only [rV, iV, V.null] at l3670 l3671 l3672)
  (try go_wp2_with fail)
  refine C365.out.mono ?_
  rintro e w368 ⟨rfl, hK⟩
  have H369 := hidden (H358.out.calm hK)
  have V370 := hidden (V359.out.calm hK)
  have V371 := hidden (V360.out.calm hK)
  have V372 := hidden (V361.out.calm hK)
  have V373 := hidden (V362.out.calm hK)
  have V374 := hidden (V363.out.calm hK)
  have V375 := hidden (V364.out.calm hK)
  have V376 := hidden (V355.out.calm hK)
  clear l3660 l3661 l3662 l366z l3670 l3671 l3672 l367z C365 hK H358 V359 V360 V361 V362 V363 V364 V355
  obtain ⟨l3770, l3771, l3772, l377z⟩ := V370.out.cells
  (try dsimp only [rV, iV, V.null] at l3770 l3771 l3772)
  obtain ⟨l3780, l3781, l3782, l378z⟩ := V371.out.cells
  (try dsimp only [rV, iV, V.null] at l3780 l3781 l3782)
  (try go_wp2_with fail)
  clear l3770 l3771 l3772 l377z l3780 l3781 l3782 l378z
  have V382 := hidden (show Vr F143 (w368.alloc (.cells #[.int .i64 0, .int .i64 0, .string ⟨#[]⟩] 26)) w368.heap.size ⟨0, 0, ⟨#[]⟩⟩ from Vr.new ⟨0, 0, ⟨#[]⟩⟩ H369.out.heap.inw)
  have SZ383 := hidden (show (w368.alloc (.cells #[.int .i64 0, .int .i64 0, .string ⟨#[]⟩] 26)).heap.size = w368.heap.size + 1 from by simp)
  have GE384 := hidden (show w.heap.size ≤ w368.heap.size from H369.out.K.size)
  have K379 := (Keeps.refl (fun _ => False) w368).alloc (.cells #[.int .i64 0, .int .i64 0, .string ⟨#[]⟩] 26)
  have H385 := hidden (H369.out.calm K379)
  have V386 := hidden (V370.out.calm K379)
  have V387 := hidden (V371.out.calm K379)
  have V388 := hidden (V372.out.calm K379)
  have V389 := hidden (V373.out.calm K379)
  have V390 := hidden (V374.out.calm K379)
  have V391 := hidden (V375.out.calm K379)
  have V392 := hidden (V376.out.calm K379)
  clear K379 H369 V370 V371 V372 V373 V374 V375 V376
  generalize w368.heap.size = v380 at *
  generalize w368.alloc (.cells #[.int .i64 0, .int .i64 0, .string ⟨#[]⟩] 26) = w381 at *
  have C393 := hidden (slot_Set_array_out H385.out.heap N145.out rfl rfl kn kt (by simp; omega) 2 kn kt)
  (try unfold V.val at C393)
  (try unfold V.null at C393)
  (try dsimp only [rV, iV] at C393)
  obtain ⟨l3940, l3941, l3942, l394z⟩ := V386.out.cells
  (try dsimp only [rV, iV, V.null] at l3940 l3941 l3942)
  obtain ⟨l3950, l3951, l3952, l395z⟩ := V387.out.cells
  (try dsimp only [rV, iV, V.null] at l3950 l3951 l3952)
  (try go_wp2_with fail)
  refine C393.out.mono ?_
  rintro e w396 ⟨rfl, hK⟩
  have H397 := hidden (H385.out.calm hK)
  have V398 := hidden (V386.out.calm hK)
  have V399 := hidden (V387.out.calm hK)
  have V400 := hidden (V388.out.calm hK)
  have V401 := hidden (V389.out.calm hK)
  have V402 := hidden (V390.out.calm hK)
  have V403 := hidden (V391.out.calm hK)
  have V404 := hidden (V392.out.calm hK)
  have V405 := hidden (V382.out.calm hK)
  clear l3940 l3941 l3942 l394z l3950 l3951 l3952 l395z C393 hK H385 V386 V387 V388 V389 V390 V391 V392 V382
  have hy1 : instR [⟨⟨3, 0, ⟨#[109]⟩⟩, ⟨2, 7, ⟨#[]⟩⟩, 1, false⟩] [⟨⟨3, 0, ⟨#[109]⟩⟩, ⟨2, 7, ⟨#[]⟩⟩, 1, false⟩, ⟨⟨3, 0, ⟨#[110]⟩⟩, ⟨2, 8, ⟨#[]⟩⟩, 2, false⟩] ⟨2, kn, kt⟩ = (V.null, 3) := by simp [instR, getR, V.null]
  have hy2 : getR [⟨⟨3, 0, ⟨#[109]⟩⟩, ⟨2, 7, ⟨#[]⟩⟩, 1, false⟩, ⟨⟨3, 0, ⟨#[110]⟩⟩, ⟨2, 8, ⟨#[]⟩⟩, 2, false⟩] ⟨2, kn, kt⟩ = (V.null, 3) := by simp [getR, V.null]
  have hy3 : (getR [⟨⟨3, 0, ⟨#[109]⟩⟩, ⟨2, 7, ⟨#[]⟩⟩, 1, false⟩] ⟨2, kn, kt⟩).2 = 3 := by simp [getR]
  have C406 := hidden (get_as (slot_Get_inst H397.out.heap N147.out rfl rfl (by decide) rfl N146.out rfl rfl (by decide) 2 kn kt (by omega)) hy1)
  (try unfold V.val at C406)
  (try unfold V.null at C406)
  (try dsimp only [rV, iV] at C406)
  obtain ⟨l4070, l4071, l4072, l407z⟩ := V401.out.cells
  (try dsimp only [rV, iV, V.null] at l4070 l4071 l4072)
  obtain ⟨l4080, l4081, l4082, l408z⟩ := V398.out.cells
  (try dsimp only [rV, iV, V.null] at l4080 l4081 l4082)
  (try go_wp2_with fail)
  refine C406.out.mono ?_
  rintro e w409 ⟨rfl, hK⟩
  have H410 := hidden (H397.out.calm hK)
  have V411 := hidden (V398.out.calm hK)
  have V412 := hidden (V399.out.calm hK)
  have V413 := hidden (V400.out.calm hK)
  have V414 := hidden (V401.out.calm hK)
  have V415 := hidden (V402.out.calm hK)
  have V416 := hidden (V403.out.calm hK)
  have V417 := hidden (V404.out.calm hK)
  have V418 := hidden (V405.out.calm hK)
  clear l4070 l4071 l4072 l407z l4080 l4081 l4082 l408z C406 hK H397 V398 V399 V400 V401 V402 V403 V404 V405
  obtain ⟨l4190, l4191, l4192, l419z⟩ := V413.out.cells
  (try dsimp only [rV, iV, V.null] at l4190 l4191 l4192)
  obtain ⟨l4200, l4201, l4202, l420z⟩ := V411.out.cells
  (try dsimp only [rV, iV, V.null] at l4200 l4201 l4202)
  (try go_wp2_with fail)
  clear l4190 l4191 l4192 l419z l4200 l4201 l4202 l420z
  have V424 := hidden (show Vr F143 (w409.alloc (.cells #[.int .i64 0, .int .i64 0, .string ⟨#[]⟩] 26)) w409.heap.size ⟨0, 0, ⟨#[]⟩⟩ from Vr.new ⟨0, 0, ⟨#[]⟩⟩ H410.out.heap.inw)
  have SZ425 := hidden (show (w409.alloc (.cells #[.int .i64 0, .int .i64 0, .string ⟨#[]⟩] 26)).heap.size = w409.heap.size + 1 from by simp)
  have GE426 := hidden (show w.heap.size ≤ w409.heap.size from H410.out.K.size)
  have K421 := (Keeps.refl (fun _ => False) w409).alloc (.cells #[.int .i64 0, .int .i64 0, .string ⟨#[]⟩] 26)
  have H427 := hidden (H410.out.calm K421)
  have V428 := hidden (V411.out.calm K421)
  have V429 := hidden (V412.out.calm K421)
  have V430 := hidden (V413.out.calm K421)
  have V431 := hidden (V414.out.calm K421)
  have V432 := hidden (V415.out.calm K421)
  have V433 := hidden (V416.out.calm K421)
  have V434 := hidden (V417.out.calm K421)
  have V435 := hidden (V418.out.calm K421)
  clear K421 H410 V411 V412 V413 V414 V415 V416 V417 V418
  generalize w409.heap.size = v422 at *
  generalize w409.alloc (.cells #[.int .i64 0, .int .i64 0, .string ⟨#[]⟩] 26) = w423 at *
  have C436 := hidden (get_as (slot_Get_class H427.out.heap N146.out rfl rfl (by decide) 2 kn kt (by omega)) hy2)
  (try unfold V.val at C436)
  (try unfold V.null at C436)
  (try dsimp only [rV, iV] at C436)
  obtain ⟨l4370, l4371, l4372, l437z⟩ := V430.out.cells
  (try dsimp only [rV, iV, V.null] at l4370 l4371 l4372)
  obtain ⟨l4380, l4381, l4382, l438z⟩ := V428.out.cells
  (try dsimp only [rV, iV, V.null] at l4380 l4381 l4382)
  (try go_wp2_with fail)
  refine C436.out.mono ?_
  rintro e w439 ⟨rfl, hK⟩
  have H440 := hidden (H427.out.calm hK)
  have V441 := hidden (V428.out.calm hK)
  have V442 := hidden (V429.out.calm hK)
  have V443 := hidden (V430.out.calm hK)
  have V444 := hidden (V431.out.calm hK)
  have V445 := hidden (V432.out.calm hK)
  have V446 := hidden (V433.out.calm hK)
  have V447 := hidden (V434.out.calm hK)
  have V448 := hidden (V435.out.calm hK)
  have V449 := hidden (V424.out.calm hK)
  clear l4370 l4371 l4372 l437z l4380 l4381 l4382 l438z C436 hK H427 V428 V429 V430 V431 V432 V433 V434 V435 V424
  obtain ⟨l4500, l4501, l4502, l450z⟩ := V441.out.cells
  (try dsimp only [rV, iV, V.null] at l4500 l4501 l4502)
  (try go_wp2_with fail)
  clear l4500 l4501 l4502 l450z
  have V454 := hidden (show Vr F143 (w439.alloc (.cells #[.int .i64 0, .int .i64 0, .string ⟨#[]⟩] 26)) w439.heap.size ⟨0, 0, ⟨#[]⟩⟩ from Vr.new ⟨0, 0, ⟨#[]⟩⟩ H440.out.heap.inw)
  have SZ455 := hidden (show (w439.alloc (.cells #[.int .i64 0, .int .i64 0, .string ⟨#[]⟩] 26)).heap.size = w439.heap.size + 1 from by simp)
  have GE456 := hidden (show w.heap.size ≤ w439.heap.size from H440.out.K.size)
  have K451 := (Keeps.refl (fun _ => False) w439).alloc (.cells #[.int .i64 0, .int .i64 0, .string ⟨#[]⟩] 26)
  have H457 := hidden (H440.out.calm K451)
  have V458 := hidden (V441.out.calm K451)
  have V459 := hidden (V442.out.calm K451)
  have V460 := hidden (V443.out.calm K451)
  have V461 := hidden (V444.out.calm K451)
  have V462 := hidden (V445.out.calm K451)
  have V463 := hidden (V446.out.calm K451)
  have V464 := hidden (V447.out.calm K451)
  have V465 := hidden (V448.out.calm K451)
  have V466 := hidden (V449.out.calm K451)
  clear K451 H440 V441 V442 V443 V444 V445 V446 V447 V448 V449
  generalize w439.heap.size = v452 at *
  generalize w439.alloc (.cells #[.int .i64 0, .int .i64 0, .string ⟨#[]⟩] 26) = w453 at *
  have M0 : IsMap (κ := ByteArray) (β := Int) (fun s => .string s) (fun s => s.size ≤ maxLen) (fun n => .int .i64 n) (w453.alloc (.map #[] 0)) (v452 + 1) [] := SZ455.out ▸ IsMap.new w453
  obtain ⟨W1, e1, k1, M1⟩ := M0.update2 ks_str Try.underlying95 (x := ⟨#[109]⟩) (by decide) 7
  obtain ⟨W2, e2, k2, M2⟩ := M1.update2 ks_str Try.underlying95 (x := ⟨#[110]⟩) (by decide) 8
  have e3 := M2.look false ks_str Try.underlying95 (zero_int64 W2) (x := kt) (by unfold maxLen; omega)
  obtain ⟨wv, hwv⟩ : ∃ wv : Int, ((mget (mput (mput ([] : List (ByteArray × Int)) ⟨#[109]⟩ 7) ⟨#[110]⟩ 8) kt).map fun n => Value.int .i64 n).getD (.int .i64 0) = .int .i64 wv := by
    cases mget (mput (mput ([] : List (ByteArray × Int)) ⟨#[109]⟩ 7) ⟨#[110]⟩ 8) kt with
    | none => exact ⟨0, rfl⟩
    | some n => exact ⟨n, rfl⟩
  rw [hwv] at e3
  clear hwv
  simp only [Bool.false_eq_true, if_false] at e3
  (try dsimp only at e1 e2)
  have KM : Keeps (fun k => w453.heap.size ≤ k) w453 W2 := (((Keeps.refl _ w453).alloc _).trans k1 (fun k _ h => by have := SZ455.out; have h9 : k = v452 + 1 := h; omega)).trans k2 (fun k _ h => by have := SZ455.out; have h9 : k = v452 + 1 := h; omega)
  have H467 := hidden (H457.out.beyond KM)
  have V468 := hidden (V458.out.beyond KM)
  have V469 := hidden (V459.out.beyond KM)
  have V470 := hidden (V460.out.beyond KM)
  have V471 := hidden (V461.out.beyond KM)
  have V472 := hidden (V462.out.beyond KM)
  have V473 := hidden (V463.out.beyond KM)
  have V474 := hidden (V464.out.beyond KM)
  have V475 := hidden (V465.out.beyond KM)
  have V476 := hidden (V466.out.beyond KM)
  have V477 := hidden (V454.out.beyond KM)
  clear KM k1 k2 M0 M1 M2 SZ455 H457 V458 V459 V460 V461 V462 V463 V464 V465 V466 V454
  obtain ⟨l4780, l4781, l4782, l478z⟩ := V468.out.cells
  (try dsimp only [rV, iV, V.null] at l4780 l4781 l4782)
  obtain ⟨l4790, l4791, l4792, l479z⟩ := V471.out.cells
  (try dsimp only [rV, iV, V.null] at l4790 l4791 l4792)
  rw [e1]
  (try go_wp2_with fail)
  (try rw [e2])
  (try go_wp2_with fail)
  (try rw [e3])
  (try go_wp2_with fail)
  clear e1 e2 e3
  clear l4780 l4781 l4782 l478z l4790 l4791 l4792 l479z
  -- behind the map
  have C480 := hidden (slot_Set_tabR H467.out.heap N147.out (.inr (.inr rfl)) rfl (by decide) ⟨2, kn, kt⟩ ⟨2, kn, kt⟩ (by simp only; omega) hy3)
  (try unfold V.val at C480)
  (try unfold V.null at C480)
  (try dsimp only [rV, iV] at C480)
  obtain ⟨l4810, l4811, l4812, l481z⟩ := V471.out.cells
  (try dsimp only [rV, iV, V.null] at l4810 l4811 l4812)
  obtain ⟨l4820, l4821, l4822, l482z⟩ := V468.out.cells
  (try dsimp only [rV, iV, V.null] at l4820 l4821 l4822)
  (try go_wp2_with fail)
  refine C480.out.mono ?_
  rintro e w483 ⟨F484, rfl, g1, g2, g3⟩
  have N486 := hidden (show (tabH HH144 i pi (instCl ti [⟨⟨3, 0, ⟨#[109]⟩⟩, ⟨2, 7, ⟨#[]⟩⟩, 1, false⟩] 1 ⟨4, c, ⟨#[]⟩⟩) ti (putL [⟨⟨3, 0, ⟨#[109]⟩⟩, ⟨2, 7, ⟨#[]⟩⟩, 1, false⟩] ⟨2, kn, kt⟩ ⟨2, kn, kt⟩, 1))[l]? = some (some (pl, arrayCl lb [⟨2, 5, ⟨#[]⟩⟩, ⟨2, 6, ⟨#[]⟩⟩])) from set_old N145.out E99.out)
  have N487 := hidden (show (tabH HH144 i pi (instCl ti [⟨⟨3, 0, ⟨#[109]⟩⟩, ⟨2, 7, ⟨#[]⟩⟩, 1, false⟩] 1 ⟨4, c, ⟨#[]⟩⟩) ti (putL [⟨⟨3, 0, ⟨#[109]⟩⟩, ⟨2, 7, ⟨#[]⟩⟩, 1, false⟩] ⟨2, kn, kt⟩ ⟨2, kn, kt⟩, 1))[c]? = some (some (pc, classCl tc [⟨⟨3, 0, ⟨#[109]⟩⟩, ⟨2, 7, ⟨#[]⟩⟩, 1, false⟩, ⟨⟨3, 0, ⟨#[110]⟩⟩, ⟨2, 8, ⟨#[]⟩⟩, 2, false⟩] 2 V.null)) from set_old N146.out E101.out)
  have N488 := hidden (show (tabH HH144 i pi (instCl ti [⟨⟨3, 0, ⟨#[109]⟩⟩, ⟨2, 7, ⟨#[]⟩⟩, 1, false⟩] 1 ⟨4, c, ⟨#[]⟩⟩) ti (putL [⟨⟨3, 0, ⟨#[109]⟩⟩, ⟨2, 7, ⟨#[]⟩⟩, 1, false⟩] ⟨2, kn, kt⟩ ⟨2, kn, kt⟩, 1))[i]? = some (some (pi, { instCl ti [⟨⟨3, 0, ⟨#[109]⟩⟩, ⟨2, 7, ⟨#[]⟩⟩, 1, false⟩] 1 ⟨4, c, ⟨#[]⟩⟩ with tab := some (ti, putL [⟨⟨3, 0, ⟨#[109]⟩⟩, ⟨2, 7, ⟨#[]⟩⟩, 1, false⟩] ⟨2, kn, kt⟩ ⟨2, kn, kt⟩, 1) })) from tabH_at N147.out)
  have H489 := hidden (show Hd w hb F484 (tabH HH144 i pi (instCl ti [⟨⟨3, 0, ⟨#[109]⟩⟩, ⟨2, 7, ⟨#[]⟩⟩, 1, false⟩] 1 ⟨4, c, ⟨#[]⟩⟩) ti (putL [⟨⟨3, 0, ⟨#[109]⟩⟩, ⟨2, 7, ⟨#[]⟩⟩, 1, false⟩] ⟨2, kn, kt⟩ ⟨2, kn, kt⟩, 1)) st97 w483 from H467.out.turn2 N147.out g1 g2 g3)
  have V490 := hidden (V468.out.step g2 g3)
  have V491 := hidden (V469.out.step g2 g3)
  have V492 := hidden (V470.out.step g2 g3)
  have V493 := hidden (V471.out.step g2 g3)
  have V494 := hidden (V472.out.step g2 g3)
  have V495 := hidden (V473.out.step g2 g3)
  have V496 := hidden (V474.out.step g2 g3)
  have V497 := hidden (V475.out.step g2 g3)
  have V498 := hidden (V476.out.step g2 g3)
  have V499 := hidden (V477.out.step g2 g3)
  clear l4810 l4811 l4812 l481z l4820 l4821 l4822 l482z C480 g1 g2 g3 N145 N146 N147 H467 V468 V469 V470 V471 V472 V473 V474 V475 V476 V477
  generalize tabH HH144 i pi (instCl ti [⟨⟨3, 0, ⟨#[109]⟩⟩, ⟨2, 7, ⟨#[]⟩⟩, 1, false⟩] 1 ⟨4, c, ⟨#[]⟩⟩) ti (putL [⟨⟨3, 0, ⟨#[109]⟩⟩, ⟨2, 7, ⟨#[]⟩⟩, 1, false⟩] ⟨2, kn, kt⟩ ⟨2, kn, kt⟩, 1) = HH485 at *
  (try go_wp2_with fail)
  exact hR.out _ _ ⟨rfl, H489.out.K.below (Nat.le_refl _) (fun _ h => h)⟩
end Go.Proofs.Ytfdfjogoiagnkaa
namespace Go.Proofs.Ytfdfjogoiagnkaa
open Go.RowKit
set_option maxRecDepth 100000
set_option linter.unusedSimpArgs false
set_option linter.unusedVariables false

set_option maxHeartbeats 32000000 in
theorem slotKinds_C : sk_pre.1 3 := by
  intro w kk kn kt st at' hchk rk rn re hok R hR hst hkz w0 w1 w2 qq_0 w4 hb F0 w8 w12 vb19 w16 w21 l pl lb F22 HH23 st24 v30 GE34 w31 SZ33 w38 w43 c pc tc F44 HH45 st46 E48 v55 GE59 w56 SZ58 w65 w71 w77 w83 F84 HH85 w94 i pi ti F95 HH96 st97 E99 E101 S103 v109 GE113 w110 SZ112 w121 w128 w135 w142 F143 HH144 N145 N146 N147 w154 w161 w168 v175 GE179 w176 SZ178 inb u84 u85 u86 u87 u88 u89 u90 wc u6 u92 u93 u94 u95 u96 u97 u98 u99 u100 u101 u102 u103 u104 u105 u106 u107 u108 u109 w251 w255 w263 w271 C281 C282 wdx278 KDx278 rx2780 wzx278 w284 w295 w304 w313 w322 w331 w342 qq_1 qq_2 qq_3 qq_4 v353 GE357 w354 H358 V359 V360 V361 V362 V363 V364 V355 SZ356
  obtain ⟨h2, h3⟩ := KC.c hok
  have g2 : (kk == 2) = false := by simpa using h2
  have g3 : (kk == 3) = false := by simpa using h3
  have hmm := @run_makeMap Try.prog
  have C365 := hidden (slot_Get_array_key H358.out.heap N145.out rfl kk kn kt h2)
  (try unfold V.val at C365)
  (try unfold V.null at C365)
  (try dsimp only [rV, iV] at C365)
  obtain ⟨l3660, l3661, l3662, l366z⟩ := V360.out.cells
  (try dsimp only [rV, iV, V.null] at l3660 l3661 l3662)
  obtain ⟨l3670, l3671, l3672, l367z⟩ := V359.out.cells
  (try dsimp only [rV, iV, V.null] at l3670 l3671 l3672)
  (try go_wp2_with fail)
  refine C365.out.mono ?_
  rintro e w368 ⟨rfl, hK⟩
  have H369 := hidden (H358.out.calm hK)
  have V370 := hidden (V359.out.calm hK)
  have V371 := hidden (V360.out.calm hK)
  have V372 := hidden (V361.out.calm hK)
  have V373 := hidden (V362.out.calm hK)
  have V374 := hidden (V363.out.calm hK)
  have V375 := hidden (V364.out.calm hK)
  have V376 := hidden (V355.out.calm hK)
  clear l3660 l3661 l3662 l366z l3670 l3671 l3672 l367z C365 hK H358 V359 V360 V361 V362 V363 V364 V355
  obtain ⟨l3770, l3771, l3772, l377z⟩ := V370.out.cells
  (try dsimp only [rV, iV, V.null] at l3770 l3771 l3772)
  obtain ⟨l3780, l3781, l3782, l378z⟩ := V371.out.cells
  (try dsimp only [rV, iV, V.null] at l3780 l3781 l3782)
  (try go_wp2_with fail)
  clear l3770 l3771 l3772 l377z l3780 l3781 l3782 l378z
  have V382 := hidden (show Vr F143 (w368.alloc (.cells #[.int .i64 0, .int .i64 0, .string ⟨#[]⟩] 26)) w368.heap.size ⟨0, 0, ⟨#[]⟩⟩ from Vr.new ⟨0, 0, ⟨#[]⟩⟩ H369.out.heap.inw)
  have SZ383 := hidden (show (w368.alloc (.cells #[.int .i64 0, .int .i64 0, .string ⟨#[]⟩] 26)).heap.size = w368.heap.size + 1 from by simp)
  have GE384 := hidden (show w.heap.size ≤ w368.heap.size from H369.out.K.size)
  have K379 := (Keeps.refl (fun _ => False) w368).alloc (.cells #[.int .i64 0, .int .i64 0, .string ⟨#[]⟩] 26)
  have H385 := hidden (H369.out.calm K379)
  have V386 := hidden (V370.out.calm K379)
  have V387 := hidden (V371.out.calm K379)
  have V388 := hidden (V372.out.calm K379)
  have V389 := hidden (V373.out.calm K379)
  have V390 := hidden (V374.out.calm K379)
  have V391 := hidden (V375.out.calm K379)
  have V392 := hidden (V376.out.calm K379)
  clear K379 H369 V370 V371 V372 V373 V374 V375 V376
  generalize w368.heap.size = v380 at *
  generalize w368.alloc (.cells #[.int .i64 0, .int .i64 0, .string ⟨#[]⟩] 26) = w381 at *
  have C393 := hidden (slot_Set_array_key H385.out.heap N145.out rfl kk kn kt h2 kk kn kt)
  (try unfold V.val at C393)
  (try unfold V.null at C393)
  (try dsimp only [rV, iV] at C393)
  obtain ⟨l3940, l3941, l3942, l394z⟩ := V386.out.cells
  (try dsimp only [rV, iV, V.null] at l3940 l3941 l3942)
  obtain ⟨l3950, l3951, l3952, l395z⟩ := V387.out.cells
  (try dsimp only [rV, iV, V.null] at l3950 l3951 l3952)
  (try go_wp2_with fail)
  refine C393.out.mono ?_
  rintro e w396 ⟨rfl, hK⟩
  have H397 := hidden (H385.out.calm hK)
  have V398 := hidden (V386.out.calm hK)
  have V399 := hidden (V387.out.calm hK)
  have V400 := hidden (V388.out.calm hK)
  have V401 := hidden (V389.out.calm hK)
  have V402 := hidden (V390.out.calm hK)
  have V403 := hidden (V391.out.calm hK)
  have V404 := hidden (V392.out.calm hK)
  have V405 := hidden (V382.out.calm hK)
  clear l3940 l3941 l3942 l394z l3950 l3951 l3952 l395z C393 hK H385 V386 V387 V388 V389 V390 V391 V392 V382
  have hy1 : instR [⟨⟨3, 0, ⟨#[109]⟩⟩, ⟨2, 7, ⟨#[]⟩⟩, 1, false⟩] [⟨⟨3, 0, ⟨#[109]⟩⟩, ⟨2, 7, ⟨#[]⟩⟩, 1, false⟩, ⟨⟨3, 0, ⟨#[110]⟩⟩, ⟨2, 8, ⟨#[]⟩⟩, 2, false⟩] ⟨kk, kn, kt⟩ = (V.null, 3) := by simp [instR, getR, V.null, h3, Ne.symm h3]
  have hy2 : getR [⟨⟨3, 0, ⟨#[109]⟩⟩, ⟨2, 7, ⟨#[]⟩⟩, 1, false⟩, ⟨⟨3, 0, ⟨#[110]⟩⟩, ⟨2, 8, ⟨#[]⟩⟩, 2, false⟩] ⟨kk, kn, kt⟩ = (V.null, 3) := by simp [getR, V.null, h3, Ne.symm h3]
  have hy3 : (getR [⟨⟨3, 0, ⟨#[109]⟩⟩, ⟨2, 7, ⟨#[]⟩⟩, 1, false⟩] ⟨kk, kn, kt⟩).2 = 3 := by simp [getR, h3, Ne.symm h3]
  have C406 := hidden (get_as (slot_Get_inst H397.out.heap N147.out rfl rfl (by decide) rfl N146.out rfl rfl (by decide) kk kn kt (by omega)) hy1)
  (try unfold V.val at C406)
  (try unfold V.null at C406)
  (try dsimp only [rV, iV] at C406)
  obtain ⟨l4070, l4071, l4072, l407z⟩ := V401.out.cells
  (try dsimp only [rV, iV, V.null] at l4070 l4071 l4072)
  obtain ⟨l4080, l4081, l4082, l408z⟩ := V398.out.cells
  (try dsimp only [rV, iV, V.null] at l4080 l4081 l4082)
  (try go_wp2_with fail)
  refine C406.out.mono ?_
  rintro e w409 ⟨rfl, hK⟩
  have H410 := hidden (H397.out.calm hK)
  have V411 := hidden (V398.out.calm hK)
  have V412 := hidden (V399.out.calm hK)
  have V413 := hidden (V400.out.calm hK)
  have V414 := hidden (V401.out.calm hK)
  have V415 := hidden (V402.out.calm hK)
  have V416 := hidden (V403.out.calm hK)
  have V417 := hidden (V404.out.calm hK)
  have V418 := hidden (V405.out.calm hK)
  clear l4070 l4071 l4072 l407z l4080 l4081 l4082 l408z C406 hK H397 V398 V399 V400 V401 V402 V403 V404 V405
  obtain ⟨l4190, l4191, l4192, l419z⟩ := V413.out.cells
  (try dsimp only [rV, iV, V.null] at l4190 l4191 l4192)
  obtain ⟨l4200, l4201, l4202, l420z⟩ := V411.out.cells
  (try dsimp only [rV, iV, V.null] at l4200 l4201 l4202)
  (try go_wp2_with fail)
  clear l4190 l4191 l4192 l419z l4200 l4201 l4202 l420z
  have V424 := hidden (show Vr F143 (w409.alloc (.cells #[.int .i64 0, .int .i64 0, .string ⟨#[]⟩] 26)) w409.heap.size ⟨0, 0, ⟨#[]⟩⟩ from Vr.new ⟨0, 0, ⟨#[]⟩⟩ H410.out.heap.inw)
  have SZ425 := hidden (show (w409.alloc (.cells #[.int .i64 0, .int .i64 0, .string ⟨#[]⟩] 26)).heap.size = w409.heap.size + 1 from by simp)
  have GE426 := hidden (show w.heap.size ≤ w409.heap.size from H410.out.K.size)
  have K421 := (Keeps.refl (fun _ => False) w409).alloc (.cells #[.int .i64 0, .int .i64 0, .string ⟨#[]⟩] 26)
  have H427 := hidden (H410.out.calm K421)
  have V428 := hidden (V411.out.calm K421)
  have V429 := hidden (V412.out.calm K421)
  have V430 := hidden (V413.out.calm K421)
  have V431 := hidden (V414.out.calm K421)
  have V432 := hidden (V415.out.calm K421)
  have V433 := hidden (V416.out.calm K421)
  have V434 := hidden (V417.out.calm K421)
  have V435 := hidden (V418.out.calm K421)
  clear K421 H410 V411 V412 V413 V414 V415 V416 V417 V418
  generalize w409.heap.size = v422 at *
  generalize w409.alloc (.cells #[.int .i64 0, .int .i64 0, .string ⟨#[]⟩] 26) = w423 at *
  have C436 := hidden (get_as (slot_Get_class H427.out.heap N146.out rfl rfl (by decide) kk kn kt (by omega)) hy2)
  (try unfold V.val at C436)
  (try unfold V.null at C436)
  (try dsimp only [rV, iV] at C436)
  obtain ⟨l4370, l4371, l4372, l437z⟩ := V430.out.cells
  (try dsimp only [rV, iV, V.null] at l4370 l4371 l4372)
  obtain ⟨l4380, l4381, l4382, l438z⟩ := V428.out.cells
  (try dsimp only [rV, iV, V.null] at l4380 l4381 l4382)
  (try go_wp2_with fail)
  refine C436.out.mono ?_
  rintro e w439 ⟨rfl, hK⟩
  have H440 := hidden (H427.out.calm hK)
  have V441 := hidden (V428.out.calm hK)
  have V442 := hidden (V429.out.calm hK)
  have V443 := hidden (V430.out.calm hK)
  have V444 := hidden (V431.out.calm hK)
  have V445 := hidden (V432.out.calm hK)
  have V446 := hidden (V433.out.calm hK)
  have V447 := hidden (V434.out.calm hK)
  have V448 := hidden (V435.out.calm hK)
  have V449 := hidden (V424.out.calm hK)
  clear l4370 l4371 l4372 l437z l4380 l4381 l4382 l438z C436 hK H427 V428 V429 V430 V431 V432 V433 V434 V435 V424
  obtain ⟨l4500, l4501, l4502, l450z⟩ := V441.out.cells
  (try dsimp only [rV, iV, V.null] at l4500 l4501 l4502)
  (try go_wp2_with fail)
  clear l4500 l4501 l4502 l450z
  have V454 := hidden (show Vr F143 (w439.alloc (.cells #[.int .i64 0, .int .i64 0, .string ⟨#[]⟩] 26)) w439.heap.size ⟨0, 0, ⟨#[]⟩⟩ from Vr.new ⟨0, 0, ⟨#[]⟩⟩ H440.out.heap.inw)
  have SZ455 := hidden (show (w439.alloc (.cells #[.int .i64 0, .int .i64 0, .string ⟨#[]⟩] 26)).heap.size = w439.heap.size + 1 from by simp)
  have GE456 := hidden (show w.heap.size ≤ w439.heap.size from H440.out.K.size)
  have K451 := (Keeps.refl (fun _ => False) w439).alloc (.cells #[.int .i64 0, .int .i64 0, .string ⟨#[]⟩] 26)
  have H457 := hidden (H440.out.calm K451)
  have V458 := hidden (V441.out.calm K451)
  have V459 := hidden (V442.out.calm K451)
  have V460 := hidden (V443.out.calm K451)
  have V461 := hidden (V444.out.calm K451)
  have V462 := hidden (V445.out.calm K451)
  have V463 := hidden (V446.out.calm K451)
  have V464 := hidden (V447.out.calm K451)
  have V465 := hidden (V448.out.calm K451)
  have V466 := hidden (V449.out.calm K451)
  clear K451 H440 V441 V442 V443 V444 V445 V446 V447 V448 V449
  generalize w439.heap.size = v452 at *
  generalize w439.alloc (.cells #[.int .i64 0, .int .i64 0, .string ⟨#[]⟩] 26) = w453 at *
  have M0 : IsMap (κ := ByteArray) (β := Int) (fun s => .string s) (fun s => s.size ≤ maxLen) (fun n => .int .i64 n) (w453.alloc (.map #[] 0)) (v452 + 1) [] := SZ455.out ▸ IsMap.new w453
  obtain ⟨W1, e1, k1, M1⟩ := M0.update2 ks_str Try.underlying95 (x := ⟨#[109]⟩) (by decide) 7
  obtain ⟨W2, e2, k2, M2⟩ := M1.update2 ks_str Try.underlying95 (x := ⟨#[110]⟩) (by decide) 8
  have e3 := M2.look false ks_str Try.underlying95 (zero_int64 W2) (x := kt) (by unfold maxLen; omega)
  obtain ⟨wv, hwv⟩ : ∃ wv : Int, ((mget (mput (mput ([] : List (ByteArray × Int)) ⟨#[109]⟩ 7) ⟨#[110]⟩ 8) kt).map fun n => Value.int .i64 n).getD (.int .i64 0) = .int .i64 wv := by
    cases mget (mput (mput ([] : List (ByteArray × Int)) ⟨#[109]⟩ 7) ⟨#[110]⟩ 8) kt with
    | none => exact ⟨0, rfl⟩
    | some n => exact ⟨n, rfl⟩
  rw [hwv] at e3
  clear hwv
  simp only [Bool.false_eq_true, if_false] at e3
  (try dsimp only at e1 e2)
  have KM : Keeps (fun k => w453.heap.size ≤ k) w453 W2 := (((Keeps.refl _ w453).alloc _).trans k1 (fun k _ h => by have := SZ455.out; have h9 : k = v452 + 1 := h; omega)).trans k2 (fun k _ h => by have := SZ455.out; have h9 : k = v452 + 1 := h; omega)
  have H467 := hidden (H457.out.beyond KM)
  have V468 := hidden (V458.out.beyond KM)
  have V469 := hidden (V459.out.beyond KM)
  have V470 := hidden (V460.out.beyond KM)
  have V471 := hidden (V461.out.beyond KM)
  have V472 := hidden (V462.out.beyond KM)
  have V473 := hidden (V463.out.beyond KM)
  have V474 := hidden (V464.out.beyond KM)
  have V475 := hidden (V465.out.beyond KM)
  have V476 := hidden (V466.out.beyond KM)
  have V477 := hidden (V454.out.beyond KM)
  clear KM k1 k2 M0 M1 M2 SZ455 H457 V458 V459 V460 V461 V462 V463 V464 V465 V466 V454
  obtain ⟨l4780, l4781, l4782, l478z⟩ := V468.out.cells
  (try dsimp only [rV, iV, V.null] at l4780 l4781 l4782)
  obtain ⟨l4790, l4791, l4792, l479z⟩ := V471.out.cells
  (try dsimp only [rV, iV, V.null] at l4790 l4791 l4792)
  rw [e1]
  (try go_wp2_with fail)
  (try rw [e2])
  (try go_wp2_with fail)
  (try rw [e3])
  (try go_wp2_with fail)
  clear e1 e2 e3
  clear l4780 l4781 l4782 l478z l4790 l4791 l4792 l479z
  -- behind the map
  have C480 := hidden (slot_Set_tabR H467.out.heap N147.out (.inr (.inr rfl)) rfl (by decide) ⟨kk, kn, kt⟩ ⟨kk, kn, kt⟩ (by simp only; omega) hy3)
  (try unfold V.val at C480)
  (try unfold V.null at C480)
  (try dsimp only [rV, iV] at C480)
  obtain ⟨l4810, l4811, l4812, l481z⟩ := V471.out.cells
  (try dsimp only [rV, iV, V.null] at l4810 l4811 l4812)
  obtain ⟨l4820, l4821, l4822, l482z⟩ := V468.out.cells
  (try dsimp only [rV, iV, V.null] at l4820 l4821 l4822)
  (try go_wp2_with fail)
  refine C480.out.mono ?_
  rintro e w483 ⟨F484, rfl, g1, g2, g3⟩
  have N486 := hidden (show (tabH HH144 i pi (instCl ti [⟨⟨3, 0, ⟨#[109]⟩⟩, ⟨2, 7, ⟨#[]⟩⟩, 1, false⟩] 1 ⟨4, c, ⟨#[]⟩⟩) ti (putL [⟨⟨3, 0, ⟨#[109]⟩⟩, ⟨2, 7, ⟨#[]⟩⟩, 1, false⟩] ⟨kk, kn, kt⟩ ⟨kk, kn, kt⟩, 1))[l]? = some (some (pl, arrayCl lb [⟨2, 5, ⟨#[]⟩⟩, ⟨2, 6, ⟨#[]⟩⟩])) from set_old N145.out E99.out)
  have N487 := hidden (show (tabH HH144 i pi (instCl ti [⟨⟨3, 0, ⟨#[109]⟩⟩, ⟨2, 7, ⟨#[]⟩⟩, 1, false⟩] 1 ⟨4, c, ⟨#[]⟩⟩) ti (putL [⟨⟨3, 0, ⟨#[109]⟩⟩, ⟨2, 7, ⟨#[]⟩⟩, 1, false⟩] ⟨kk, kn, kt⟩ ⟨kk, kn, kt⟩, 1))[c]? = some (some (pc, classCl tc [⟨⟨3, 0, ⟨#[109]⟩⟩, ⟨2, 7, ⟨#[]⟩⟩, 1, false⟩, ⟨⟨3, 0, ⟨#[110]⟩⟩, ⟨2, 8, ⟨#[]⟩⟩, 2, false⟩] 2 V.null)) from set_old N146.out E101.out)
  have N488 := hidden (show (tabH HH144 i pi (instCl ti [⟨⟨3, 0, ⟨#[109]⟩⟩, ⟨2, 7, ⟨#[]⟩⟩, 1, false⟩] 1 ⟨4, c, ⟨#[]⟩⟩) ti (putL [⟨⟨3, 0, ⟨#[109]⟩⟩, ⟨2, 7, ⟨#[]⟩⟩, 1, false⟩] ⟨kk, kn, kt⟩ ⟨kk, kn, kt⟩, 1))[i]? = some (some (pi, { instCl ti [⟨⟨3, 0, ⟨#[109]⟩⟩, ⟨2, 7, ⟨#[]⟩⟩, 1, false⟩] 1 ⟨4, c, ⟨#[]⟩⟩ with tab := some (ti, putL [⟨⟨3, 0, ⟨#[109]⟩⟩, ⟨2, 7, ⟨#[]⟩⟩, 1, false⟩] ⟨kk, kn, kt⟩ ⟨kk, kn, kt⟩, 1) })) from tabH_at N147.out)
  have H489 := hidden (show Hd w hb F484 (tabH HH144 i pi (instCl ti [⟨⟨3, 0, ⟨#[109]⟩⟩, ⟨2, 7, ⟨#[]⟩⟩, 1, false⟩] 1 ⟨4, c, ⟨#[]⟩⟩) ti (putL [⟨⟨3, 0, ⟨#[109]⟩⟩, ⟨2, 7, ⟨#[]⟩⟩, 1, false⟩] ⟨kk, kn, kt⟩ ⟨kk, kn, kt⟩, 1)) st97 w483 from H467.out.turn2 N147.out g1 g2 g3)
  have V490 := hidden (V468.out.step g2 g3)
  have V491 := hidden (V469.out.step g2 g3)
  have V492 := hidden (V470.out.step g2 g3)
  have V493 := hidden (V471.out.step g2 g3)
  have V494 := hidden (V472.out.step g2 g3)
  have V495 := hidden (V473.out.step g2 g3)
  have V496 := hidden (V474.out.step g2 g3)
  have V497 := hidden (V475.out.step g2 g3)
  have V498 := hidden (V476.out.step g2 g3)
  have V499 := hidden (V477.out.step g2 g3)
  clear l4810 l4811 l4812 l481z l4820 l4821 l4822 l482z C480 g1 g2 g3 N145 N146 N147 H467 V468 V469 V470 V471 V472 V473 V474 V475 V476 V477
  generalize tabH HH144 i pi (instCl ti [⟨⟨3, 0, ⟨#[109]⟩⟩, ⟨2, 7, ⟨#[]⟩⟩, 1, false⟩] 1 ⟨4, c, ⟨#[]⟩⟩) ti (putL [⟨⟨3, 0, ⟨#[109]⟩⟩, ⟨2, 7, ⟨#[]⟩⟩, 1, false⟩] ⟨kk, kn, kt⟩ ⟨kk, kn, kt⟩, 1) = HH485 at *
  (try go_wp2_with fail)
  exact hR.out _ _ ⟨rfl, H489.out.K.below (Nat.le_refl _) (fun _ h => h)⟩
end Go.Proofs.Ytfdfjogoiagnkaa
namespace Go.Proofs.Ytfdfjogoiagnkaa
open Go.RowKit
set_option maxRecDepth 100000
set_option linter.unusedSimpArgs false
set_option linter.unusedVariables false

set_option maxHeartbeats 32000000 in
theorem slotKinds_D : sk_pre.1 4 := by
  intro w kk kn kt st at' hchk rk rn re hok R hR hst hkz w0 w1 w2 qq_0 w4 hb F0 w8 w12 vb19 w16 w21 l pl lb F22 HH23 st24 v30 GE34 w31 SZ33 w38 w43 c pc tc F44 HH45 st46 E48 v55 GE59 w56 SZ58 w65 w71 w77 w83 F84 HH85 w94 i pi ti F95 HH96 st97 E99 E101 S103 v109 GE113 w110 SZ112 w121 w128 w135 w142 F143 HH144 N145 N146 N147 w154 w161 w168 v175 GE179 w176 SZ178 inb u84 u85 u86 u87 u88 u89 u90 wc u6 u92 u93 u94 u95 u96 u97 u98 u99 u100 u101 u102 u103 u104 u105 u106 u107 u108 u109 w251 w255 w263 w271 C281 C282 wdx278 KDx278 rx2780 wzx278 w284 w295 w304 w313 w322 w331 w342 qq_1 qq_2 qq_3 qq_4 v353 GE357 w354 H358 V359 V360 V361 V362 V363 V364 V355 SZ356
  obtain ⟨rfl, rfl, rfl⟩ := KC.d hok
  have hmm := @run_makeMap Try.prog
  have C365 := hidden (slot_Get_array_key H358.out.heap N145.out rfl 3 0 ⟨#[109]⟩ (by decide))
  (try unfold V.val at C365)
  (try unfold V.null at C365)
  (try dsimp only [rV, iV] at C365)
  obtain ⟨l3660, l3661, l3662, l366z⟩ := V360.out.cells
  (try dsimp only [rV, iV, V.null] at l3660 l3661 l3662)
  obtain ⟨l3670, l3671, l3672, l367z⟩ := V359.out.cells
  (try dsimp only [rV, iV, V.null] at l3670 l3671 l3672)
  (try go_wp2_with fail)
  refine C365.out.mono ?_
  rintro e w368 ⟨rfl, hK⟩
  have H369 := hidden (H358.out.calm hK)
  have V370 := hidden (V359.out.calm hK)
  have V371 := hidden (V360.out.calm hK)
  have V372 := hidden (V361.out.calm hK)
  have V373 := hidden (V362.out.calm hK)
  have V374 := hidden (V363.out.calm hK)
  have V375 := hidden (V364.out.calm hK)
  have V376 := hidden (V355.out.calm hK)
  clear l3660 l3661 l3662 l366z l3670 l3671 l3672 l367z C365 hK H358 V359 V360 V361 V362 V363 V364 V355
  obtain ⟨l3770, l3771, l3772, l377z⟩ := V370.out.cells
  (try dsimp only [rV, iV, V.null] at l3770 l3771 l3772)
  obtain ⟨l3780, l3781, l3782, l378z⟩ := V371.out.cells
  (try dsimp only [rV, iV, V.null] at l3780 l3781 l3782)
  (try go_wp2_with fail)
  clear l3770 l3771 l3772 l377z l3780 l3781 l3782 l378z
  have V382 := hidden (show Vr F143 (w368.alloc (.cells #[.int .i64 0, .int .i64 0, .string ⟨#[]⟩] 26)) w368.heap.size ⟨0, 0, ⟨#[]⟩⟩ from Vr.new ⟨0, 0, ⟨#[]⟩⟩ H369.out.heap.inw)
  have SZ383 := hidden (show (w368.alloc (.cells #[.int .i64 0, .int .i64 0, .string ⟨#[]⟩] 26)).heap.size = w368.heap.size + 1 from by simp)
  have GE384 := hidden (show w.heap.size ≤ w368.heap.size from H369.out.K.size)
  have K379 := (Keeps.refl (fun _ => False) w368).alloc (.cells #[.int .i64 0, .int .i64 0, .string ⟨#[]⟩] 26)
  have H385 := hidden (H369.out.calm K379)
  have V386 := hidden (V370.out.calm K379)
  have V387 := hidden (V371.out.calm K379)
  have V388 := hidden (V372.out.calm K379)
  have V389 := hidden (V373.out.calm K379)
  have V390 := hidden (V374.out.calm K379)
  have V391 := hidden (V375.out.calm K379)
  have V392 := hidden (V376.out.calm K379)
  clear K379 H369 V370 V371 V372 V373 V374 V375 V376
  generalize w368.heap.size = v380 at *
  generalize w368.alloc (.cells #[.int .i64 0, .int .i64 0, .string ⟨#[]⟩] 26) = w381 at *
  have C393 := hidden (slot_Set_array_key H385.out.heap N145.out rfl 3 0 ⟨#[109]⟩ (by decide) 3 0 ⟨#[109]⟩)
  (try unfold V.val at C393)
  (try unfold V.null at C393)
  (try dsimp only [rV, iV] at C393)
  obtain ⟨l3940, l3941, l3942, l394z⟩ := V386.out.cells
  (try dsimp only [rV, iV, V.null] at l3940 l3941 l3942)
  obtain ⟨l3950, l3951, l3952, l395z⟩ := V387.out.cells
  (try dsimp only [rV, iV, V.null] at l3950 l3951 l3952)
  (try go_wp2_with fail)
  refine C393.out.mono ?_
  rintro e w396 ⟨rfl, hK⟩
  have H397 := hidden (H385.out.calm hK)
  have V398 := hidden (V386.out.calm hK)
  have V399 := hidden (V387.out.calm hK)
  have V400 := hidden (V388.out.calm hK)
  have V401 := hidden (V389.out.calm hK)
  have V402 := hidden (V390.out.calm hK)
  have V403 := hidden (V391.out.calm hK)
  have V404 := hidden (V392.out.calm hK)
  have V405 := hidden (V382.out.calm hK)
  clear l3940 l3941 l3942 l394z l3950 l3951 l3952 l395z C393 hK H385 V386 V387 V388 V389 V390 V391 V392 V382
  have hy1 : instR [⟨⟨3, 0, ⟨#[109]⟩⟩, ⟨2, 7, ⟨#[]⟩⟩, 1, false⟩] [⟨⟨3, 0, ⟨#[109]⟩⟩, ⟨2, 7, ⟨#[]⟩⟩, 1, false⟩, ⟨⟨3, 0, ⟨#[110]⟩⟩, ⟨2, 8, ⟨#[]⟩⟩, 2, false⟩] ⟨3, 0, ⟨#[109]⟩⟩ = (⟨2, 7, ⟨#[]⟩⟩, 0) := by simp [instR, getR, V.null]
  have hy2 : getR [⟨⟨3, 0, ⟨#[109]⟩⟩, ⟨2, 7, ⟨#[]⟩⟩, 1, false⟩, ⟨⟨3, 0, ⟨#[110]⟩⟩, ⟨2, 8, ⟨#[]⟩⟩, 2, false⟩] ⟨3, 0, ⟨#[109]⟩⟩ = (⟨2, 7, ⟨#[]⟩⟩, 0) := by simp [getR, V.null]
  have hy3 : (getR [⟨⟨3, 0, ⟨#[109]⟩⟩, ⟨2, 7, ⟨#[]⟩⟩, 1, false⟩] ⟨3, 0, ⟨#[109]⟩⟩).2 = 0 := by simp [getR]
  have C406 := hidden (get_as (slot_Get_inst H397.out.heap N147.out rfl rfl (by decide) rfl N146.out rfl rfl (by decide) 3 0 ⟨#[109]⟩ (by decide)) hy1)
  (try unfold V.val at C406)
  (try unfold V.null at C406)
  (try dsimp only [rV, iV] at C406)
  obtain ⟨l4070, l4071, l4072, l407z⟩ := V401.out.cells
  (try dsimp only [rV, iV, V.null] at l4070 l4071 l4072)
  obtain ⟨l4080, l4081, l4082, l408z⟩ := V398.out.cells
  (try dsimp only [rV, iV, V.null] at l4080 l4081 l4082)
  (try go_wp2_with fail)
  refine C406.out.mono ?_
  rintro e w409 ⟨rfl, hK⟩
  have H410 := hidden (H397.out.calm hK)
  have V411 := hidden (V398.out.calm hK)
  have V412 := hidden (V399.out.calm hK)
  have V413 := hidden (V400.out.calm hK)
  have V414 := hidden (V401.out.calm hK)
  have V415 := hidden (V402.out.calm hK)
  have V416 := hidden (V403.out.calm hK)
  have V417 := hidden (V404.out.calm hK)
  have V418 := hidden (V405.out.calm hK)
  clear l4070 l4071 l4072 l407z l4080 l4081 l4082 l408z C406 hK H397 V398 V399 V400 V401 V402 V403 V404 V405
  obtain ⟨l4190, l4191, l4192, l419z⟩ := V413.out.cells
  (try dsimp only [rV, iV, V.null] at l4190 l4191 l4192)
  obtain ⟨l4200, l4201, l4202, l420z⟩ := V411.out.cells
  (try dsimp only [rV, iV, V.null] at l4200 l4201 l4202)
  (try go_wp2_with fail)
  clear l4190 l4191 l4192 l419z l4200 l4201 l4202 l420z
  have V424 := hidden (show Vr F143 (w409.alloc (.cells #[.int .i64 2, .int .i64 7, .string ⟨#[]⟩] 26)) w409.heap.size ⟨2, 7, ⟨#[]⟩⟩ from Vr.new ⟨2, 7, ⟨#[]⟩⟩ H410.out.heap.inw)
  have SZ425 := hidden (show (w409.alloc (.cells #[.int .i64 2, .int .i64 7, .string ⟨#[]⟩] 26)).heap.size = w409.heap.size + 1 from by simp)
  have GE426 := hidden (show w.heap.size ≤ w409.heap.size from H410.out.K.size)
  have K421 := (Keeps.refl (fun _ => False) w409).alloc (.cells #[.int .i64 2, .int .i64 7, .string ⟨#[]⟩] 26)
  have H427 := hidden (H410.out.calm K421)
  have V428 := hidden (V411.out.calm K421)
  have V429 := hidden (V412.out.calm K421)
  have V430 := hidden (V413.out.calm K421)
  have V431 := hidden (V414.out.calm K421)
  have V432 := hidden (V415.out.calm K421)
  have V433 := hidden (V416.out.calm K421)
  have V434 := hidden (V417.out.calm K421)
  have V435 := hidden (V418.out.calm K421)
  clear K421 H410 V411 V412 V413 V414 V415 V416 V417 V418
  generalize w409.heap.size = v422 at *
  generalize w409.alloc (.cells #[.int .i64 2, .int .i64 7, .string ⟨#[]⟩] 26) = w423 at *
  have C436 := hidden (get_as (slot_Get_class H427.out.heap N146.out rfl rfl (by decide) 3 0 ⟨#[109]⟩ (by decide)) hy2)
  (try unfold V.val at C436)
  (try unfold V.null at C436)
  (try dsimp only [rV, iV] at C436)
  obtain ⟨l4370, l4371, l4372, l437z⟩ := V430.out.cells
  (try dsimp only [rV, iV, V.null] at l4370 l4371 l4372)
  obtain ⟨l4380, l4381, l4382, l438z⟩ := V428.out.cells
  (try dsimp only [rV, iV, V.null] at l4380 l4381 l4382)
  (try go_wp2_with fail)
  refine C436.out.mono ?_
  rintro e w439 ⟨rfl, hK⟩
  have H440 := hidden (H427.out.calm hK)
  have V441 := hidden (V428.out.calm hK)
  have V442 := hidden (V429.out.calm hK)
  have V443 := hidden (V430.out.calm hK)
  have V444 := hidden (V431.out.calm hK)
  have V445 := hidden (V432.out.calm hK)
  have V446 := hidden (V433.out.calm hK)
  have V447 := hidden (V434.out.calm hK)
  have V448 := hidden (V435.out.calm hK)
  have V449 := hidden (V424.out.calm hK)
  clear l4370 l4371 l4372 l437z l4380 l4381 l4382 l438z C436 hK H427 V428 V429 V430 V431 V432 V433 V434 V435 V424
  obtain ⟨l4500, l4501, l4502, l450z⟩ := V441.out.cells
  (try dsimp only [rV, iV, V.null] at l4500 l4501 l4502)
  (try go_wp2_with fail)
  clear l4500 l4501 l4502 l450z
  have V454 := hidden (show Vr F143 (w439.alloc (.cells #[.int .i64 2, .int .i64 7, .string ⟨#[]⟩] 26)) w439.heap.size ⟨2, 7, ⟨#[]⟩⟩ from Vr.new ⟨2, 7, ⟨#[]⟩⟩ H440.out.heap.inw)
  have SZ455 := hidden (show (w439.alloc (.cells #[.int .i64 2, .int .i64 7, .string ⟨#[]⟩] 26)).heap.size = w439.heap.size + 1 from by simp)
  have GE456 := hidden (show w.heap.size ≤ w439.heap.size from H440.out.K.size)
  have K451 := (Keeps.refl (fun _ => False) w439).alloc (.cells #[.int .i64 2, .int .i64 7, .string ⟨#[]⟩] 26)
  have H457 := hidden (H440.out.calm K451)
  have V458 := hidden (V441.out.calm K451)
  have V459 := hidden (V442.out.calm K451)
  have V460 := hidden (V443.out.calm K451)
  have V461 := hidden (V444.out.calm K451)
  have V462 := hidden (V445.out.calm K451)
  have V463 := hidden (V446.out.calm K451)
  have V464 := hidden (V447.out.calm K451)
  have V465 := hidden (V448.out.calm K451)
  have V466 := hidden (V449.out.calm K451)
  clear K451 H440 V441 V442 V443 V444 V445 V446 V447 V448 V449
  generalize w439.heap.size = v452 at *
  generalize w439.alloc (.cells #[.int .i64 2, .int .i64 7, .string ⟨#[]⟩] 26) = w453 at *
  have M0 : IsMap (κ := ByteArray) (β := Int) (fun s => .string s) (fun s => s.size ≤ maxLen) (fun n => .int .i64 n) (w453.alloc (.map #[] 0)) (v452 + 1) [] := SZ455.out ▸ IsMap.new w453
  obtain ⟨W1, e1, k1, M1⟩ := M0.update2 ks_str Try.underlying95 (x := ⟨#[109]⟩) (by decide) 7
  obtain ⟨W2, e2, k2, M2⟩ := M1.update2 ks_str Try.underlying95 (x := ⟨#[110]⟩) (by decide) 8
  have e3 := M2.look false ks_str Try.underlying95 (zero_int64 W2) (x := ⟨#[109]⟩) (by unfold maxLen; decide)
  rw [show ((mget (mput (mput ([] : List (ByteArray × Int)) ⟨#[109]⟩ 7) ⟨#[110]⟩ 8) ⟨#[109]⟩).map fun n => Value.int .i64 n).getD (.int .i64 0) = .int .i64 7 from by rfl] at e3
  simp only [Bool.false_eq_true, if_false] at e3
  (try dsimp only at e1 e2)
  have KM : Keeps (fun k => w453.heap.size ≤ k) w453 W2 := (((Keeps.refl _ w453).alloc _).trans k1 (fun k _ h => by have := SZ455.out; have h9 : k = v452 + 1 := h; omega)).trans k2 (fun k _ h => by have := SZ455.out; have h9 : k = v452 + 1 := h; omega)
  have H467 := hidden (H457.out.beyond KM)
  have V468 := hidden (V458.out.beyond KM)
  have V469 := hidden (V459.out.beyond KM)
  have V470 := hidden (V460.out.beyond KM)
  have V471 := hidden (V461.out.beyond KM)
  have V472 := hidden (V462.out.beyond KM)
  have V473 := hidden (V463.out.beyond KM)
  have V474 := hidden (V464.out.beyond KM)
  have V475 := hidden (V465.out.beyond KM)
  have V476 := hidden (V466.out.beyond KM)
  have V477 := hidden (V454.out.beyond KM)
  clear KM k1 k2 M0 M1 M2 SZ455 H457 V458 V459 V460 V461 V462 V463 V464 V465 V466 V454
  obtain ⟨l4780, l4781, l4782, l478z⟩ := V468.out.cells
  (try dsimp only [rV, iV, V.null] at l4780 l4781 l4782)
  obtain ⟨l4790, l4791, l4792, l479z⟩ := V471.out.cells
  (try dsimp only [rV, iV, V.null] at l4790 l4791 l4792)
  rw [e1]
  (try go_wp2_with fail)
  (try rw [e2])
  (try go_wp2_with fail)
  (try rw [e3])
  (try go_wp2_with fail)
  clear e1 e2 e3
  clear l4780 l4781 l4782 l478z l4790 l4791 l4792 l479z
  -- behind the map
  have SK480 := hidden (fun (W : World) (hk : Keeps (fun _ => False) W2 W) => show W.cell? ⟨v109, 0, none⟩ = some (.int .i64 4) ∧ W.cell? ⟨v109, 1, none⟩ = some (.int .i64 i) ∧ W.cell? ⟨v109, 2, none⟩ = some (.string ⟨#[]⟩) ∧ W.cell? ⟨w.heap.size, 0, none⟩ = some (.int .i64 3) ∧ W.cell? ⟨w.heap.size, 1, none⟩ = some (.int .i64 0) ∧ W.cell? ⟨w.heap.size, 2, none⟩ = some (.string ⟨#[109]⟩) from (by have c0 := (V471.out.calm hk).cells; have c1 := (V468.out.calm hk).cells; exact ⟨c0.1, c0.2.1, c0.2.2.1, c1.1, c1.2.1, c1.2.2.1⟩))
  refine wp_region_noPanic ?_
  refine wp_region_held_drew (S := (fun W => W.cell? ⟨v109, 0, none⟩ = some (.int .i64 4) ∧ W.cell? ⟨v109, 1, none⟩ = some (.int .i64 i) ∧ W.cell? ⟨v109, 2, none⟩ = some (.string ⟨#[]⟩) ∧ W.cell? ⟨w.heap.size, 0, none⟩ = some (.int .i64 3) ∧ W.cell? ⟨w.heap.size, 1, none⟩ = some (.int .i64 0) ∧ W.cell? ⟨w.heap.size, 2, none⟩ = some (.string ⟨#[109]⟩))) (by kernel_rfl) ?_ (fun hHeld => ?_)
  · ((try dsimp only); (first | done | exact SK480.out _ ((Keeps.refl _ W2).drew)))
  have KD481 := (Keeps.refl (fun _ => False) W2).drew
  have H483 := hidden (H467.out.calm KD481)
  have V484 := hidden (V468.out.calm KD481)
  have V485 := hidden (V469.out.calm KD481)
  have V486 := hidden (V470.out.calm KD481)
  have V487 := hidden (V471.out.calm KD481)
  have V488 := hidden (V472.out.calm KD481)
  have V489 := hidden (V473.out.calm KD481)
  have V490 := hidden (V474.out.calm KD481)
  have V491 := hidden (V475.out.calm KD481)
  have V492 := hidden (V476.out.calm KD481)
  have V493 := hidden (V477.out.calm KD481)
  clear KD481 H467 V468 V469 V470 V471 V472 V473 V474 V475 V476 V477
  generalize W2.drew = w482 at *
  clear SK480
  refine wpAnyH_take (i := 0) (oi := ⟨_, _, _, _, _, _⟩) (v := ?_) rfl (by kernel_rfl) (by kernel_rfl) (by kernel_rfl) (fun _ _ _ h => h) (Or.inl ⟨by rfl, ?_⟩) hHeld ?_
  rotate_left
  · (intro w' hSw; (try dsimp only at hSw); go_simp; (try with_reducible rfl))
  try simp only [Act.put, List.setIfInBounds_toArray, List.set_cons_zero, List.set_cons_succ]
  refine wpAnyH_take (i := 1) (oi := ⟨_, _, _, _, _, _⟩) (v := ?_) rfl (by kernel_rfl) (by kernel_rfl) (by kernel_rfl) (fun _ _ _ h => h) (Or.inl ⟨by rfl, ?_⟩) hHeld ?_
  rotate_left
  · (intro w' hSw; (try dsimp only at hSw); go_simp; (try with_reducible rfl))
  try simp only [Act.put, List.setIfInBounds_toArray, List.set_cons_zero, List.set_cons_succ]
  refine wpAnyH_take (i := 2) (oi := ⟨_, _, _, _, _, _⟩) (v := ?_) rfl (by kernel_rfl) (by kernel_rfl) (by kernel_rfl) (fun _ _ _ h => h) (Or.inl ⟨by rfl, ?_⟩) hHeld ?_
  rotate_left
  · (intro w' hSw; (try dsimp only at hSw); go_simp; (try with_reducible rfl))
  try simp only [Act.put, List.setIfInBounds_toArray, List.set_cons_zero, List.set_cons_succ]
  refine wpAnyH_ready (rs := [3]) (by kernel_rfl) (by simp) ?_
  refine AllReadyH.cons (o := ⟨_, _, _, _, _, _⟩) rfl (fun K hK => ?_) AllReadyH.nil
  go_simp
  have C494 := hidden (value_Int 1 w482)
  (try unfold V.val at C494)
  (try unfold V.null at C494)
  (try dsimp only [rV, iV] at C494)
  (first | (go_at_call 17; refine C494.out.mono ?_))
  rintro e w495 ⟨rfl, hK1⟩
  have H496 := hidden (H483.out.calm hK1)
  have V497 := hidden (V484.out.calm hK1)
  have V498 := hidden (V485.out.calm hK1)
  have V499 := hidden (V486.out.calm hK1)
  have V500 := hidden (V487.out.calm hK1)
  have V501 := hidden (V488.out.calm hK1)
  have V502 := hidden (V489.out.calm hK1)
  have V503 := hidden (V490.out.calm hK1)
  have V504 := hidden (V491.out.calm hK1)
  have V505 := hidden (V492.out.calm hK1)
  have V506 := hidden (V493.out.calm hK1)
  clear C494 hK1 H483 V484 V485 V486 V487 V488 V489 V490 V491 V492 V493
  (try go_wp2_with fail)
  refine hK.out _ _ ?_ (fun hH2 => ?_)
  · ((try dsimp only); (first | done | exact (by have c0 := (V500.out).cells; have c1 := (V497.out).cells; exact ⟨c0.1, c0.2.1, c0.2.2.1, c1.1, c1.2.1, c1.2.2.1⟩)))
  clear hK K hHeld
  have hHeld := hH2
  clear hH2
  try simp only [Act.put, List.setIfInBounds_toArray, List.set_cons_zero, List.set_cons_succ]
  refine wpAnyH_ready (rs := [4]) (by kernel_rfl) (by simp) ?_
  refine AllReadyH.cons (o := ⟨_, _, _, _, _, _⟩) rfl (fun K hK => ?_) AllReadyH.nil
  go_simp
  have C507 := hidden (slot_Set_tabR H496.out.heap N147.out (.inr (.inr rfl)) rfl (by decide) ⟨3, 0, ⟨#[109]⟩⟩ ⟨2, 1, ⟨#[]⟩⟩ (by decide) hy3)
  (try unfold V.val at C507)
  (try unfold V.null at C507)
  (try dsimp only [rV, iV] at C507)
  (first | (go_at_call 41; refine C507.out.mono ?_))
  rintro e w508 ⟨F509, rfl, g1, g2, g3⟩
  have N511 := hidden (show (tabH HH144 i pi (instCl ti [⟨⟨3, 0, ⟨#[109]⟩⟩, ⟨2, 7, ⟨#[]⟩⟩, 1, false⟩] 1 ⟨4, c, ⟨#[]⟩⟩) ti (putL [⟨⟨3, 0, ⟨#[109]⟩⟩, ⟨2, 7, ⟨#[]⟩⟩, 1, false⟩] ⟨3, 0, ⟨#[109]⟩⟩ ⟨2, 1, ⟨#[]⟩⟩, 1))[l]? = some (some (pl, arrayCl lb [⟨2, 5, ⟨#[]⟩⟩, ⟨2, 6, ⟨#[]⟩⟩])) from set_old N145.out E99.out)
  have N512 := hidden (show (tabH HH144 i pi (instCl ti [⟨⟨3, 0, ⟨#[109]⟩⟩, ⟨2, 7, ⟨#[]⟩⟩, 1, false⟩] 1 ⟨4, c, ⟨#[]⟩⟩) ti (putL [⟨⟨3, 0, ⟨#[109]⟩⟩, ⟨2, 7, ⟨#[]⟩⟩, 1, false⟩] ⟨3, 0, ⟨#[109]⟩⟩ ⟨2, 1, ⟨#[]⟩⟩, 1))[c]? = some (some (pc, classCl tc [⟨⟨3, 0, ⟨#[109]⟩⟩, ⟨2, 7, ⟨#[]⟩⟩, 1, false⟩, ⟨⟨3, 0, ⟨#[110]⟩⟩, ⟨2, 8, ⟨#[]⟩⟩, 2, false⟩] 2 V.null)) from set_old N146.out E101.out)
  have N513 := hidden (show (tabH HH144 i pi (instCl ti [⟨⟨3, 0, ⟨#[109]⟩⟩, ⟨2, 7, ⟨#[]⟩⟩, 1, false⟩] 1 ⟨4, c, ⟨#[]⟩⟩) ti (putL [⟨⟨3, 0, ⟨#[109]⟩⟩, ⟨2, 7, ⟨#[]⟩⟩, 1, false⟩] ⟨3, 0, ⟨#[109]⟩⟩ ⟨2, 1, ⟨#[]⟩⟩, 1))[i]? = some (some (pi, { instCl ti [⟨⟨3, 0, ⟨#[109]⟩⟩, ⟨2, 7, ⟨#[]⟩⟩, 1, false⟩] 1 ⟨4, c, ⟨#[]⟩⟩ with tab := some (ti, putL [⟨⟨3, 0, ⟨#[109]⟩⟩, ⟨2, 7, ⟨#[]⟩⟩, 1, false⟩] ⟨3, 0, ⟨#[109]⟩⟩ ⟨2, 1, ⟨#[]⟩⟩, 1) })) from tabH_at N147.out)
  have H514 := hidden (show Hd w hb F509 (tabH HH144 i pi (instCl ti [⟨⟨3, 0, ⟨#[109]⟩⟩, ⟨2, 7, ⟨#[]⟩⟩, 1, false⟩] 1 ⟨4, c, ⟨#[]⟩⟩) ti (putL [⟨⟨3, 0, ⟨#[109]⟩⟩, ⟨2, 7, ⟨#[]⟩⟩, 1, false⟩] ⟨3, 0, ⟨#[109]⟩⟩ ⟨2, 1, ⟨#[]⟩⟩, 1)) st97 w508 from H496.out.turn2 N147.out g1 g2 g3)
  have V515 := hidden (V497.out.step g2 g3)
  have V516 := hidden (V498.out.step g2 g3)
  have V517 := hidden (V499.out.step g2 g3)
  have V518 := hidden (V500.out.step g2 g3)
  have V519 := hidden (V501.out.step g2 g3)
  have V520 := hidden (V502.out.step g2 g3)
  have V521 := hidden (V503.out.step g2 g3)
  have V522 := hidden (V504.out.step g2 g3)
  have V523 := hidden (V505.out.step g2 g3)
  have V524 := hidden (V506.out.step g2 g3)
  clear C507 g1 g2 g3 N145 N146 N147 H496 V497 V498 V499 V500 V501 V502 V503 V504 V505 V506
  generalize tabH HH144 i pi (instCl ti [⟨⟨3, 0, ⟨#[109]⟩⟩, ⟨2, 7, ⟨#[]⟩⟩, 1, false⟩] 1 ⟨4, c, ⟨#[]⟩⟩) ti (putL [⟨⟨3, 0, ⟨#[109]⟩⟩, ⟨2, 7, ⟨#[]⟩⟩, 1, false⟩] ⟨3, 0, ⟨#[109]⟩⟩ ⟨2, 1, ⟨#[]⟩⟩, 1) = HH510 at *
  (try go_wp2_with fail)
  refine hK.out _ _ ?_ (fun hH2 => ?_)
  · ((try dsimp only); (first | done | exact (by have c0 := (V518.out).cells; have c1 := (V515.out).cells; exact ⟨c0.1, c0.2.1, c0.2.2.1, c1.1, c1.2.1, c1.2.2.1⟩)))
  clear hK K hHeld
  have hHeld := hH2
  clear hH2
  try simp only [Act.put, List.setIfInBounds_toArray, List.set_cons_zero, List.set_cons_succ]
  refine wpAnyH_take (i := 5) (oi := ⟨_, _, _, _, _, _⟩) (v := ?_) rfl (by kernel_rfl) (by kernel_rfl) (by kernel_rfl) (fun _ _ _ h => h) (Or.inl ⟨by rfl, ?_⟩) hHeld ?_
  rotate_left
  · (intro w' hSw; (try dsimp only at hSw); go_simp; (try with_reducible rfl))
  try simp only [Act.put, List.setIfInBounds_toArray, List.set_cons_zero, List.set_cons_succ]
  refine wpAnyH_done (by kernel_rfl) ?_ _
  refine NoPanic.normal ?_
  clear hHeld
  obtain ⟨l5250, l5251, l5252, l525z⟩ := V523.out.cells
  (try dsimp only [rV, iV, V.null] at l5250 l5251 l5252)
  obtain ⟨l5260, l5261, l5262, l526z⟩ := V524.out.cells
  (try dsimp only [rV, iV, V.null] at l5260 l5261 l5262)
  (try go_wp2_with fail)
  clear l5250 l5251 l5252 l525z l5260 l5261 l5262 l526z
  have SK527 := hidden (fun (W : World) (hk : Keeps (fun _ => False) w508 W) => show W.cell? ⟨v422, 0, none⟩ = some (.int .i64 2) ∧ W.cell? ⟨v422, 1, none⟩ = some (.int .i64 7) ∧ W.cell? ⟨v422, 2, none⟩ = some (.string ⟨#[]⟩) ∧ W.cell? ⟨v452, 0, none⟩ = some (.int .i64 2) ∧ W.cell? ⟨v452, 1, none⟩ = some (.int .i64 7) ∧ W.cell? ⟨v452, 2, none⟩ = some (.string ⟨#[]⟩) from (by have c0 := (V523.out.calm hk).cells; have c1 := (V524.out.calm hk).cells; exact ⟨c0.1, c0.2.1, c0.2.2.1, c1.1, c1.2.1, c1.2.2.1⟩))
  refine wp_region_noPanic ?_
  refine wp_region_held_drew (S := (fun W => W.cell? ⟨v422, 0, none⟩ = some (.int .i64 2) ∧ W.cell? ⟨v422, 1, none⟩ = some (.int .i64 7) ∧ W.cell? ⟨v422, 2, none⟩ = some (.string ⟨#[]⟩) ∧ W.cell? ⟨v452, 0, none⟩ = some (.int .i64 2) ∧ W.cell? ⟨v452, 1, none⟩ = some (.int .i64 7) ∧ W.cell? ⟨v452, 2, none⟩ = some (.string ⟨#[]⟩))) (by kernel_rfl) ?_ (fun hHeld => ?_)
  · ((try dsimp only); (first | done | exact SK527.out _ ((Keeps.refl _ w508).drew)))
  have KD528 := (Keeps.refl (fun _ => False) w508).drew
  have H530 := hidden (H514.out.calm KD528)
  have V531 := hidden (V515.out.calm KD528)
  have V532 := hidden (V516.out.calm KD528)
  have V533 := hidden (V517.out.calm KD528)
  have V534 := hidden (V518.out.calm KD528)
  have V535 := hidden (V519.out.calm KD528)
  have V536 := hidden (V520.out.calm KD528)
  have V537 := hidden (V521.out.calm KD528)
  have V538 := hidden (V522.out.calm KD528)
  have V539 := hidden (V523.out.calm KD528)
  have V540 := hidden (V524.out.calm KD528)
  clear KD528 H514 V515 V516 V517 V518 V519 V520 V521 V522 V523 V524
  generalize w508.drew = w529 at *
  clear SK527
  refine wpAnyH_take (i := 0) (oi := ⟨_, _, _, _, _, _⟩) (v := ?_) rfl (by kernel_rfl) (by kernel_rfl) (by kernel_rfl) (fun _ _ _ h => h) (Or.inl ⟨by rfl, ?_⟩) hHeld ?_
  rotate_left
  · (intro w' hSw; (try dsimp only at hSw); go_simp; (try with_reducible rfl))
  try simp only [Act.put, List.setIfInBounds_toArray, List.set_cons_zero, List.set_cons_succ]
  refine wpAnyH_take (i := 1) (oi := ⟨_, _, _, _, _, _⟩) (v := ?_) rfl (by kernel_rfl) (by kernel_rfl) (by kernel_rfl) (fun _ _ _ h => h) (Or.inl ⟨by rfl, ?_⟩) hHeld ?_
  rotate_left
  · (intro w' hSw; (try dsimp only at hSw); go_simp; (try with_reducible rfl))
  try simp only [Act.put, List.setIfInBounds_toArray, List.set_cons_zero, List.set_cons_succ]
  refine wpAnyH_take (i := 2) (oi := ⟨_, _, _, _, _, _⟩) (v := ?_) rfl (by kernel_rfl) (by kernel_rfl) (by kernel_rfl) (fun _ _ _ h => h) (Or.inl ⟨by rfl, ?_⟩) hHeld ?_
  rotate_left
  · (intro w' hSw; (try dsimp only at hSw); go_simp; (try with_reducible rfl))
  try simp only [Act.put, List.setIfInBounds_toArray, List.set_cons_zero, List.set_cons_succ]
  refine wpAnyH_take (i := 3) (oi := ⟨_, _, _, _, _, _⟩) (v := ?_) rfl (by kernel_rfl) (by kernel_rfl) (by kernel_rfl) (fun _ _ _ h => h) (Or.inl ⟨by rfl, ?_⟩) hHeld ?_
  rotate_left
  · (intro w' hSw; (try dsimp only at hSw); go_simp; (try with_reducible rfl))
  try simp only [Act.put, List.setIfInBounds_toArray, List.set_cons_zero, List.set_cons_succ]
  refine wpAnyH_take (i := 4) (oi := ⟨_, _, _, _, _, _⟩) (v := ?_) rfl (by kernel_rfl) (by kernel_rfl) (by kernel_rfl) (fun _ _ _ h => h) (Or.inl ⟨by rfl, ?_⟩) hHeld ?_
  rotate_left
  · (intro w' hSw; (try dsimp only at hSw); go_simp; (try with_reducible rfl))
  try simp only [Act.put, List.setIfInBounds_toArray, List.set_cons_zero, List.set_cons_succ]
  refine wpAnyH_take (i := 5) (oi := ⟨_, _, _, _, _, _⟩) (v := ?_) rfl (by kernel_rfl) (by kernel_rfl) (by kernel_rfl) (fun _ _ _ h => h) (Or.inl ⟨by rfl, ?_⟩) hHeld ?_
  rotate_left
  · (intro w' hSw; (try dsimp only at hSw); go_simp; (try with_reducible rfl))
  try simp only [Act.put, List.setIfInBounds_toArray, List.set_cons_zero, List.set_cons_succ]
  refine wpAnyH_take (i := 6) (oi := ⟨_, _, _, _, _, _⟩) (v := ?_) rfl (by kernel_rfl) (by kernel_rfl) (by kernel_rfl) (fun _ _ _ h => h) (Or.inl ⟨by rfl, ?_⟩) hHeld ?_
  rotate_left
  · (intro w' hSw; (try dsimp only at hSw); go_simp; (try with_reducible rfl))
  try simp only [Act.put, List.setIfInBounds_toArray, List.set_cons_zero, List.set_cons_succ]
  refine wpAnyH_take (i := 7) (oi := ⟨_, _, _, _, _, _⟩) (v := ?_) rfl (by kernel_rfl) (by kernel_rfl) (by kernel_rfl) (fun _ _ _ h => h) (Or.inl ⟨by rfl, ?_⟩) hHeld ?_
  rotate_left
  · (intro w' hSw; (try dsimp only at hSw); go_simp; (try with_reducible rfl))
  try simp only [Act.put, List.setIfInBounds_toArray, List.set_cons_zero, List.set_cons_succ]
  refine wpAnyH_take (i := 8) (oi := ⟨_, _, _, _, _, _⟩) (v := ?_) rfl (by kernel_rfl) (by kernel_rfl) (by kernel_rfl) (fun _ _ _ h => h) (Or.inl ⟨by rfl, ?_⟩) hHeld ?_
  rotate_left
  · (intro w' hSw; (try dsimp only at hSw); go_simp; (try with_reducible rfl))
  try simp only [Act.put, List.setIfInBounds_toArray, List.set_cons_zero, List.set_cons_succ]
  refine wpAnyH_ready (rs := [9]) (by kernel_rfl) (by simp) ?_
  refine AllReadyH.cons (o := ⟨_, _, _, _, _, _⟩) rfl (fun K hK => ?_) AllReadyH.nil
  go_simp
  have C541 := hidden (value_Int 7 w529)
  (try unfold V.val at C541)
  (try unfold V.null at C541)
  (try dsimp only [rV, iV] at C541)
  (first | (go_at_call 17; refine C541.out.mono ?_))
  rintro e w542 ⟨rfl, hK1⟩
  have H543 := hidden (H530.out.calm hK1)
  have V544 := hidden (V531.out.calm hK1)
  have V545 := hidden (V532.out.calm hK1)
  have V546 := hidden (V533.out.calm hK1)
  have V547 := hidden (V534.out.calm hK1)
  have V548 := hidden (V535.out.calm hK1)
  have V549 := hidden (V536.out.calm hK1)
  have V550 := hidden (V537.out.calm hK1)
  have V551 := hidden (V538.out.calm hK1)
  have V552 := hidden (V539.out.calm hK1)
  have V553 := hidden (V540.out.calm hK1)
  clear C541 hK1 H530 V531 V532 V533 V534 V535 V536 V537 V538 V539 V540
  (try go_wp2_with fail)
  refine hK.out _ _ ?_ (fun hH2 => ?_)
  · ((try dsimp only); (first | done | exact (by have c0 := (V552.out).cells; have c1 := (V553.out).cells; exact ⟨c0.1, c0.2.1, c0.2.2.1, c1.1, c1.2.1, c1.2.2.1⟩)))
  clear hK K hHeld
  have hHeld := hH2
  clear hH2
  try simp only [Act.put, List.setIfInBounds_toArray, List.set_cons_zero, List.set_cons_succ]
  refine wpAnyH_take (i := 10) (oi := ⟨_, _, _, _, _, _⟩) (v := ?_) rfl (by kernel_rfl) (by kernel_rfl) (by kernel_rfl) (fun _ _ _ h => h) (Or.inl ⟨by rfl, ?_⟩) hHeld ?_
  rotate_left
  · (intro w' hSw; (try dsimp only at hSw); go_simp; (try with_reducible rfl))
  try simp only [Act.put, List.setIfInBounds_toArray, List.set_cons_zero, List.set_cons_succ]
  refine wpAnyH_take (i := 11) (oi := ⟨_, _, _, _, _, _⟩) (v := ?_) rfl (by kernel_rfl) (by kernel_rfl) (by kernel_rfl) (fun _ _ _ h => h) (Or.inl ⟨by rfl, ?_⟩) hHeld ?_
  rotate_left
  · (intro w' hSw; (try dsimp only at hSw); go_simp; (try with_reducible rfl))
  try simp only [Act.put, List.setIfInBounds_toArray, List.set_cons_zero, List.set_cons_succ]
  refine wpAnyH_take (i := 12) (oi := ⟨_, _, _, _, _, _⟩) (v := ?_) rfl (by kernel_rfl) (by kernel_rfl) (by kernel_rfl) (fun _ _ _ h => h) (Or.inl ⟨by rfl, ?_⟩) hHeld ?_
  rotate_left
  · (intro w' hSw; (try dsimp only at hSw); go_simp; (try with_reducible rfl))
  try simp only [Act.put, List.setIfInBounds_toArray, List.set_cons_zero, List.set_cons_succ]
  refine wpAnyH_take (i := 13) (oi := ⟨_, _, _, _, _, _⟩) (v := ?_) rfl (by kernel_rfl) (by kernel_rfl) (by kernel_rfl) (fun _ _ _ h => h) (Or.inl ⟨by rfl, ?_⟩) hHeld ?_
  rotate_left
  · (intro w' hSw; (try dsimp only at hSw); go_simp; (try with_reducible rfl))
  try simp only [Act.put, List.setIfInBounds_toArray, List.set_cons_zero, List.set_cons_succ]
  refine wpAnyH_take (i := 14) (oi := ⟨_, _, _, _, _, _⟩) (v := ?_) rfl (by kernel_rfl) (by kernel_rfl) (by kernel_rfl) (fun _ _ _ h => h) (Or.inl ⟨by rfl, ?_⟩) hHeld ?_
  rotate_left
  · (intro w' hSw; (try dsimp only at hSw); go_simp; (try with_reducible rfl))
  try simp only [Act.put, List.setIfInBounds_toArray, List.set_cons_zero, List.set_cons_succ]
  refine wpAnyH_take (i := 15) (oi := ⟨_, _, _, _, _, _⟩) (v := ?_) rfl (by kernel_rfl) (by kernel_rfl) (by kernel_rfl) (fun _ _ _ h => h) (Or.inl ⟨by rfl, ?_⟩) hHeld ?_
  rotate_left
  · (intro w' hSw; (try dsimp only at hSw); go_simp; (try with_reducible rfl))
  try simp only [Act.put, List.setIfInBounds_toArray, List.set_cons_zero, List.set_cons_succ]
  refine wpAnyH_take (i := 16) (oi := ⟨_, _, _, _, _, _⟩) (v := ?_) rfl (by kernel_rfl) (by kernel_rfl) (by kernel_rfl) (fun _ _ _ h => h) (Or.inl ⟨by rfl, ?_⟩) hHeld ?_
  rotate_left
  · (intro w' hSw; (try dsimp only at hSw); go_simp; (try with_reducible rfl))
  try simp only [Act.put, List.setIfInBounds_toArray, List.set_cons_zero, List.set_cons_succ]
  refine wpAnyH_take (i := 17) (oi := ⟨_, _, _, _, _, _⟩) (v := ?_) rfl (by kernel_rfl) (by kernel_rfl) (by kernel_rfl) (fun _ _ _ h => h) (Or.inl ⟨by rfl, ?_⟩) hHeld ?_
  rotate_left
  · (intro w' hSw; (try dsimp only at hSw); go_simp; (try with_reducible rfl))
  try simp only [Act.put, List.setIfInBounds_toArray, List.set_cons_zero, List.set_cons_succ]
  refine wpAnyH_take (i := 18) (oi := ⟨_, _, _, _, _, _⟩) (v := ?_) rfl (by kernel_rfl) (by kernel_rfl) (by kernel_rfl) (fun _ _ _ h => h) (Or.inl ⟨by rfl, ?_⟩) hHeld ?_
  rotate_left
  · (intro w' hSw; (try dsimp only at hSw); go_simp; (try with_reducible rfl))
  try simp only [Act.put, List.setIfInBounds_toArray, List.set_cons_zero, List.set_cons_succ]
  refine wpAnyH_take (i := 19) (oi := ⟨_, _, _, _, _, _⟩) (v := ?_) rfl (by kernel_rfl) (by kernel_rfl) (by kernel_rfl) (fun _ _ _ h => h) (Or.inl ⟨by rfl, ?_⟩) hHeld ?_
  rotate_left
  · (intro w' hSw; (try dsimp only at hSw); go_simp; (try with_reducible rfl))
  try simp only [Act.put, List.setIfInBounds_toArray, List.set_cons_zero, List.set_cons_succ]
  refine wpAnyH_take (i := 20) (oi := ⟨_, _, _, _, _, _⟩) (v := ?_) rfl (by kernel_rfl) (by kernel_rfl) (by kernel_rfl) (fun _ _ _ h => h) (Or.inl ⟨by rfl, ?_⟩) hHeld ?_
  rotate_left
  · (intro w' hSw; (try dsimp only at hSw); go_simp; (try with_reducible rfl))
  try simp only [Act.put, List.setIfInBounds_toArray, List.set_cons_zero, List.set_cons_succ]
  refine wpAnyH_take (i := 21) (oi := ⟨_, _, _, _, _, _⟩) (v := ?_) rfl (by kernel_rfl) (by kernel_rfl) (by kernel_rfl) (fun _ _ _ h => h) (Or.inl ⟨by rfl, ?_⟩) hHeld ?_
  rotate_left
  · (intro w' hSw; (try dsimp only at hSw); go_simp; (try with_reducible rfl))
  try simp only [Act.put, List.setIfInBounds_toArray, List.set_cons_zero, List.set_cons_succ]
  refine wpAnyH_take (i := 22) (oi := ⟨_, _, _, _, _, _⟩) (v := ?_) rfl (by kernel_rfl) (by kernel_rfl) (by kernel_rfl) (fun _ _ _ h => h) (Or.inl ⟨by rfl, ?_⟩) hHeld ?_
  rotate_left
  · (intro w' hSw; (try dsimp only at hSw); go_simp; (try with_reducible rfl))
  try simp only [Act.put, List.setIfInBounds_toArray, List.set_cons_zero, List.set_cons_succ]
  refine wpAnyH_take (i := 23) (oi := ⟨_, _, _, _, _, _⟩) (v := ?_) rfl (by kernel_rfl) (by kernel_rfl) (by kernel_rfl) (fun _ _ _ h => h) (Or.inl ⟨by rfl, ?_⟩) hHeld ?_
  rotate_left
  · (intro w' hSw; (try dsimp only at hSw); go_simp; (try with_reducible rfl))
  try simp only [Act.put, List.setIfInBounds_toArray, List.set_cons_zero, List.set_cons_succ]
  refine wpAnyH_take (i := 24) (oi := ⟨_, _, _, _, _, _⟩) (v := ?_) rfl (by kernel_rfl) (by kernel_rfl) (by kernel_rfl) (fun _ _ _ h => h) (Or.inl ⟨by rfl, ?_⟩) hHeld ?_
  rotate_left
  · (intro w' hSw; (try dsimp only at hSw); go_simp; (try with_reducible rfl))
  try simp only [Act.put, List.setIfInBounds_toArray, List.set_cons_zero, List.set_cons_succ]
  refine wpAnyH_done (by kernel_rfl) ?_ _
  refine NoPanic.normal ?_
  clear hHeld
  (try go_wp2_with fail)
  exact hR.out _ _ ⟨rfl, H543.out.K.below (Nat.le_refl _) (fun _ h => h)⟩
end Go.Proofs.Ytfdfjogoiagnkaa
namespace Go.Proofs.Ytfdfjogoiagnkaa
open Go.RowKit
set_option maxRecDepth 100000
set_option linter.unusedSimpArgs false
set_option linter.unusedVariables false

set_option maxHeartbeats 32000000 in
theorem slotKinds_E : sk_pre.1 5 := by
  intro w kk kn kt st at' hchk rk rn re hok R hR hst hkz w0 w1 w2 qq_0 w4 hb F0 w8 w12 vb19 w16 w21 l pl lb F22 HH23 st24 v30 GE34 w31 SZ33 w38 w43 c pc tc F44 HH45 st46 E48 v55 GE59 w56 SZ58 w65 w71 w77 w83 F84 HH85 w94 i pi ti F95 HH96 st97 E99 E101 S103 v109 GE113 w110 SZ112 w121 w128 w135 w142 F143 HH144 N145 N146 N147 w154 w161 w168 v175 GE179 w176 SZ178 inb u84 u85 u86 u87 u88 u89 u90 wc u6 u92 u93 u94 u95 u96 u97 u98 u99 u100 u101 u102 u103 u104 u105 u106 u107 u108 u109 w251 w255 w263 w271 C281 C282 wdx278 KDx278 rx2780 wzx278 w284 w295 w304 w313 w322 w331 w342 qq_1 qq_2 qq_3 qq_4 v353 GE357 w354 H358 V359 V360 V361 V362 V363 V364 V355 SZ356
  obtain ⟨rfl, rfl, rfl⟩ := KC.e hok
  have hmm := @run_makeMap Try.prog
  have C365 := hidden (slot_Get_array_key H358.out.heap N145.out rfl 3 0 ⟨#[110]⟩ (by decide))
  (try unfold V.val at C365)
  (try unfold V.null at C365)
  (try dsimp only [rV, iV] at C365)
  obtain ⟨l3660, l3661, l3662, l366z⟩ := V360.out.cells
  (try dsimp only [rV, iV, V.null] at l3660 l3661 l3662)
  obtain ⟨l3670, l3671, l3672, l367z⟩ := V359.out.cells
  (try dsimp only [rV, iV, V.null] at l3670 l3671 l3672)
  (try go_wp2_with fail)
  refine C365.out.mono ?_
  rintro e w368 ⟨rfl, hK⟩
  have H369 := hidden (H358.out.calm hK)
  have V370 := hidden (V359.out.calm hK)
  have V371 := hidden (V360.out.calm hK)
  have V372 := hidden (V361.out.calm hK)
  have V373 := hidden (V362.out.calm hK)
  have V374 := hidden (V363.out.calm hK)
  have V375 := hidden (V364.out.calm hK)
  have V376 := hidden (V355.out.calm hK)
  clear l3660 l3661 l3662 l366z l3670 l3671 l3672 l367z C365 hK H358 V359 V360 V361 V362 V363 V364 V355
  obtain ⟨l3770, l3771, l3772, l377z⟩ := V370.out.cells
  (try dsimp only [rV, iV, V.null] at l3770 l3771 l3772)
  obtain ⟨l3780, l3781, l3782, l378z⟩ := V371.out.cells
  (try dsimp only [rV, iV, V.null] at l3780 l3781 l3782)
  (try go_wp2_with fail)
  clear l3770 l3771 l3772 l377z l3780 l3781 l3782 l378z
  have V382 := hidden (show Vr F143 (w368.alloc (.cells #[.int .i64 0, .int .i64 0, .string ⟨#[]⟩] 26)) w368.heap.size ⟨0, 0, ⟨#[]⟩⟩ from Vr.new ⟨0, 0, ⟨#[]⟩⟩ H369.out.heap.inw)
  have SZ383 := hidden (show (w368.alloc (.cells #[.int .i64 0, .int .i64 0, .string ⟨#[]⟩] 26)).heap.size = w368.heap.size + 1 from by simp)
  have GE384 := hidden (show w.heap.size ≤ w368.heap.size from H369.out.K.size)
  have K379 := (Keeps.refl (fun _ => False) w368).alloc (.cells #[.int .i64 0, .int .i64 0, .string ⟨#[]⟩] 26)
  have H385 := hidden (H369.out.calm K379)
  have V386 := hidden (V370.out.calm K379)
  have V387 := hidden (V371.out.calm K379)
  have V388 := hidden (V372.out.calm K379)
  have V389 := hidden (V373.out.calm K379)
  have V390 := hidden (V374.out.calm K379)
  have V391 := hidden (V375.out.calm K379)
  have V392 := hidden (V376.out.calm K379)
  clear K379 H369 V370 V371 V372 V373 V374 V375 V376
  generalize w368.heap.size = v380 at *
  generalize w368.alloc (.cells #[.int .i64 0, .int .i64 0, .string ⟨#[]⟩] 26) = w381 at *
  have C393 := hidden (slot_Set_array_key H385.out.heap N145.out rfl 3 0 ⟨#[110]⟩ (by decide) 3 0 ⟨#[110]⟩)
  (try unfold V.val at C393)
  (try unfold V.null at C393)
  (try dsimp only [rV, iV] at C393)
  obtain ⟨l3940, l3941, l3942, l394z⟩ := V386.out.cells
  (try dsimp only [rV, iV, V.null] at l3940 l3941 l3942)
  obtain ⟨l3950, l3951, l3952, l395z⟩ := V387.out.cells
  (try dsimp only [rV, iV, V.null] at l3950 l3951 l3952)
  (try go_wp2_with fail)
  refine C393.out.mono ?_
  rintro e w396 ⟨rfl, hK⟩
  have H397 := hidden (H385.out.calm hK)
  have V398 := hidden (V386.out.calm hK)
  have V399 := hidden (V387.out.calm hK)
  have V400 := hidden (V388.out.calm hK)
  have V401 := hidden (V389.out.calm hK)
  have V402 := hidden (V390.out.calm hK)
  have V403 := hidden (V391.out.calm hK)
  have V404 := hidden (V392.out.calm hK)
  have V405 := hidden (V382.out.calm hK)
  clear l3940 l3941 l3942 l394z l3950 l3951 l3952 l395z C393 hK H385 V386 V387 V388 V389 V390 V391 V392 V382
  have hy1 : instR [⟨⟨3, 0, ⟨#[109]⟩⟩, ⟨2, 7, ⟨#[]⟩⟩, 1, false⟩] [⟨⟨3, 0, ⟨#[109]⟩⟩, ⟨2, 7, ⟨#[]⟩⟩, 1, false⟩, ⟨⟨3, 0, ⟨#[110]⟩⟩, ⟨2, 8, ⟨#[]⟩⟩, 2, false⟩] ⟨3, 0, ⟨#[110]⟩⟩ = (⟨2, 8, ⟨#[]⟩⟩, 0) := by simp [instR, getR, V.null]
  have hy2 : getR [⟨⟨3, 0, ⟨#[109]⟩⟩, ⟨2, 7, ⟨#[]⟩⟩, 1, false⟩, ⟨⟨3, 0, ⟨#[110]⟩⟩, ⟨2, 8, ⟨#[]⟩⟩, 2, false⟩] ⟨3, 0, ⟨#[110]⟩⟩ = (⟨2, 8, ⟨#[]⟩⟩, 0) := by simp [getR, V.null]
  have hy3 : (getR [⟨⟨3, 0, ⟨#[109]⟩⟩, ⟨2, 7, ⟨#[]⟩⟩, 1, false⟩] ⟨3, 0, ⟨#[110]⟩⟩).2 = 3 := by simp [getR]
  have C406 := hidden (get_as (slot_Get_inst H397.out.heap N147.out rfl rfl (by decide) rfl N146.out rfl rfl (by decide) 3 0 ⟨#[110]⟩ (by decide)) hy1)
  (try unfold V.val at C406)
  (try unfold V.null at C406)
  (try dsimp only [rV, iV] at C406)
  obtain ⟨l4070, l4071, l4072, l407z⟩ := V401.out.cells
  (try dsimp only [rV, iV, V.null] at l4070 l4071 l4072)
  obtain ⟨l4080, l4081, l4082, l408z⟩ := V398.out.cells
  (try dsimp only [rV, iV, V.null] at l4080 l4081 l4082)
  (try go_wp2_with fail)
  refine C406.out.mono ?_
  rintro e w409 ⟨rfl, hK⟩
  have H410 := hidden (H397.out.calm hK)
  have V411 := hidden (V398.out.calm hK)
  have V412 := hidden (V399.out.calm hK)
  have V413 := hidden (V400.out.calm hK)
  have V414 := hidden (V401.out.calm hK)
  have V415 := hidden (V402.out.calm hK)
  have V416 := hidden (V403.out.calm hK)
  have V417 := hidden (V404.out.calm hK)
  have V418 := hidden (V405.out.calm hK)
  clear l4070 l4071 l4072 l407z l4080 l4081 l4082 l408z C406 hK H397 V398 V399 V400 V401 V402 V403 V404 V405
  obtain ⟨l4190, l4191, l4192, l419z⟩ := V413.out.cells
  (try dsimp only [rV, iV, V.null] at l4190 l4191 l4192)
  obtain ⟨l4200, l4201, l4202, l420z⟩ := V411.out.cells
  (try dsimp only [rV, iV, V.null] at l4200 l4201 l4202)
  (try go_wp2_with fail)
  clear l4190 l4191 l4192 l419z l4200 l4201 l4202 l420z
  have V424 := hidden (show Vr F143 (w409.alloc (.cells #[.int .i64 2, .int .i64 8, .string ⟨#[]⟩] 26)) w409.heap.size ⟨2, 8, ⟨#[]⟩⟩ from Vr.new ⟨2, 8, ⟨#[]⟩⟩ H410.out.heap.inw)
  have SZ425 := hidden (show (w409.alloc (.cells #[.int .i64 2, .int .i64 8, .string ⟨#[]⟩] 26)).heap.size = w409.heap.size + 1 from by simp)
  have GE426 := hidden (show w.heap.size ≤ w409.heap.size from H410.out.K.size)
  have K421 := (Keeps.refl (fun _ => False) w409).alloc (.cells #[.int .i64 2, .int .i64 8, .string ⟨#[]⟩] 26)
  have H427 := hidden (H410.out.calm K421)
  have V428 := hidden (V411.out.calm K421)
  have V429 := hidden (V412.out.calm K421)
  have V430 := hidden (V413.out.calm K421)
  have V431 := hidden (V414.out.calm K421)
  have V432 := hidden (V415.out.calm K421)
  have V433 := hidden (V416.out.calm K421)
  have V434 := hidden (V417.out.calm K421)
  have V435 := hidden (V418.out.calm K421)
  clear K421 H410 V411 V412 V413 V414 V415 V416 V417 V418
  generalize w409.heap.size = v422 at *
  generalize w409.alloc (.cells #[.int .i64 2, .int .i64 8, .string ⟨#[]⟩] 26) = w423 at *
  have C436 := hidden (get_as (slot_Get_class H427.out.heap N146.out rfl rfl (by decide) 3 0 ⟨#[110]⟩ (by decide)) hy2)
  (try unfold V.val at C436)
  (try unfold V.null at C436)
  (try dsimp only [rV, iV] at C436)
  obtain ⟨l4370, l4371, l4372, l437z⟩ := V430.out.cells
  (try dsimp only [rV, iV, V.null] at l4370 l4371 l4372)
  obtain ⟨l4380, l4381, l4382, l438z⟩ := V428.out.cells
  (try dsimp only [rV, iV, V.null] at l4380 l4381 l4382)
  (try go_wp2_with fail)
  refine C436.out.mono ?_
  rintro e w439 ⟨rfl, hK⟩
  have H440 := hidden (H427.out.calm hK)
  have V441 := hidden (V428.out.calm hK)
  have V442 := hidden (V429.out.calm hK)
  have V443 := hidden (V430.out.calm hK)
  have V444 := hidden (V431.out.calm hK)
  have V445 := hidden (V432.out.calm hK)
  have V446 := hidden (V433.out.calm hK)
  have V447 := hidden (V434.out.calm hK)
  have V448 := hidden (V435.out.calm hK)
  have V449 := hidden (V424.out.calm hK)
  clear l4370 l4371 l4372 l437z l4380 l4381 l4382 l438z C436 hK H427 V428 V429 V430 V431 V432 V433 V434 V435 V424
  obtain ⟨l4500, l4501, l4502, l450z⟩ := V441.out.cells
  (try dsimp only [rV, iV, V.null] at l4500 l4501 l4502)
  (try go_wp2_with fail)
  clear l4500 l4501 l4502 l450z
  have V454 := hidden (show Vr F143 (w439.alloc (.cells #[.int .i64 2, .int .i64 8, .string ⟨#[]⟩] 26)) w439.heap.size ⟨2, 8, ⟨#[]⟩⟩ from Vr.new ⟨2, 8, ⟨#[]⟩⟩ H440.out.heap.inw)
  have SZ455 := hidden (show (w439.alloc (.cells #[.int .i64 2, .int .i64 8, .string ⟨#[]⟩] 26)).heap.size = w439.heap.size + 1 from by simp)
  have GE456 := hidden (show w.heap.size ≤ w439.heap.size from H440.out.K.size)
  have K451 := (Keeps.refl (fun _ => False) w439).alloc (.cells #[.int .i64 2, .int .i64 8, .string ⟨#[]⟩] 26)
  have H457 := hidden (H440.out.calm K451)
  have V458 := hidden (V441.out.calm K451)
  have V459 := hidden (V442.out.calm K451)
  have V460 := hidden (V443.out.calm K451)
  have V461 := hidden (V444.out.calm K451)
  have V462 := hidden (V445.out.calm K451)
  have V463 := hidden (V446.out.calm K451)
  have V464 := hidden (V447.out.calm K451)
  have V465 := hidden (V448.out.calm K451)
  have V466 := hidden (V449.out.calm K451)
  clear K451 H440 V441 V442 V443 V444 V445 V446 V447 V448 V449
  generalize w439.heap.size = v452 at *
  generalize w439.alloc (.cells #[.int .i64 2, .int .i64 8, .string ⟨#[]⟩] 26) = w453 at *
  have M0 : IsMap (κ := ByteArray) (β := Int) (fun s => .string s) (fun s => s.size ≤ maxLen) (fun n => .int .i64 n) (w453.alloc (.map #[] 0)) (v452 + 1) [] := SZ455.out ▸ IsMap.new w453
  obtain ⟨W1, e1, k1, M1⟩ := M0.update2 ks_str Try.underlying95 (x := ⟨#[109]⟩) (by decide) 7
  obtain ⟨W2, e2, k2, M2⟩ := M1.update2 ks_str Try.underlying95 (x := ⟨#[110]⟩) (by decide) 8
  have e3 := M2.look false ks_str Try.underlying95 (zero_int64 W2) (x := ⟨#[110]⟩) (by unfold maxLen; decide)
  rw [show ((mget (mput (mput ([] : List (ByteArray × Int)) ⟨#[109]⟩ 7) ⟨#[110]⟩ 8) ⟨#[110]⟩).map fun n => Value.int .i64 n).getD (.int .i64 0) = .int .i64 8 from by rfl] at e3
  simp only [Bool.false_eq_true, if_false] at e3
  (try dsimp only at e1 e2)
  have KM : Keeps (fun k => w453.heap.size ≤ k) w453 W2 := (((Keeps.refl _ w453).alloc _).trans k1 (fun k _ h => by have := SZ455.out; have h9 : k = v452 + 1 := h; omega)).trans k2 (fun k _ h => by have := SZ455.out; have h9 : k = v452 + 1 := h; omega)
  have H467 := hidden (H457.out.beyond KM)
  have V468 := hidden (V458.out.beyond KM)
  have V469 := hidden (V459.out.beyond KM)
  have V470 := hidden (V460.out.beyond KM)
  have V471 := hidden (V461.out.beyond KM)
  have V472 := hidden (V462.out.beyond KM)
  have V473 := hidden (V463.out.beyond KM)
  have V474 := hidden (V464.out.beyond KM)
  have V475 := hidden (V465.out.beyond KM)
  have V476 := hidden (V466.out.beyond KM)
  have V477 := hidden (V454.out.beyond KM)
  clear KM k1 k2 M0 M1 M2 SZ455 H457 V458 V459 V460 V461 V462 V463 V464 V465 V466 V454
  obtain ⟨l4780, l4781, l4782, l478z⟩ := V468.out.cells
  (try dsimp only [rV, iV, V.null] at l4780 l4781 l4782)
  obtain ⟨l4790, l4791, l4792, l479z⟩ := V471.out.cells
  (try dsimp only [rV, iV, V.null] at l4790 l4791 l4792)
  rw [e1]
  (try go_wp2_with fail)
  (try rw [e2])
  (try go_wp2_with fail)
  (try rw [e3])
  (try go_wp2_with fail)
  clear e1 e2 e3
  clear l4780 l4781 l4782 l478z l4790 l4791 l4792 l479z
  -- behind the map
  have SK480 := hidden (fun (W : World) (hk : Keeps (fun _ => False) W2 W) => show W.cell? ⟨v109, 0, none⟩ = some (.int .i64 4) ∧ W.cell? ⟨v109, 1, none⟩ = some (.int .i64 i) ∧ W.cell? ⟨v109, 2, none⟩ = some (.string ⟨#[]⟩) ∧ W.cell? ⟨w.heap.size, 0, none⟩ = some (.int .i64 3) ∧ W.cell? ⟨w.heap.size, 1, none⟩ = some (.int .i64 0) ∧ W.cell? ⟨w.heap.size, 2, none⟩ = some (.string ⟨#[110]⟩) from (by have c0 := (V471.out.calm hk).cells; have c1 := (V468.out.calm hk).cells; exact ⟨c0.1, c0.2.1, c0.2.2.1, c1.1, c1.2.1, c1.2.2.1⟩))
  refine wp_region_noPanic ?_
  refine wp_region_held_drew (S := (fun W => W.cell? ⟨v109, 0, none⟩ = some (.int .i64 4) ∧ W.cell? ⟨v109, 1, none⟩ = some (.int .i64 i) ∧ W.cell? ⟨v109, 2, none⟩ = some (.string ⟨#[]⟩) ∧ W.cell? ⟨w.heap.size, 0, none⟩ = some (.int .i64 3) ∧ W.cell? ⟨w.heap.size, 1, none⟩ = some (.int .i64 0) ∧ W.cell? ⟨w.heap.size, 2, none⟩ = some (.string ⟨#[110]⟩))) (by kernel_rfl) ?_ (fun hHeld => ?_)
  · ((try dsimp only); (first | done | exact SK480.out _ ((Keeps.refl _ W2).drew)))
  have KD481 := (Keeps.refl (fun _ => False) W2).drew
  have H483 := hidden (H467.out.calm KD481)
  have V484 := hidden (V468.out.calm KD481)
  have V485 := hidden (V469.out.calm KD481)
  have V486 := hidden (V470.out.calm KD481)
  have V487 := hidden (V471.out.calm KD481)
  have V488 := hidden (V472.out.calm KD481)
  have V489 := hidden (V473.out.calm KD481)
  have V490 := hidden (V474.out.calm KD481)
  have V491 := hidden (V475.out.calm KD481)
  have V492 := hidden (V476.out.calm KD481)
  have V493 := hidden (V477.out.calm KD481)
  clear KD481 H467 V468 V469 V470 V471 V472 V473 V474 V475 V476 V477
  generalize W2.drew = w482 at *
  clear SK480
  refine wpAnyH_take (i := 0) (oi := ⟨_, _, _, _, _, _⟩) (v := ?_) rfl (by kernel_rfl) (by kernel_rfl) (by kernel_rfl) (fun _ _ _ h => h) (Or.inl ⟨by rfl, ?_⟩) hHeld ?_
  rotate_left
  · (intro w' hSw; (try dsimp only at hSw); go_simp; (try with_reducible rfl))
  try simp only [Act.put, List.setIfInBounds_toArray, List.set_cons_zero, List.set_cons_succ]
  refine wpAnyH_take (i := 1) (oi := ⟨_, _, _, _, _, _⟩) (v := ?_) rfl (by kernel_rfl) (by kernel_rfl) (by kernel_rfl) (fun _ _ _ h => h) (Or.inl ⟨by rfl, ?_⟩) hHeld ?_
  rotate_left
  · (intro w' hSw; (try dsimp only at hSw); go_simp; (try with_reducible rfl))
  try simp only [Act.put, List.setIfInBounds_toArray, List.set_cons_zero, List.set_cons_succ]
  refine wpAnyH_take (i := 2) (oi := ⟨_, _, _, _, _, _⟩) (v := ?_) rfl (by kernel_rfl) (by kernel_rfl) (by kernel_rfl) (fun _ _ _ h => h) (Or.inl ⟨by rfl, ?_⟩) hHeld ?_
  rotate_left
  · (intro w' hSw; (try dsimp only at hSw); go_simp; (try with_reducible rfl))
  try simp only [Act.put, List.setIfInBounds_toArray, List.set_cons_zero, List.set_cons_succ]
  refine wpAnyH_ready (rs := [3]) (by kernel_rfl) (by simp) ?_
  refine AllReadyH.cons (o := ⟨_, _, _, _, _, _⟩) rfl (fun K hK => ?_) AllReadyH.nil
  go_simp
  have C494 := hidden (value_Int 1 w482)
  (try unfold V.val at C494)
  (try unfold V.null at C494)
  (try dsimp only [rV, iV] at C494)
  (first | (go_at_call 17; refine C494.out.mono ?_))
  rintro e w495 ⟨rfl, hK1⟩
  have H496 := hidden (H483.out.calm hK1)
  have V497 := hidden (V484.out.calm hK1)
  have V498 := hidden (V485.out.calm hK1)
  have V499 := hidden (V486.out.calm hK1)
  have V500 := hidden (V487.out.calm hK1)
  have V501 := hidden (V488.out.calm hK1)
  have V502 := hidden (V489.out.calm hK1)
  have V503 := hidden (V490.out.calm hK1)
  have V504 := hidden (V491.out.calm hK1)
  have V505 := hidden (V492.out.calm hK1)
  have V506 := hidden (V493.out.calm hK1)
  clear C494 hK1 H483 V484 V485 V486 V487 V488 V489 V490 V491 V492 V493
  (try go_wp2_with fail)
  refine hK.out _ _ ?_ (fun hH2 => ?_)
  · ((try dsimp only); (first | done | exact (by have c0 := (V500.out).cells; have c1 := (V497.out).cells; exact ⟨c0.1, c0.2.1, c0.2.2.1, c1.1, c1.2.1, c1.2.2.1⟩)))
  clear hK K hHeld
  have hHeld := hH2
  clear hH2
  try simp only [Act.put, List.setIfInBounds_toArray, List.set_cons_zero, List.set_cons_succ]
  refine wpAnyH_ready (rs := [4]) (by kernel_rfl) (by simp) ?_
  refine AllReadyH.cons (o := ⟨_, _, _, _, _, _⟩) rfl (fun K hK => ?_) AllReadyH.nil
  go_simp
  have C507 := hidden (slot_Set_tabR H496.out.heap N147.out (.inr (.inr rfl)) rfl (by decide) ⟨3, 0, ⟨#[110]⟩⟩ ⟨2, 1, ⟨#[]⟩⟩ (by decide) hy3)
  (try unfold V.val at C507)
  (try unfold V.null at C507)
  (try dsimp only [rV, iV] at C507)
  (first | (go_at_call 41; refine C507.out.mono ?_))
  rintro e w508 ⟨F509, rfl, g1, g2, g3⟩
  have N511 := hidden (show (tabH HH144 i pi (instCl ti [⟨⟨3, 0, ⟨#[109]⟩⟩, ⟨2, 7, ⟨#[]⟩⟩, 1, false⟩] 1 ⟨4, c, ⟨#[]⟩⟩) ti (putL [⟨⟨3, 0, ⟨#[109]⟩⟩, ⟨2, 7, ⟨#[]⟩⟩, 1, false⟩] ⟨3, 0, ⟨#[110]⟩⟩ ⟨2, 1, ⟨#[]⟩⟩, 1))[l]? = some (some (pl, arrayCl lb [⟨2, 5, ⟨#[]⟩⟩, ⟨2, 6, ⟨#[]⟩⟩])) from set_old N145.out E99.out)
  have N512 := hidden (show (tabH HH144 i pi (instCl ti [⟨⟨3, 0, ⟨#[109]⟩⟩, ⟨2, 7, ⟨#[]⟩⟩, 1, false⟩] 1 ⟨4, c, ⟨#[]⟩⟩) ti (putL [⟨⟨3, 0, ⟨#[109]⟩⟩, ⟨2, 7, ⟨#[]⟩⟩, 1, false⟩] ⟨3, 0, ⟨#[110]⟩⟩ ⟨2, 1, ⟨#[]⟩⟩, 1))[c]? = some (some (pc, classCl tc [⟨⟨3, 0, ⟨#[109]⟩⟩, ⟨2, 7, ⟨#[]⟩⟩, 1, false⟩, ⟨⟨3, 0, ⟨#[110]⟩⟩, ⟨2, 8, ⟨#[]⟩⟩, 2, false⟩] 2 V.null)) from set_old N146.out E101.out)
  have N513 := hidden (show (tabH HH144 i pi (instCl ti [⟨⟨3, 0, ⟨#[109]⟩⟩, ⟨2, 7, ⟨#[]⟩⟩, 1, false⟩] 1 ⟨4, c, ⟨#[]⟩⟩) ti (putL [⟨⟨3, 0, ⟨#[109]⟩⟩, ⟨2, 7, ⟨#[]⟩⟩, 1, false⟩] ⟨3, 0, ⟨#[110]⟩⟩ ⟨2, 1, ⟨#[]⟩⟩, 1))[i]? = some (some (pi, { instCl ti [⟨⟨3, 0, ⟨#[109]⟩⟩, ⟨2, 7, ⟨#[]⟩⟩, 1, false⟩] 1 ⟨4, c, ⟨#[]⟩⟩ with tab := some (ti, putL [⟨⟨3, 0, ⟨#[109]⟩⟩, ⟨2, 7, ⟨#[]⟩⟩, 1, false⟩] ⟨3, 0, ⟨#[110]⟩⟩ ⟨2, 1, ⟨#[]⟩⟩, 1) })) from tabH_at N147.out)
  have H514 := hidden (show Hd w hb F509 (tabH HH144 i pi (instCl ti [⟨⟨3, 0, ⟨#[109]⟩⟩, ⟨2, 7, ⟨#[]⟩⟩, 1, false⟩] 1 ⟨4, c, ⟨#[]⟩⟩) ti (putL [⟨⟨3, 0, ⟨#[109]⟩⟩, ⟨2, 7, ⟨#[]⟩⟩, 1, false⟩] ⟨3, 0, ⟨#[110]⟩⟩ ⟨2, 1, ⟨#[]⟩⟩, 1)) st97 w508 from H496.out.turn2 N147.out g1 g2 g3)
  have V515 := hidden (V497.out.step g2 g3)
  have V516 := hidden (V498.out.step g2 g3)
  have V517 := hidden (V499.out.step g2 g3)
  have V518 := hidden (V500.out.step g2 g3)
  have V519 := hidden (V501.out.step g2 g3)
  have V520 := hidden (V502.out.step g2 g3)
  have V521 := hidden (V503.out.step g2 g3)
  have V522 := hidden (V504.out.step g2 g3)
  have V523 := hidden (V505.out.step g2 g3)
  have V524 := hidden (V506.out.step g2 g3)
  clear C507 g1 g2 g3 N145 N146 N147 H496 V497 V498 V499 V500 V501 V502 V503 V504 V505 V506
  generalize tabH HH144 i pi (instCl ti [⟨⟨3, 0, ⟨#[109]⟩⟩, ⟨2, 7, ⟨#[]⟩⟩, 1, false⟩] 1 ⟨4, c, ⟨#[]⟩⟩) ti (putL [⟨⟨3, 0, ⟨#[109]⟩⟩, ⟨2, 7, ⟨#[]⟩⟩, 1, false⟩] ⟨3, 0, ⟨#[110]⟩⟩ ⟨2, 1, ⟨#[]⟩⟩, 1) = HH510 at *
  (try go_wp2_with fail)
  refine hK.out _ _ ?_ (fun hH2 => ?_)
  · ((try dsimp only); (first | done | exact (by have c0 := (V518.out).cells; have c1 := (V515.out).cells; exact ⟨c0.1, c0.2.1, c0.2.2.1, c1.1, c1.2.1, c1.2.2.1⟩)))
  clear hK K hHeld
  have hHeld := hH2
  clear hH2
  try simp only [Act.put, List.setIfInBounds_toArray, List.set_cons_zero, List.set_cons_succ]
  refine wpAnyH_take (i := 5) (oi := ⟨_, _, _, _, _, _⟩) (v := ?_) rfl (by kernel_rfl) (by kernel_rfl) (by kernel_rfl) (fun _ _ _ h => h) (Or.inl ⟨by rfl, ?_⟩) hHeld ?_
  rotate_left
  · (intro w' hSw; (try dsimp only at hSw); go_simp; (try with_reducible rfl))
  try simp only [Act.put, List.setIfInBounds_toArray, List.set_cons_zero, List.set_cons_succ]
  refine wpAnyH_done (by kernel_rfl) ?_ _
  refine NoPanic.normal ?_
  clear hHeld
  obtain ⟨l5250, l5251, l5252, l525z⟩ := V523.out.cells
  (try dsimp only [rV, iV, V.null] at l5250 l5251 l5252)
  obtain ⟨l5260, l5261, l5262, l526z⟩ := V524.out.cells
  (try dsimp only [rV, iV, V.null] at l5260 l5261 l5262)
  (try go_wp2_with fail)
  clear l5250 l5251 l5252 l525z l5260 l5261 l5262 l526z
  have SK527 := hidden (fun (W : World) (hk : Keeps (fun _ => False) w508 W) => show W.cell? ⟨v422, 0, none⟩ = some (.int .i64 2) ∧ W.cell? ⟨v422, 1, none⟩ = some (.int .i64 8) ∧ W.cell? ⟨v422, 2, none⟩ = some (.string ⟨#[]⟩) ∧ W.cell? ⟨v452, 0, none⟩ = some (.int .i64 2) ∧ W.cell? ⟨v452, 1, none⟩ = some (.int .i64 8) ∧ W.cell? ⟨v452, 2, none⟩ = some (.string ⟨#[]⟩) from (by have c0 := (V523.out.calm hk).cells; have c1 := (V524.out.calm hk).cells; exact ⟨c0.1, c0.2.1, c0.2.2.1, c1.1, c1.2.1, c1.2.2.1⟩))
  refine wp_region_noPanic ?_
  refine wp_region_held_drew (S := (fun W => W.cell? ⟨v422, 0, none⟩ = some (.int .i64 2) ∧ W.cell? ⟨v422, 1, none⟩ = some (.int .i64 8) ∧ W.cell? ⟨v422, 2, none⟩ = some (.string ⟨#[]⟩) ∧ W.cell? ⟨v452, 0, none⟩ = some (.int .i64 2) ∧ W.cell? ⟨v452, 1, none⟩ = some (.int .i64 8) ∧ W.cell? ⟨v452, 2, none⟩ = some (.string ⟨#[]⟩))) (by kernel_rfl) ?_ (fun hHeld => ?_)
  · ((try dsimp only); (first | done | exact SK527.out _ ((Keeps.refl _ w508).drew)))
  have KD528 := (Keeps.refl (fun _ => False) w508).drew
  have H530 := hidden (H514.out.calm KD528)
  have V531 := hidden (V515.out.calm KD528)
  have V532 := hidden (V516.out.calm KD528)
  have V533 := hidden (V517.out.calm KD528)
  have V534 := hidden (V518.out.calm KD528)
  have V535 := hidden (V519.out.calm KD528)
  have V536 := hidden (V520.out.calm KD528)
  have V537 := hidden (V521.out.calm KD528)
  have V538 := hidden (V522.out.calm KD528)
  have V539 := hidden (V523.out.calm KD528)
  have V540 := hidden (V524.out.calm KD528)
  clear KD528 H514 V515 V516 V517 V518 V519 V520 V521 V522 V523 V524
  generalize w508.drew = w529 at *
  clear SK527
  refine wpAnyH_take (i := 0) (oi := ⟨_, _, _, _, _, _⟩) (v := ?_) rfl (by kernel_rfl) (by kernel_rfl) (by kernel_rfl) (fun _ _ _ h => h) (Or.inl ⟨by rfl, ?_⟩) hHeld ?_
  rotate_left
  · (intro w' hSw; (try dsimp only at hSw); go_simp; (try with_reducible rfl))
  try simp only [Act.put, List.setIfInBounds_toArray, List.set_cons_zero, List.set_cons_succ]
  refine wpAnyH_take (i := 1) (oi := ⟨_, _, _, _, _, _⟩) (v := ?_) rfl (by kernel_rfl) (by kernel_rfl) (by kernel_rfl) (fun _ _ _ h => h) (Or.inl ⟨by rfl, ?_⟩) hHeld ?_
  rotate_left
  · (intro w' hSw; (try dsimp only at hSw); go_simp; (try with_reducible rfl))
  try simp only [Act.put, List.setIfInBounds_toArray, List.set_cons_zero, List.set_cons_succ]
  refine wpAnyH_take (i := 2) (oi := ⟨_, _, _, _, _, _⟩) (v := ?_) rfl (by kernel_rfl) (by kernel_rfl) (by kernel_rfl) (fun _ _ _ h => h) (Or.inl ⟨by rfl, ?_⟩) hHeld ?_
  rotate_left
  · (intro w' hSw; (try dsimp only at hSw); go_simp; (try with_reducible rfl))
  try simp only [Act.put, List.setIfInBounds_toArray, List.set_cons_zero, List.set_cons_succ]
  refine wpAnyH_take (i := 3) (oi := ⟨_, _, _, _, _, _⟩) (v := ?_) rfl (by kernel_rfl) (by kernel_rfl) (by kernel_rfl) (fun _ _ _ h => h) (Or.inl ⟨by rfl, ?_⟩) hHeld ?_
  rotate_left
  · (intro w' hSw; (try dsimp only at hSw); go_simp; (try with_reducible rfl))
  try simp only [Act.put, List.setIfInBounds_toArray, List.set_cons_zero, List.set_cons_succ]
  refine wpAnyH_take (i := 4) (oi := ⟨_, _, _, _, _, _⟩) (v := ?_) rfl (by kernel_rfl) (by kernel_rfl) (by kernel_rfl) (fun _ _ _ h => h) (Or.inl ⟨by rfl, ?_⟩) hHeld ?_
  rotate_left
  · (intro w' hSw; (try dsimp only at hSw); go_simp; (try with_reducible rfl))
  try simp only [Act.put, List.setIfInBounds_toArray, List.set_cons_zero, List.set_cons_succ]
  refine wpAnyH_take (i := 5) (oi := ⟨_, _, _, _, _, _⟩) (v := ?_) rfl (by kernel_rfl) (by kernel_rfl) (by kernel_rfl) (fun _ _ _ h => h) (Or.inl ⟨by rfl, ?_⟩) hHeld ?_
  rotate_left
  · (intro w' hSw; (try dsimp only at hSw); go_simp; (try with_reducible rfl))
  try simp only [Act.put, List.setIfInBounds_toArray, List.set_cons_zero, List.set_cons_succ]
  refine wpAnyH_take (i := 6) (oi := ⟨_, _, _, _, _, _⟩) (v := ?_) rfl (by kernel_rfl) (by kernel_rfl) (by kernel_rfl) (fun _ _ _ h => h) (Or.inl ⟨by rfl, ?_⟩) hHeld ?_
  rotate_left
  · (intro w' hSw; (try dsimp only at hSw); go_simp; (try with_reducible rfl))
  try simp only [Act.put, List.setIfInBounds_toArray, List.set_cons_zero, List.set_cons_succ]
  refine wpAnyH_take (i := 7) (oi := ⟨_, _, _, _, _, _⟩) (v := ?_) rfl (by kernel_rfl) (by kernel_rfl) (by kernel_rfl) (fun _ _ _ h => h) (Or.inl ⟨by rfl, ?_⟩) hHeld ?_
  rotate_left
  · (intro w' hSw; (try dsimp only at hSw); go_simp; (try with_reducible rfl))
  try simp only [Act.put, List.setIfInBounds_toArray, List.set_cons_zero, List.set_cons_succ]
  refine wpAnyH_take (i := 8) (oi := ⟨_, _, _, _, _, _⟩) (v := ?_) rfl (by kernel_rfl) (by kernel_rfl) (by kernel_rfl) (fun _ _ _ h => h) (Or.inl ⟨by rfl, ?_⟩) hHeld ?_
  rotate_left
  · (intro w' hSw; (try dsimp only at hSw); go_simp; (try with_reducible rfl))
  try simp only [Act.put, List.setIfInBounds_toArray, List.set_cons_zero, List.set_cons_succ]
  refine wpAnyH_ready (rs := [9]) (by kernel_rfl) (by simp) ?_
  refine AllReadyH.cons (o := ⟨_, _, _, _, _, _⟩) rfl (fun K hK => ?_) AllReadyH.nil
  go_simp
  have C541 := hidden (value_Int 8 w529)
  (try unfold V.val at C541)
  (try unfold V.null at C541)
  (try dsimp only [rV, iV] at C541)
  (first | (go_at_call 17; refine C541.out.mono ?_))
  rintro e w542 ⟨rfl, hK1⟩
  have H543 := hidden (H530.out.calm hK1)
  have V544 := hidden (V531.out.calm hK1)
  have V545 := hidden (V532.out.calm hK1)
  have V546 := hidden (V533.out.calm hK1)
  have V547 := hidden (V534.out.calm hK1)
  have V548 := hidden (V535.out.calm hK1)
  have V549 := hidden (V536.out.calm hK1)
  have V550 := hidden (V537.out.calm hK1)
  have V551 := hidden (V538.out.calm hK1)
  have V552 := hidden (V539.out.calm hK1)
  have V553 := hidden (V540.out.calm hK1)
  clear C541 hK1 H530 V531 V532 V533 V534 V535 V536 V537 V538 V539 V540
  (try go_wp2_with fail)
  refine hK.out _ _ ?_ (fun hH2 => ?_)
  · ((try dsimp only); (first | done | exact (by have c0 := (V552.out).cells; have c1 := (V553.out).cells; exact ⟨c0.1, c0.2.1, c0.2.2.1, c1.1, c1.2.1, c1.2.2.1⟩)))
  clear hK K hHeld
  have hHeld := hH2
  clear hH2
  try simp only [Act.put, List.setIfInBounds_toArray, List.set_cons_zero, List.set_cons_succ]
  refine wpAnyH_take (i := 10) (oi := ⟨_, _, _, _, _, _⟩) (v := ?_) rfl (by kernel_rfl) (by kernel_rfl) (by kernel_rfl) (fun _ _ _ h => h) (Or.inl ⟨by rfl, ?_⟩) hHeld ?_
  rotate_left
  · (intro w' hSw; (try dsimp only at hSw); go_simp; (try with_reducible rfl))
  try simp only [Act.put, List.setIfInBounds_toArray, List.set_cons_zero, List.set_cons_succ]
  refine wpAnyH_take (i := 11) (oi := ⟨_, _, _, _, _, _⟩) (v := ?_) rfl (by kernel_rfl) (by kernel_rfl) (by kernel_rfl) (fun _ _ _ h => h) (Or.inl ⟨by rfl, ?_⟩) hHeld ?_
  rotate_left
  · (intro w' hSw; (try dsimp only at hSw); go_simp; (try with_reducible rfl))
  try simp only [Act.put, List.setIfInBounds_toArray, List.set_cons_zero, List.set_cons_succ]
  refine wpAnyH_take (i := 12) (oi := ⟨_, _, _, _, _, _⟩) (v := ?_) rfl (by kernel_rfl) (by kernel_rfl) (by kernel_rfl) (fun _ _ _ h => h) (Or.inl ⟨by rfl, ?_⟩) hHeld ?_
  rotate_left
  · (intro w' hSw; (try dsimp only at hSw); go_simp; (try with_reducible rfl))
  try simp only [Act.put, List.setIfInBounds_toArray, List.set_cons_zero, List.set_cons_succ]
  refine wpAnyH_take (i := 13) (oi := ⟨_, _, _, _, _, _⟩) (v := ?_) rfl (by kernel_rfl) (by kernel_rfl) (by kernel_rfl) (fun _ _ _ h => h) (Or.inl ⟨by rfl, ?_⟩) hHeld ?_
  rotate_left
  · (intro w' hSw; (try dsimp only at hSw); go_simp; (try with_reducible rfl))
  try simp only [Act.put, List.setIfInBounds_toArray, List.set_cons_zero, List.set_cons_succ]
  refine wpAnyH_take (i := 14) (oi := ⟨_, _, _, _, _, _⟩) (v := ?_) rfl (by kernel_rfl) (by kernel_rfl) (by kernel_rfl) (fun _ _ _ h => h) (Or.inl ⟨by rfl, ?_⟩) hHeld ?_
  rotate_left
  · (intro w' hSw; (try dsimp only at hSw); go_simp; (try with_reducible rfl))
  try simp only [Act.put, List.setIfInBounds_toArray, List.set_cons_zero, List.set_cons_succ]
  refine wpAnyH_take (i := 15) (oi := ⟨_, _, _, _, _, _⟩) (v := ?_) rfl (by kernel_rfl) (by kernel_rfl) (by kernel_rfl) (fun _ _ _ h => h) (Or.inl ⟨by rfl, ?_⟩) hHeld ?_
  rotate_left
  · (intro w' hSw; (try dsimp only at hSw); go_simp; (try with_reducible rfl))
  try simp only [Act.put, List.setIfInBounds_toArray, List.set_cons_zero, List.set_cons_succ]
  refine wpAnyH_take (i := 16) (oi := ⟨_, _, _, _, _, _⟩) (v := ?_) rfl (by kernel_rfl) (by kernel_rfl) (by kernel_rfl) (fun _ _ _ h => h) (Or.inl ⟨by rfl, ?_⟩) hHeld ?_
  rotate_left
  · (intro w' hSw; (try dsimp only at hSw); go_simp; (try with_reducible rfl))
  try simp only [Act.put, List.setIfInBounds_toArray, List.set_cons_zero, List.set_cons_succ]
  refine wpAnyH_take (i := 17) (oi := ⟨_, _, _, _, _, _⟩) (v := ?_) rfl (by kernel_rfl) (by kernel_rfl) (by kernel_rfl) (fun _ _ _ h => h) (Or.inl ⟨by rfl, ?_⟩) hHeld ?_
  rotate_left
  · (intro w' hSw; (try dsimp only at hSw); go_simp; (try with_reducible rfl))
  try simp only [Act.put, List.setIfInBounds_toArray, List.set_cons_zero, List.set_cons_succ]
  refine wpAnyH_take (i := 18) (oi := ⟨_, _, _, _, _, _⟩) (v := ?_) rfl (by kernel_rfl) (by kernel_rfl) (by kernel_rfl) (fun _ _ _ h => h) (Or.inl ⟨by rfl, ?_⟩) hHeld ?_
  rotate_left
  · (intro w' hSw; (try dsimp only at hSw); go_simp; (try with_reducible rfl))
  try simp only [Act.put, List.setIfInBounds_toArray, List.set_cons_zero, List.set_cons_succ]
  refine wpAnyH_take (i := 19) (oi := ⟨_, _, _, _, _, _⟩) (v := ?_) rfl (by kernel_rfl) (by kernel_rfl) (by kernel_rfl) (fun _ _ _ h => h) (Or.inl ⟨by rfl, ?_⟩) hHeld ?_
  rotate_left
  · (intro w' hSw; (try dsimp only at hSw); go_simp; (try with_reducible rfl))
  try simp only [Act.put, List.setIfInBounds_toArray, List.set_cons_zero, List.set_cons_succ]
  refine wpAnyH_take (i := 20) (oi := ⟨_, _, _, _, _, _⟩) (v := ?_) rfl (by kernel_rfl) (by kernel_rfl) (by kernel_rfl) (fun _ _ _ h => h) (Or.inl ⟨by rfl, ?_⟩) hHeld ?_
  rotate_left
  · (intro w' hSw; (try dsimp only at hSw); go_simp; (try with_reducible rfl))
  try simp only [Act.put, List.setIfInBounds_toArray, List.set_cons_zero, List.set_cons_succ]
  refine wpAnyH_take (i := 21) (oi := ⟨_, _, _, _, _, _⟩) (v := ?_) rfl (by kernel_rfl) (by kernel_rfl) (by kernel_rfl) (fun _ _ _ h => h) (Or.inl ⟨by rfl, ?_⟩) hHeld ?_
  rotate_left
  · (intro w' hSw; (try dsimp only at hSw); go_simp; (try with_reducible rfl))
  try simp only [Act.put, List.setIfInBounds_toArray, List.set_cons_zero, List.set_cons_succ]
  refine wpAnyH_take (i := 22) (oi := ⟨_, _, _, _, _, _⟩) (v := ?_) rfl (by kernel_rfl) (by kernel_rfl) (by kernel_rfl) (fun _ _ _ h => h) (Or.inl ⟨by rfl, ?_⟩) hHeld ?_
  rotate_left
  · (intro w' hSw; (try dsimp only at hSw); go_simp; (try with_reducible rfl))
  try simp only [Act.put, List.setIfInBounds_toArray, List.set_cons_zero, List.set_cons_succ]
  refine wpAnyH_take (i := 23) (oi := ⟨_, _, _, _, _, _⟩) (v := ?_) rfl (by kernel_rfl) (by kernel_rfl) (by kernel_rfl) (fun _ _ _ h => h) (Or.inl ⟨by rfl, ?_⟩) hHeld ?_
  rotate_left
  · (intro w' hSw; (try dsimp only at hSw); go_simp; (try with_reducible rfl))
  try simp only [Act.put, List.setIfInBounds_toArray, List.set_cons_zero, List.set_cons_succ]
  refine wpAnyH_take (i := 24) (oi := ⟨_, _, _, _, _, _⟩) (v := ?_) rfl (by kernel_rfl) (by kernel_rfl) (by kernel_rfl) (fun _ _ _ h => h) (Or.inl ⟨by rfl, ?_⟩) hHeld ?_
  rotate_left
  · (intro w' hSw; (try dsimp only at hSw); go_simp; (try with_reducible rfl))
  try simp only [Act.put, List.setIfInBounds_toArray, List.set_cons_zero, List.set_cons_succ]
  refine wpAnyH_done (by kernel_rfl) ?_ _
  refine NoPanic.normal ?_
  clear hHeld
  (try go_wp2_with fail)
  exact hR.out _ _ ⟨rfl, H543.out.K.below (Nat.le_refl _) (fun _ h => h)⟩
end Go.Proofs.Ytfdfjogoiagnkaa
namespace Go.Proofs.Ytfdfjogoiagnkaa
open Go.RowKit
set_option maxRecDepth 100000
set_option linter.unusedSimpArgs false
set_option linter.unusedVariables false

set_option maxHeartbeats 32000000 in
theorem slotKinds_F : sk_pre.1 6 := by
  intro w kk kn kt st at' hchk rk rn re hok R hR hst hkz w0 w1 w2 qq_0 w4 hb F0 w8 w12 vb19 w16 w21 l pl lb F22 HH23 st24 v30 GE34 w31 SZ33 w38 w43 c pc tc F44 HH45 st46 E48 v55 GE59 w56 SZ58 w65 w71 w77 w83 F84 HH85 w94 i pi ti F95 HH96 st97 E99 E101 S103 v109 GE113 w110 SZ112 w121 w128 w135 w142 F143 HH144 N145 N146 N147 w154 w161 w168 v175 GE179 w176 SZ178 inb u84 u85 u86 u87 u88 u89 u90 wc u6 u92 u93 u94 u95 u96 u97 u98 u99 u100 u101 u102 u103 u104 u105 u106 u107 u108 u109 w251 w255 w263 w271 C281 C282 wdx278 KDx278 rx2780 wzx278 w284 w295 w304 w313 w322 w331 w342 qq_1 qq_2 qq_3 qq_4 v353 GE357 w354 H358 V359 V360 V361 V362 V363 V364 V355 SZ356
  obtain ⟨rfl, rfl, hm, hn⟩ := KC.f hok
  have hmm := @run_makeMap Try.prog
  have C365 := hidden (slot_Get_array_key H358.out.heap N145.out rfl 3 0 kt (by decide))
  (try unfold V.val at C365)
  (try unfold V.null at C365)
  (try dsimp only [rV, iV] at C365)
  obtain ⟨l3660, l3661, l3662, l366z⟩ := V360.out.cells
  (try dsimp only [rV, iV, V.null] at l3660 l3661 l3662)
  obtain ⟨l3670, l3671, l3672, l367z⟩ := V359.out.cells
  (try dsimp only [rV, iV, V.null] at l3670 l3671 l3672)
  (try go_wp2_with fail)
  refine C365.out.mono ?_
  rintro e w368 ⟨rfl, hK⟩
  have H369 := hidden (H358.out.calm hK)
  have V370 := hidden (V359.out.calm hK)
  have V371 := hidden (V360.out.calm hK)
  have V372 := hidden (V361.out.calm hK)
  have V373 := hidden (V362.out.calm hK)
  have V374 := hidden (V363.out.calm hK)
  have V375 := hidden (V364.out.calm hK)
  have V376 := hidden (V355.out.calm hK)
  clear l3660 l3661 l3662 l366z l3670 l3671 l3672 l367z C365 hK H358 V359 V360 V361 V362 V363 V364 V355
  obtain ⟨l3770, l3771, l3772, l377z⟩ := V370.out.cells
  (try dsimp only [rV, iV, V.null] at l3770 l3771 l3772)
  obtain ⟨l3780, l3781, l3782, l378z⟩ := V371.out.cells
  (try dsimp only [rV, iV, V.null] at l3780 l3781 l3782)
  (try go_wp2_with fail)
  clear l3770 l3771 l3772 l377z l3780 l3781 l3782 l378z
  have V382 := hidden (show Vr F143 (w368.alloc (.cells #[.int .i64 0, .int .i64 0, .string ⟨#[]⟩] 26)) w368.heap.size ⟨0, 0, ⟨#[]⟩⟩ from Vr.new ⟨0, 0, ⟨#[]⟩⟩ H369.out.heap.inw)
  have SZ383 := hidden (show (w368.alloc (.cells #[.int .i64 0, .int .i64 0, .string ⟨#[]⟩] 26)).heap.size = w368.heap.size + 1 from by simp)
  have GE384 := hidden (show w.heap.size ≤ w368.heap.size from H369.out.K.size)
  have K379 := (Keeps.refl (fun _ => False) w368).alloc (.cells #[.int .i64 0, .int .i64 0, .string ⟨#[]⟩] 26)
  have H385 := hidden (H369.out.calm K379)
  have V386 := hidden (V370.out.calm K379)
  have V387 := hidden (V371.out.calm K379)
  have V388 := hidden (V372.out.calm K379)
  have V389 := hidden (V373.out.calm K379)
  have V390 := hidden (V374.out.calm K379)
  have V391 := hidden (V375.out.calm K379)
  have V392 := hidden (V376.out.calm K379)
  clear K379 H369 V370 V371 V372 V373 V374 V375 V376
  generalize w368.heap.size = v380 at *
  generalize w368.alloc (.cells #[.int .i64 0, .int .i64 0, .string ⟨#[]⟩] 26) = w381 at *
  have C393 := hidden (slot_Set_array_key H385.out.heap N145.out rfl 3 0 kt (by decide) 3 0 kt)
  (try unfold V.val at C393)
  (try unfold V.null at C393)
  (try dsimp only [rV, iV] at C393)
  obtain ⟨l3940, l3941, l3942, l394z⟩ := V386.out.cells
  (try dsimp only [rV, iV, V.null] at l3940 l3941 l3942)
  obtain ⟨l3950, l3951, l3952, l395z⟩ := V387.out.cells
  (try dsimp only [rV, iV, V.null] at l3950 l3951 l3952)
  (try go_wp2_with fail)
  refine C393.out.mono ?_
  rintro e w396 ⟨rfl, hK⟩
  have H397 := hidden (H385.out.calm hK)
  have V398 := hidden (V386.out.calm hK)
  have V399 := hidden (V387.out.calm hK)
  have V400 := hidden (V388.out.calm hK)
  have V401 := hidden (V389.out.calm hK)
  have V402 := hidden (V390.out.calm hK)
  have V403 := hidden (V391.out.calm hK)
  have V404 := hidden (V392.out.calm hK)
  have V405 := hidden (V382.out.calm hK)
  clear l3940 l3941 l3942 l394z l3950 l3951 l3952 l395z C393 hK H385 V386 V387 V388 V389 V390 V391 V392 V382
  have hy1 : instR [⟨⟨3, 0, ⟨#[109]⟩⟩, ⟨2, 7, ⟨#[]⟩⟩, 1, false⟩] [⟨⟨3, 0, ⟨#[109]⟩⟩, ⟨2, 7, ⟨#[]⟩⟩, 1, false⟩, ⟨⟨3, 0, ⟨#[110]⟩⟩, ⟨2, 8, ⟨#[]⟩⟩, 2, false⟩] ⟨3, 0, kt⟩ = (V.null, 3) := by simp [instR, getR, V.null, hm, hn, Ne.symm hm, Ne.symm hn]
  have hy2 : getR [⟨⟨3, 0, ⟨#[109]⟩⟩, ⟨2, 7, ⟨#[]⟩⟩, 1, false⟩, ⟨⟨3, 0, ⟨#[110]⟩⟩, ⟨2, 8, ⟨#[]⟩⟩, 2, false⟩] ⟨3, 0, kt⟩ = (V.null, 3) := by simp [getR, V.null, hm, hn, Ne.symm hm, Ne.symm hn]
  have hy3 : (getR [⟨⟨3, 0, ⟨#[109]⟩⟩, ⟨2, 7, ⟨#[]⟩⟩, 1, false⟩] ⟨3, 0, kt⟩).2 = 3 := by simp [getR, hm, hn, Ne.symm hm, Ne.symm hn]
  have C406 := hidden (get_as (slot_Get_inst H397.out.heap N147.out rfl rfl (by decide) rfl N146.out rfl rfl (by decide) 3 0 kt (by omega)) hy1)
  (try unfold V.val at C406)
  (try unfold V.null at C406)
  (try dsimp only [rV, iV] at C406)
  obtain ⟨l4070, l4071, l4072, l407z⟩ := V401.out.cells
  (try dsimp only [rV, iV, V.null] at l4070 l4071 l4072)
  obtain ⟨l4080, l4081, l4082, l408z⟩ := V398.out.cells
  (try dsimp only [rV, iV, V.null] at l4080 l4081 l4082)
  (try go_wp2_with fail)
  refine C406.out.mono ?_
  rintro e w409 ⟨rfl, hK⟩
  have H410 := hidden (H397.out.calm hK)
  have V411 := hidden (V398.out.calm hK)
  have V412 := hidden (V399.out.calm hK)
  have V413 := hidden (V400.out.calm hK)
  have V414 := hidden (V401.out.calm hK)
  have V415 := hidden (V402.out.calm hK)
  have V416 := hidden (V403.out.calm hK)
  have V417 := hidden (V404.out.calm hK)
  have V418 := hidden (V405.out.calm hK)
  clear l4070 l4071 l4072 l407z l4080 l4081 l4082 l408z C406 hK H397 V398 V399 V400 V401 V402 V403 V404 V405
  obtain ⟨l4190, l4191, l4192, l419z⟩ := V413.out.cells
  (try dsimp only [rV, iV, V.null] at l4190 l4191 l4192)
  obtain ⟨l4200, l4201, l4202, l420z⟩ := V411.out.cells
  (try dsimp only [rV, iV, V.null] at l4200 l4201 l4202)
  (try go_wp2_with fail)
  clear l4190 l4191 l4192 l419z l4200 l4201 l4202 l420z
  have V424 := hidden (show Vr F143 (w409.alloc (.cells #[.int .i64 0, .int .i64 0, .string ⟨#[]⟩] 26)) w409.heap.size ⟨0, 0, ⟨#[]⟩⟩ from Vr.new ⟨0, 0, ⟨#[]⟩⟩ H410.out.heap.inw)
  have SZ425 := hidden (show (w409.alloc (.cells #[.int .i64 0, .int .i64 0, .string ⟨#[]⟩] 26)).heap.size = w409.heap.size + 1 from by simp)
  have GE426 := hidden (show w.heap.size ≤ w409.heap.size from H410.out.K.size)
  have K421 := (Keeps.refl (fun _ => False) w409).alloc (.cells #[.int .i64 0, .int .i64 0, .string ⟨#[]⟩] 26)
  have H427 := hidden (H410.out.calm K421)
  have V428 := hidden (V411.out.calm K421)
  have V429 := hidden (V412.out.calm K421)
  have V430 := hidden (V413.out.calm K421)
  have V431 := hidden (V414.out.calm K421)
  have V432 := hidden (V415.out.calm K421)
  have V433 := hidden (V416.out.calm K421)
  have V434 := hidden (V417.out.calm K421)
  have V435 := hidden (V418.out.calm K421)
  clear K421 H410 V411 V412 V413 V414 V415 V416 V417 V418
  generalize w409.heap.size = v422 at *
  generalize w409.alloc (.cells #[.int .i64 0, .int .i64 0, .string ⟨#[]⟩] 26) = w423 at *
  have C436 := hidden (get_as (slot_Get_class H427.out.heap N146.out rfl rfl (by decide) 3 0 kt (by omega)) hy2)
  (try unfold V.val at C436)
  (try unfold V.null at C436)
  (try dsimp only [rV, iV] at C436)
  obtain ⟨l4370, l4371, l4372, l437z⟩ := V430.out.cells
  (try dsimp only [rV, iV, V.null] at l4370 l4371 l4372)
  obtain ⟨l4380, l4381, l4382, l438z⟩ := V428.out.cells
  (try dsimp only [rV, iV, V.null] at l4380 l4381 l4382)
  (try go_wp2_with fail)
  refine C436.out.mono ?_
  rintro e w439 ⟨rfl, hK⟩
  have H440 := hidden (H427.out.calm hK)
  have V441 := hidden (V428.out.calm hK)
  have V442 := hidden (V429.out.calm hK)
  have V443 := hidden (V430.out.calm hK)
  have V444 := hidden (V431.out.calm hK)
  have V445 := hidden (V432.out.calm hK)
  have V446 := hidden (V433.out.calm hK)
  have V447 := hidden (V434.out.calm hK)
  have V448 := hidden (V435.out.calm hK)
  have V449 := hidden (V424.out.calm hK)
  clear l4370 l4371 l4372 l437z l4380 l4381 l4382 l438z C436 hK H427 V428 V429 V430 V431 V432 V433 V434 V435 V424
  obtain ⟨l4500, l4501, l4502, l450z⟩ := V441.out.cells
  (try dsimp only [rV, iV, V.null] at l4500 l4501 l4502)
  (try go_wp2_with fail)
  clear l4500 l4501 l4502 l450z
  have V454 := hidden (show Vr F143 (w439.alloc (.cells #[.int .i64 0, .int .i64 0, .string ⟨#[]⟩] 26)) w439.heap.size ⟨0, 0, ⟨#[]⟩⟩ from Vr.new ⟨0, 0, ⟨#[]⟩⟩ H440.out.heap.inw)
  have SZ455 := hidden (show (w439.alloc (.cells #[.int .i64 0, .int .i64 0, .string ⟨#[]⟩] 26)).heap.size = w439.heap.size + 1 from by simp)
  have GE456 := hidden (show w.heap.size ≤ w439.heap.size from H440.out.K.size)
  have K451 := (Keeps.refl (fun _ => False) w439).alloc (.cells #[.int .i64 0, .int .i64 0, .string ⟨#[]⟩] 26)
  have H457 := hidden (H440.out.calm K451)
  have V458 := hidden (V441.out.calm K451)
  have V459 := hidden (V442.out.calm K451)
  have V460 := hidden (V443.out.calm K451)
  have V461 := hidden (V444.out.calm K451)
  have V462 := hidden (V445.out.calm K451)
  have V463 := hidden (V446.out.calm K451)
  have V464 := hidden (V447.out.calm K451)
  have V465 := hidden (V448.out.calm K451)
  have V466 := hidden (V449.out.calm K451)
  clear K451 H440 V441 V442 V443 V444 V445 V446 V447 V448 V449
  generalize w439.heap.size = v452 at *
  generalize w439.alloc (.cells #[.int .i64 0, .int .i64 0, .string ⟨#[]⟩] 26) = w453 at *
  have M0 : IsMap (κ := ByteArray) (β := Int) (fun s => .string s) (fun s => s.size ≤ maxLen) (fun n => .int .i64 n) (w453.alloc (.map #[] 0)) (v452 + 1) [] := SZ455.out ▸ IsMap.new w453
  obtain ⟨W1, e1, k1, M1⟩ := M0.update2 ks_str Try.underlying95 (x := ⟨#[109]⟩) (by decide) 7
  obtain ⟨W2, e2, k2, M2⟩ := M1.update2 ks_str Try.underlying95 (x := ⟨#[110]⟩) (by decide) 8
  have e3 := M2.look false ks_str Try.underlying95 (zero_int64 W2) (x := kt) (by unfold maxLen; omega)
  rw [show ((mget (mput (mput ([] : List (ByteArray × Int)) ⟨#[109]⟩ 7) ⟨#[110]⟩ 8) kt).map fun n => Value.int .i64 n).getD (.int .i64 0) = .int .i64 0 from by rw [mget_put_other hn, mget_put_other hm]; rfl] at e3
  simp only [Bool.false_eq_true, if_false] at e3
  (try dsimp only at e1 e2)
  have KM : Keeps (fun k => w453.heap.size ≤ k) w453 W2 := (((Keeps.refl _ w453).alloc _).trans k1 (fun k _ h => by have := SZ455.out; have h9 : k = v452 + 1 := h; omega)).trans k2 (fun k _ h => by have := SZ455.out; have h9 : k = v452 + 1 := h; omega)
  have H467 := hidden (H457.out.beyond KM)
  have V468 := hidden (V458.out.beyond KM)
  have V469 := hidden (V459.out.beyond KM)
  have V470 := hidden (V460.out.beyond KM)
  have V471 := hidden (V461.out.beyond KM)
  have V472 := hidden (V462.out.beyond KM)
  have V473 := hidden (V463.out.beyond KM)
  have V474 := hidden (V464.out.beyond KM)
  have V475 := hidden (V465.out.beyond KM)
  have V476 := hidden (V466.out.beyond KM)
  have V477 := hidden (V454.out.beyond KM)
  clear KM k1 k2 M0 M1 M2 SZ455 H457 V458 V459 V460 V461 V462 V463 V464 V465 V466 V454
  obtain ⟨l4780, l4781, l4782, l478z⟩ := V468.out.cells
  (try dsimp only [rV, iV, V.null] at l4780 l4781 l4782)
  obtain ⟨l4790, l4791, l4792, l479z⟩ := V471.out.cells
  (try dsimp only [rV, iV, V.null] at l4790 l4791 l4792)
  rw [e1]
  (try go_wp2_with fail)
  (try rw [e2])
  (try go_wp2_with fail)
  (try rw [e3])
  (try go_wp2_with fail)
  clear e1 e2 e3
  clear l4780 l4781 l4782 l478z l4790 l4791 l4792 l479z
  -- behind the map
  have C480 := hidden (slot_Set_tabR H467.out.heap N147.out (.inr (.inr rfl)) rfl (by decide) ⟨3, 0, kt⟩ ⟨3, 0, kt⟩ (by simp only; omega) hy3)
  (try unfold V.val at C480)
  (try unfold V.null at C480)
  (try dsimp only [rV, iV] at C480)
  obtain ⟨l4810, l4811, l4812, l481z⟩ := V471.out.cells
  (try dsimp only [rV, iV, V.null] at l4810 l4811 l4812)
  obtain ⟨l4820, l4821, l4822, l482z⟩ := V468.out.cells
  (try dsimp only [rV, iV, V.null] at l4820 l4821 l4822)
  (try go_wp2_with fail)
  refine C480.out.mono ?_
  rintro e w483 ⟨F484, rfl, g1, g2, g3⟩
  have N486 := hidden (show (tabH HH144 i pi (instCl ti [⟨⟨3, 0, ⟨#[109]⟩⟩, ⟨2, 7, ⟨#[]⟩⟩, 1, false⟩] 1 ⟨4, c, ⟨#[]⟩⟩) ti (putL [⟨⟨3, 0, ⟨#[109]⟩⟩, ⟨2, 7, ⟨#[]⟩⟩, 1, false⟩] ⟨3, 0, kt⟩ ⟨3, 0, kt⟩, 1))[l]? = some (some (pl, arrayCl lb [⟨2, 5, ⟨#[]⟩⟩, ⟨2, 6, ⟨#[]⟩⟩])) from set_old N145.out E99.out)
  have N487 := hidden (show (tabH HH144 i pi (instCl ti [⟨⟨3, 0, ⟨#[109]⟩⟩, ⟨2, 7, ⟨#[]⟩⟩, 1, false⟩] 1 ⟨4, c, ⟨#[]⟩⟩) ti (putL [⟨⟨3, 0, ⟨#[109]⟩⟩, ⟨2, 7, ⟨#[]⟩⟩, 1, false⟩] ⟨3, 0, kt⟩ ⟨3, 0, kt⟩, 1))[c]? = some (some (pc, classCl tc [⟨⟨3, 0, ⟨#[109]⟩⟩, ⟨2, 7, ⟨#[]⟩⟩, 1, false⟩, ⟨⟨3, 0, ⟨#[110]⟩⟩, ⟨2, 8, ⟨#[]⟩⟩, 2, false⟩] 2 V.null)) from set_old N146.out E101.out)
  have N488 := hidden (show (tabH HH144 i pi (instCl ti [⟨⟨3, 0, ⟨#[109]⟩⟩, ⟨2, 7, ⟨#[]⟩⟩, 1, false⟩] 1 ⟨4, c, ⟨#[]⟩⟩) ti (putL [⟨⟨3, 0, ⟨#[109]⟩⟩, ⟨2, 7, ⟨#[]⟩⟩, 1, false⟩] ⟨3, 0, kt⟩ ⟨3, 0, kt⟩, 1))[i]? = some (some (pi, { instCl ti [⟨⟨3, 0, ⟨#[109]⟩⟩, ⟨2, 7, ⟨#[]⟩⟩, 1, false⟩] 1 ⟨4, c, ⟨#[]⟩⟩ with tab := some (ti, putL [⟨⟨3, 0, ⟨#[109]⟩⟩, ⟨2, 7, ⟨#[]⟩⟩, 1, false⟩] ⟨3, 0, kt⟩ ⟨3, 0, kt⟩, 1) })) from tabH_at N147.out)
  have H489 := hidden (show Hd w hb F484 (tabH HH144 i pi (instCl ti [⟨⟨3, 0, ⟨#[109]⟩⟩, ⟨2, 7, ⟨#[]⟩⟩, 1, false⟩] 1 ⟨4, c, ⟨#[]⟩⟩) ti (putL [⟨⟨3, 0, ⟨#[109]⟩⟩, ⟨2, 7, ⟨#[]⟩⟩, 1, false⟩] ⟨3, 0, kt⟩ ⟨3, 0, kt⟩, 1)) st97 w483 from H467.out.turn2 N147.out g1 g2 g3)
  have V490 := hidden (V468.out.step g2 g3)
  have V491 := hidden (V469.out.step g2 g3)
  have V492 := hidden (V470.out.step g2 g3)
  have V493 := hidden (V471.out.step g2 g3)
  have V494 := hidden (V472.out.step g2 g3)
  have V495 := hidden (V473.out.step g2 g3)
  have V496 := hidden (V474.out.step g2 g3)
  have V497 := hidden (V475.out.step g2 g3)
  have V498 := hidden (V476.out.step g2 g3)
  have V499 := hidden (V477.out.step g2 g3)
  clear l4810 l4811 l4812 l481z l4820 l4821 l4822 l482z C480 g1 g2 g3 N145 N146 N147 H467 V468 V469 V470 V471 V472 V473 V474 V475 V476 V477
  generalize tabH HH144 i pi (instCl ti [⟨⟨3, 0, ⟨#[109]⟩⟩, ⟨2, 7, ⟨#[]⟩⟩, 1, false⟩] 1 ⟨4, c, ⟨#[]⟩⟩) ti (putL [⟨⟨3, 0, ⟨#[109]⟩⟩, ⟨2, 7, ⟨#[]⟩⟩, 1, false⟩] ⟨3, 0, kt⟩ ⟨3, 0, kt⟩, 1) = HH485 at *
  (try go_wp2_with fail)
  exact hR.out _ _ ⟨rfl, H489.out.K.below (Nat.le_refl _) (fun _ h => h)⟩
end Go.Proofs.Ytfdfjogoiagnkaa
