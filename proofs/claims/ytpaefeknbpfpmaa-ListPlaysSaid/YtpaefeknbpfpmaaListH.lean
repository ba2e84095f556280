/- Layer 4: a value taken out of a list: contracts. -/
import Derived.Test.YtpaefeknbpfpmaaListG
import Derived.Test.YtpaefeknbpfpmaaListE
namespace Go.Proofs.Ytpaefeknbpfpmaa
open Go.RowKit

theorem laid_take {L : List Value} {o : Nat} {cs : List Value} (h : o ≤ L.length) : (laid L o cs).toList.take o = L.take o := by
  show (List.toArray _).toList.take o = _
  rw [List.toList_toArray, List.append_assoc, List.take_append_of_le_length (by rw [List.length_take]; omega), List.take_take, Nat.min_self]
theorem take_at {L : List Value} {xs : List V} {i : Nat} (h : L.take (xs.length * 3) = flat xs) (hi : i ≤ xs.length) : L.take (i * 3) = flat (xs.take i) := by
  rw [← flat_take, ← h, List.take_take]
  congr 1
  exact (Nat.min_eq_left (by omega)).symm
set_option maxRecDepth 100000 in
set_option maxHeartbeats 1000000 in
theorem slices_Delete (w : World) (F : Nat → Prop) (A : Option Addr) (c : Nat) (xs : List V) (i : Nat) (h : Row w F 30 3 (.slice A xs.length c) xs.length (flat xs)) (hl : xs.length ≤ 4194304) (hi : i < xs.length) :
    Calls Try.prog 86 #[.slice A xs.length c, .int .i64 i, .int .i64 ((i : Int) + 1)] w fun e w' => e = .returned (.slice A (xs.length - 1) c) ∧ Row w' F 30 3 (.slice A (xs.length - 1) c) (xs.length - 1) (flat (xs.eraseIdx i)) ∧ Keeps (fun k => (Value.slice A xs.length c).ownBlock = some k) w w' := by
  obtain ⟨g, cur, rfl, hFg, hg, hcap, hcm, hcs, htk⟩ := h.blk (by omega)
  have HV := hidden (Vals.own h.1)
  have HG := hidden hg
  have HTK := hidden htk
  have e2 : (flat (xs.drop (i + 1))).length = (xs.length - (i + 1)) * 3 := by rw [flat_length, List.length_drop]
  have HE2 := hidden e2
  have hcs' : cur.toList.length = c * 3 := by simpa using hcs
  have hw1 : IntKind.i64.wrap ((i : Int) + 1) = (i : Int) + 1 := by rw [IntKind.wrap_i64]; omega
  have hw2 : (0 : Int) ≤ (i : Int) + 1 := by omega
  have hw3 : ((i : Int) + 1).toNat = i + 1 := by omega
  have hw4 : (i : Int) ≤ (xs.length : Int) := by omega
  have hw5 : (i : Int) + 1 ≤ (xs.length : Int) := by omega
  have hw6 : ¬ (i : Int) = (i : Int) + 1 := by omega
  clear hg htk e2 h
  refine post_gen fun R hR => ?_
  go_enter Try.func86, Try.ntmps86
  go_wp2
  have hm : i + (xs.length - (i + 1)) = xs.length - 1 := by omega
  have hs2 : ∃ (q s9 c9 : Nat), (c = i + 1 → q = 0 ∧ s9 = 0 ∧ c9 = 0) ∧ (¬ c = i + 1 → q = (i + 1) * 3 ∧ s9 = xs.length - (i + 1) ∧ c9 = c - (i + 1)) ∧ s9 = xs.length - (i + 1) ∧ Src Try.prog 3 60 (.slice (some ⟨g, q, none⟩) s9 c9) s9 (flat (xs.drop (i + 1))) w.drew := by
    by_cases hz : c = i + 1
    · refine ⟨0, 0, 0, fun _ => ⟨rfl, rfl, rfl⟩, fun h => absurd hz h, by omega, ?_⟩
      rw [List.drop_eq_nil_of_le (by omega)]
      exact Src.ofSlice w.drew Try.underlying60 _ _ _ _ rfl (fun j u hj => by simp [flat] at hj) (fun u hu => by simp [flat] at hu)
    · refine ⟨(i + 1) * 3, xs.length - (i + 1), c - (i + 1), fun h => absurd h hz, fun _ => ⟨rfl, rfl, rfl⟩, rfl, ?_⟩
      exact Src.ofSlice w.drew Try.underlying60 _ _ _ _ HE2.out (laid_at (w := w.drew) HG.out HTK.out (by omega)) (flat_one _)
  obtain ⟨q, s9, c9, hq1, hq2, hq3, hsrc⟩ := hs2
  have HSrc := hidden hsrc
  clear hsrc
  have HFit := hidden (show i * 3 + (flat (xs.drop (i + 1))).length ≤ cur.size by rw [HE2.out, hcs]; omega)
  by_cases hz : c = i + 1
  · obtain ⟨rfl, rfl, rfl⟩ := hq1 hz
    have hn1 : xs.length = i + 1 := by omega
    have hw7 : (i : Int) ≤ (i : Int) + 1 := by omega
    clear hq1 hq2 hq3
    have HF2 := hidden (show i * 3 + 1 * 3 ≤ cur.size by rw [hcs, hz]; omega)
    go_region
    go_wp2_with (refine clear_list rfl _ _ _ rfl _ 3 32 Try.underlying60 info_val rfl (by decide) (g := g) (go' := i * 3) (n := 1) (c := 1) rfl (i * 3) 1 rfl rfl (by omega) cur _ HG.out HF2.out ?_; intro w2 hg2 hk2; have HG2 := hidden hg2; have HK2 := hidden hk2; clear hg2 hk2)
    have e1 : xs.length - 1 = i := by omega
    have hL2 : (laid cur.toList (i * 3) (Builtin.zeroCells (Value.agg #[.int .i64 0, .int .i64 0, .string ⟨#[]⟩]).cells 1).toList).size = c * 3 := by rw [laid_size (by rw [zeros_null]; have := HF2.out; simpa using this), hcs']
    refine hR.out _ _ ⟨by rw [e1, hz]; rfl, ?_, (HK2.out.undrew).mono (fun k _ e => by simp [Value.ownBlock, e])⟩
    rw [e1]
    refine Row.ofBlk HG2.out hFg (by omega) hcm hL2 ?_
    rw [laid_take (by rw [hcs', hz]; omega), take_at HTK.out (by omega), List.eraseIdx_eq_take_drop_succ, List.drop_eq_nil_of_le (by omega), List.append_nil]
  · obtain ⟨rfl, rfl, rfl⟩ := hq2 hz
    clear hq1 hq2 hq3
    have HLd := hidden (laid_size (L := cur.toList) (o := i * 3) (cs := flat (xs.drop (i + 1))) (by have := HFit.out; simpa using this))
    have HF2 := hidden (show (xs.length - 1) * 3 + 1 * 3 ≤ (laid cur.toList (i * 3) (flat (xs.drop (i + 1)))).size by rw [HLd.out, hcs']; omega)
    have hw7 : (i : Int) ≤ (c : Int) := by omega
    go_region_law (refine room_step rfl _ _ _ _ _ _ 3 32 rfl Try.underlying60 info_val (g := g) (i' := i) (c := c) (by simp [Act.eval, Act.put]) (.slice (some ⟨g, (i + 1) * 3, none⟩) (xs.length - (i + 1)) (c - (i + 1))) (by simp [Act.eval, Act.put]) i (xs.length - (i + 1)) rfl cur HG.out _ HSrc.out (by omega) HFit.out ?_; intro w1 hg1 hk1; have HG1 := hidden hg1; have HK1 := hidden hk1; clear hg1 hk1)
    clear hm
    have e9 : xs.length - (xs.length - 1) = 1 := by omega
    have e8 : ((xs.length : Int) - 1).toNat = xs.length - 1 := by omega
    have e7 : (0 : Int) ≤ (xs.length : Int) - 1 := by omega
    have e6 : ((xs.length - 1 : Nat) : Int) = (xs.length : Int) - 1 := by omega
    have e5 : (xs.length : Int) - 1 ≤ (xs.length : Int) := by omega
    have e4 : (xs.length : Int) - 1 ≤ (c : Int) := by omega
    have hzz : c - (xs.length - 1) ≠ 0 := by omega
    have hzz1 : ¬ c = xs.length - 1 := by omega
    go_wp2_with (refine clear_list rfl _ _ _ rfl _ 3 32 Try.underlying60 info_val rfl (by decide) (g := g) (go' := (xs.length - 1) * 3) (n := 1) (c := c - (xs.length - 1)) rfl ((xs.length - 1) * 3) 1 rfl rfl (by omega) _ _ HG1.out HF2.out ?_; intro w2 hg2 hk2; have HG2 := hidden hg2; have HK2 := hidden hk2; clear hg2 hk2)
    have hD := HE2.out
    have hsz1 : (laid cur.toList (i * 3) (flat (xs.drop (i + 1)))).toList.length = c * 3 := by rw [Array.length_toList, HLd.out, hcs']
    have hL2 : (laid (laid cur.toList (i * 3) (flat (xs.drop (i + 1)))).toList ((xs.length - 1) * 3) (Builtin.zeroCells (Value.agg #[.int .i64 0, .int .i64 0, .string ⟨#[]⟩]).cells 1).toList).size = c * 3 := by rw [laid_size (by rw [zeros_null, hsz1]; omega), hsz1]
    refine hR.out _ _ ⟨rfl, ?_, ((HK1.out.undrew).trans HK2.out (fun _ _ h => h)).mono (fun k _ e => by simp [Value.ownBlock, e])⟩
    refine Row.ofBlk HG2.out hFg (by omega) hcm hL2 ?_
    rw [laid_take (by rw [hsz1]; omega)]
    show (List.toArray (cur.toList.take (i * 3) ++ flat (xs.drop (i + 1)) ++ cur.toList.drop (i * 3 + (flat (xs.drop (i + 1))).length))).toList.take _ = _
    have hl2 : (flat (xs.take i ++ xs.drop (i + 1))).length = (xs.length - 1) * 3 := by rw [flat_length]; simp; omega
    rw [List.toList_toArray, take_at HTK.out (by omega), ← flat_append, List.eraseIdx_eq_take_drop_succ, ← hl2, List.take_left]

theorem list_Remove_none (w : World) (F : Nat → Prop) (b : Nat) (xs : List V) (at' : Int) (h : IsList w F b xs) (hat : at' < 0 ∨ (xs.length : Int) ≤ at') :
    Calls Try.prog 44 #[.pointer (some ⟨b, 0, none⟩), .int .i64 at'] w fun e w' => e = .returned (.tuple #[V.val V.null, .int .i64 1]) ∧ Keeps (fun _ => False) w w' := by
  have key := hidden (fun W (h : IsList W F b xs) => list_place W F b xs at' h)
  have H := hidden h
  rw [if_pos hat] at key
  clear h hat
  refine post_gen fun R hR => ?_
  go_enter Try.func44, Try.ntmps44
  go_wp2_with fail
  refine (key.out _ (H.out.none ((Keeps.refl _ _).alloc _))).mono ?_
  rintro e _ ⟨rfl, rfl⟩
  go_wp2_with fail
  refine (value_Null _).mono ?_
  rintro e w1 ⟨rfl, hK⟩
  have HV := hidden ((IsVar.new w V.null).keeps hK (fun h => h))
  obtain ⟨c0, c1, c2, f0, f1, f2⟩ := HV.out.cells
  simp only [V.null] at c0 c1 c2
  unfold V.val V.null
  go_wp2
  obtain ⟨d0, d1, d2, _⟩ := (HV.out.set V.null).cells
  simp only [V.null] at d0 d1 d2
  exact bodyPost_ret (v := .tuple #[V.val V.null, .int .i64 1]) (by simp [results, Try.results44, go_sem, d0, d1, d2, V.val, V.null]) rfl (hR.out _ _ ⟨rfl, (((Keeps.refl _ w).alloc _).trans hK (fun _ _ h => h)).var (fun h => by omega) _ _ _⟩)

theorem list_Remove_some (w : World) (F : Nat → Prop) (b : Nat) (xs : List V) (i : Nat) (x : V) (h : IsList w F b xs) (hx : xs[i]? = some x) (hl : xs.length ≤ 1048576) :
    Calls Try.prog 44 #[.pointer (some ⟨b, 0, none⟩), .int .i64 i] w fun e w' => e = .returned (.tuple #[V.val x, .int .i64 0]) ∧ IsList w' F b (xs.eraseIdx i) ∧ Keeps F w w' := by
  have hi := (List.getElem?_eq_some_iff.1 hx).1
  have key := hidden (fun W (h : IsList W F b xs) => list_place W F b xs i h)
  rw [if_neg (by omega)] at key
  have H := hidden h
  obtain ⟨v, hL⟩ := h
  obtain ⟨A, c, rfl⟩ := hL.row.form
  have HL := hidden hL
  have hb := blk_lt hL.blk
  obtain ⟨rb, ro, rfl, h0, h1, h2⟩ := Vals.own hL.row.1 i x hx
  have hrb := World.block_lt_of_cell? w _ h0
  have l0 := blk_cell hL.blk 0
  have l0f := blk_frozen hL.blk 0
  simp only [List.getElem?_toArray, List.getElem?_cons_zero] at l0
  have hneg : ¬ ((i : Int) < 0) := by omega
  have hw1 : IntKind.i64.wrap ((i : Int) + 1) = (i : Int) + 1 := by rw [IntKind.wrap_i64]; omega
  have hout : ¬ F w.heap.size := fun hF => by have := hL.inw _ hF; omega
  have hout1 : ¬ F (w.heap.size + 1) := fun hF => by have := hL.inw _ hF; omega
  have hown : ∀ k, (Value.slice (some ⟨rb, ro, none⟩) xs.length c).ownBlock = some k → F k := hL.row.2
  have k2 := hidden (fun (W : World) (hk : Keeps (fun _ => False) w W) => slices_Delete W F (some ⟨rb, ro, none⟩) c xs i (hL.row.keeps hk (Apart.no _)) (by omega) hi)
  have HOW := hidden hown
  clear hx hL hown
  obtain ⟨xk, xn, xt⟩ := x
  simp only at h0 h1 h2
  refine post_gen fun R hR => ?_
  go_enter Try.func44, Try.ntmps44
  go_wp2_with fail
  refine (key.out _ (H.out.none ((Keeps.refl _ _).alloc _))).mono ?_
  rintro e _ ⟨rfl, rfl⟩
  clear key
  go_wp2_with fail
  refine (k2.out _ (((Keeps.refl _ w).alloc _).alloc _)).mono ?_
  rintro e w1 ⟨rfl, hRow, hK⟩
  have hKF : Keeps F w w1 := ((((Keeps.refl F w).alloc _).alloc _).trans (hK.mono (fun k _ e => HOW.out k e)) (fun _ _ h => h))
  have HKF := hidden hKF
  have HRow := hidden hRow
  have hd := HL.out.cellKept (((Keeps.refl _ w).alloc _).alloc _) hK
  have HD := hidden hd
  have e0 := blk_cell hd 0
  have e0f := blk_frozen hd 0
  simp only [List.getElem?_toArray, List.getElem?_cons_zero] at e0
  have hvr : IsVar w1 w.heap.size V.null := hK.heap (blk_alloc (blk_new w _) _) (fun e => hout (HOW.out _ e))
  have hvx : IsVar w1 (w.heap.size + 1) ⟨xk, xn, xt⟩ := hK.heap (new2 w _ _) (fun e => hout1 (HOW.out _ e))
  have HVR := hidden hvr
  obtain ⟨a0, a1, a2, a3, a4, a5⟩ := hvr.cells
  obtain ⟨b0, b1, b2, -⟩ := hvx.cells
  simp only [V.null] at a0 a1 a2 b0 b1 b2
  have hz := blk_lt hvx
  have hy := blk_lt hvr
  have hbz := blk_lt hd
  clear hKF hRow hd hvr hvx hK k2
  go_wp2_with fail
  have hbR : w.heap.size ≠ b := by omega
  have hlen : (xs.eraseIdx i).length = xs.length - 1 := List.length_eraseIdx_of_lt hi
  have hvs : IsVar (w1.setCell ⟨b, 0, none⟩ (.slice (some ⟨rb, ro, none⟩) (xs.length - 1) c)) w.heap.size V.null := blk_far HVR.out (p := ⟨b, 0, none⟩) hbR _
  obtain ⟨d0, d1, d2, _⟩ := (hvs.set ⟨xk, xn, xt⟩).cells
  simp only at d0 d1 d2
  have hl0 : IsList (w1.setCell ⟨b, 0, none⟩ (.slice (some ⟨rb, ro, none⟩) (xs.length - 1) c)) F b (xs.eraseIdx i) := by
    refine ⟨_, blk_set HD.out 0 _, HL.out.here, ?_, fun k hk => by have := HL.out.inw k hk; have := HKF.out.size; simp [World.setCell]; omega⟩
    rw [hlen]
    exact HRow.out.set (p := ⟨b, 0, none⟩) (HRow.out.ne HD.out (by decide)) _
  have hkv := (Keeps.refl (fun k => k = w.heap.size) (w1.setCell ⟨b, 0, none⟩ (.slice (some ⟨rb, ro, none⟩) (xs.length - 1) c))).var (fun _ => rfl) (.int .i64 xk) (.int .i64 xn) (.string xt)
  exact bodyPost_ret (v := .tuple #[V.val ⟨xk, xn, xt⟩, .int .i64 0]) (by simp [results, Try.results44, go_sem, d0, d1, d2, V.val]) rfl (hR.out _ _ ⟨rfl, hl0.keeps hkv (fun k hF e => hout (e ▸ hF)), (HKF.out.setCell (p := ⟨b, 0, none⟩) (fun _ => HL.out.here) _).var (fun h => by omega) _ _ _⟩)
end Go.Proofs.Ytpaefeknbpfpmaa
