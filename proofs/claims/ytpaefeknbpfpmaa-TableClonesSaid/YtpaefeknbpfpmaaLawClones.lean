/- The walk of the statement TableClones. -/
import Derived.Test.YtpaefeknbpfpmaaDo5B
import Derived.Test.YtpaefeknbpfpmaaSame5
import Derived.Test.YtpaefeknbpfpmaaKeeps5
namespace Go.Proofs.Ytpaefeknbpfpmaa
open Go.RowKit
set_option maxRecDepth 100000

theorem cellNums_append (a b : List V) : cellNums (a ++ b) = cellNums a ++ cellNums b := by simp [cellNums]
theorem cellsT_snoc (L : List Ent) (x : Ent) : ((cellsT (L ++ [x])).length : Int) = (cellsT L).length + (if x.key.k = 4 then 1 else 0) + (if x.val.k = 4 then 1 else 0) := by
  have h1 : ∀ v : V, ((cellNums [v]).length : Int) = if v.k = 4 then 1 else 0 := fun v => by
    by_cases h : v.k = 4 <;> simp [cellNums, h]
  simp only [cellsT, List.map_append, cellNums_append, List.length_append, List.map_cons, List.map_nil]
  rw [← h1 x.key, ← h1 x.val]
  omega
/-- The state of the acts' loop. -/
structure ActSt (w : World) (b : Nat) (F G : Nat → Prop) (A : Option Addr) (c : Nat) (L : List Ent) (s : Int) (wr : World) : Prop where
  tm : TM wr F G b A c L s
  hF : ∀ k, F k → w.heap.size ≤ k
  hG : ∀ k, G k → w.heap.size ≤ k
  K : Keeps (fun k => w.heap.size ≤ k) w wr
theorem ActSt.none {w wr wj : World} {b : Nat} {F G : Nat → Prop} {A : Option Addr} {c : Nat} {L : List Ent} {s : Int} (h : ActSt w b F G A c L s wr) (hk : Keeps (fun _ => False) wr wj) : ActSt w b F G A c L s wj :=
  ⟨h.tm.calm hk, h.hF, h.hG, h.K.step (fun _ h => h.elim) hk⟩
theorem ActSt.next {w wr wj : World} {b : Nat} {F G F' G' : Nat → Prop} {A A' : Option Addr} {c c' : Nat} {L L' : List Ent} {s s' : Int} (h : ActSt w b F G A c L s wr) (ht : TM wj F' G' b A' c' L' s') (hk : Keeps F wr wj) (hf : Fresh F F' wr) (hg : Fresh G G' wr) : ActSt w b F' G' A' c' L' s' wj :=
  ⟨ht, hf.ge h.hF h.K.size, hg.ge h.hG h.K.size, h.K.step h.hF hk⟩
theorem op_lit (w : World) (o : LOp5) : Lops5 (w.alloc (.cells #[.int .i64 o.k, .int .i64 o.key.k, .int .i64 o.key.n, .string o.key.t, .int .i64 o.val.k, .int .i64 o.val.n, .string o.val.t] 32)) (some ⟨w.heap.size, 0, none⟩) [o] := fun i y hi => by
  have hi0 : i = 0 := by have := (List.getElem?_eq_some_iff.1 hi).1; simp at this; omega
  subst hi0
  simp at hi
  subst hi
  exact ⟨_, _, rfl, ⟨by rw [blk_cell (blk_new w _)]; rfl, by rw [blk_cell (blk_new w _)]; rfl, by rw [blk_cell (blk_new w _)]; rfl, by rw [blk_cell (blk_new w _)]; rfl, by rw [blk_cell (blk_new w _)]; rfl, by rw [blk_cell (blk_new w _)]; rfl, by rw [blk_cell (blk_new w _)]; rfl⟩⟩
set_option maxHeartbeats 16000000 in
theorem tableClones_walk (w : World) (A : Option Addr) (c : Nat) (xs : List LOp5) (o : LOp5) (h : Lops5 w A xs) (hl : xs.length ≤ 4398046511104) :
    Calls Try.prog 4 #[.slice A xs.length c, .agg #[.int .i64 o.k, .int .i64 o.key.k, .int .i64 o.key.n, .string o.key.t, .int .i64 o.val.k, .int .i64 o.val.n, .string o.val.t]] w fun e w' => e = .returned (.bool true) ∧ Below w.heap.size w w' := by
  have HV0 := hidden h
  have BX0 := hidden (blk_new w (.cells #[.int .i64 o.k, .int .i64 o.key.k, .int .i64 o.key.n, .string o.key.t, .int .i64 o.val.k, .int .i64 o.val.n, .string o.val.t] 32))
  have HKB := hidden (show Keeps (fun k => w.heap.size ≤ k) w (w.alloc (.cells #[.int .i64 o.k, .int .i64 o.key.k, .int .i64 o.key.n, .string o.key.t, .int .i64 o.val.k, .int .i64 o.val.n, .string o.val.t] 32)) from (Keeps.refl _ w).alloc _)
  clear h
  refine post_gen fun R hR => ?_
  go_enter Try.func4, Try.ntmps4
  go_wp2_with fail
  refine (keeps5_true _).mono ?_
  rintro e w1 ⟨rfl, hB1⟩
  have BX1 := hidden (Keeps.heap (Keeps.of_below hB1) BX0.out (by simp))
  have HK1 := hidden (HKB.out.trans ((Keeps.of_below hB1).mono (T := fun k => w.heap.size ≤ k) (fun k _ h => by simp at h; omega)) (fun _ _ h => h))
  clear hB1
  have HV1 := hidden (HV0.out.far HK1.out)
  go_wp2_with fail
  refine (right5_any w1 A c xs HV1.out hl).mono ?_
  rintro e w2 ⟨rfl, hK2⟩
  have BX2 := hidden (hK2.heap BX1.out (fun h => h))
  have HK2 := hidden (HK1.out.trans hK2 (fun _ _ h => h.elim))
  have HV2 := hidden (HV1.out.calm hK2)
  clear hK2
  obtain ⟨ok, ⟨kk, kn, kt⟩, ⟨vk, vn, vt⟩⟩ := o
  simp only at BX2
  have x0 := blk_cell BX2.out 0
  have x1 := blk_cell BX2.out 1
  have x2 := blk_cell BX2.out 2
  have x3 := blk_cell BX2.out 3
  have x4 := blk_cell BX2.out 4
  have x5 := blk_cell BX2.out 5
  have x6 := blk_cell BX2.out 6
  simp only [List.getElem?_toArray, List.getElem?_cons_zero, List.getElem?_cons_succ] at x0 x1 x2 x3 x4 x5 x6
  have hbx := blk_lt BX2.out
  cases hr1 : right5 xs with
  | false =>
    go_wp2_with fail
    exact hR.out _ _ ⟨rfl, HK2.out.below (Nat.le_refl _) (fun _ h => h)⟩
  | true =>
    have HR1 := hidden hr1
    clear hr1
    go_wp2_with fail
    have HA3 := hidden (show Keeps (fun k => w.heap.size ≤ k) w (w2.alloc (.cells #[.int .i64 ok, .int .i64 kk, .int .i64 kn, .string kt, .int .i64 vk, .int .i64 vn, .string vt] 32)) from HK2.out.alloc _)
    refine (right5_any _ (some ⟨w2.heap.size, 0, none⟩) 1 [⟨ok, ⟨kk, kn, kt⟩, ⟨vk, vn, vt⟩⟩] (op_lit w2 ⟨ok, ⟨kk, kn, kt⟩, ⟨vk, vn, vt⟩⟩) (by simp)).mono ?_
    rintro e w3 ⟨rfl, hK3⟩
    have BX3 := hidden (hK3.heap (blk_alloc BX2.out _) (fun h => h))
    have HK3 := hidden (HA3.out.trans hK3 (fun _ _ h => h.elim))
    have HV3 := hidden (HV0.out.far HK3.out)
    clear hK3 x0 x1 x2 x3 x4 x5 x6 hbx
    cases hr2 : right5 [⟨ok, ⟨kk, kn, kt⟩, ⟨vk, vn, vt⟩⟩] with
    | false =>
      go_wp2_with fail
      exact hR.out _ _ ⟨rfl, HK3.out.below (Nat.le_refl _) (fun _ h => h)⟩
    | true =>
      have hks : kt.size ≤ 200 := by
        simp [right5, LOp5.fine] at hr2
        omega
      clear hr2
      go_wp2_with fail
      refine (t_New w3).mono ?_
      rintro e w4 ⟨b, F0, rfl, hT, hK4, hF⟩
      have BX4 := hidden (hK4.heap BX3.out (fun h => h))
      have ST0 := hidden (show ActSt w b F0 (fun _ => False) none 0 [] 0 w4 from ⟨⟨hT, Row.nil _ _ _ _, fun k _ h => h.elim, fun k h => h.elim⟩, fun k h => (hF k h).elim (fun h => h.elim) (fun h => by have := HK3.out.size; omega), fun k h => h.elim, HK3.out.step (fun _ h => h.elim) hK4⟩)
      have hxs : xs.length ≤ 100 := by
        have := HR1.out
        simp [right5] at this
        exact this.2
      have hOut := hidden (show ¬ F0 w.heap.size from fun h => by have := (hF _ h).elim (fun h => h.elim) id; have := blk_lt BX3.out; omega)
      clear hT hK4 hF
      go_wp2_with fail
      go_loopw [6, 29] (fun m i wr => ∃ (k : Nat) (L : List Ent) (s : Int) (A2 : Option Addr) (c2 : Nat) (F G : Nat → Prop), k ≤ xs.length ∧ i = .int .i64 k ∧ m = .slice A2 L.length c2 ∧ ActSt w b F G A2 c2 L s wr ∧ L.length ≤ k ∧ s ≤ k ∧ ¬ F w.heap.size ∧ wr.heap[w.heap.size]? = some (.cells #[.int .i64 ok, .int .i64 kk, .int .i64 kn, .string kt, .int .i64 vk, .int .i64 vn, .string vt] 32 (0, 0))) (fun _ i _ => xs.length - (intOf i).toNat)
      case atStart => exact ⟨0, [], 0, none, 0, F0, fun _ => False, Nat.zero_le _, rfl, rfl, ST0.out, Nat.le_refl _, Int.le_refl _, hOut.out, BX4.out⟩
      case round =>
        obtain ⟨k, L, s, A2, c2, F, G, hk, rfl, rfl, hST, hL, hs, hnF, hbw⟩ := hrel
        have ST := hidden hST
        have NF := hidden hnF
        have BW := hidden hbw
        clear hST hnF hbw
        by_cases hlt : k < xs.length
        · obtain ⟨rb, ro, rfl, h0, h1, h2, h3, h4, h5, h6⟩ := (HV0.out.far ST.out.K) k xs[k] (List.getElem?_eq_getElem hlt)
          have hr := World.block_lt_of_cell? wr _ h0
          have hkx : xs[k].key.t.size ≤ 200 := by
            have := HR1.out
            simp only [right5, Bool.and_eq_true, List.all_eq_true] at this
            have := this.1 xs[k] (List.getElem_mem hlt)
            simp [LOp5.fine] at this
            omega
          have DO := hidden (fun (W : World) (hk : Keeps (fun _ => False) wr W) => do5 W F G b A2 c2 L s xs[k] (ST.out.none hk).tm (by omega) (by omega) (by omega))
          have hdl := doE_len L s xs[k]
          generalize xs[k] = x at *
          obtain ⟨xk, ⟨ak, an, at'⟩, ⟨bk, bn, bt⟩⟩ := x
          simp only at h0 h1 h2 h3 h4 h5 h6 DO
          have HA := hidden (show Keeps (fun _ => False) wr (wr.alloc (.cells #[.int .i64 xk, .int .i64 ak, .int .i64 an, .string at', .int .i64 bk, .int .i64 bn, .string bt] 32)) from (Keeps.refl _ _).alloc _)
          go_wp2_with fail
          refine (DO.out _ HA.out).mono ?_
          rintro e w5 ⟨A5, c5, F5, G5, rfl, hT, hK, hF, hG⟩
          have ST5 := hidden ((ST.out.none HA.out).next hT hK hF hG)
          have BW5 := hidden (hK.heap (blk_alloc BW.out _) NF.out)
          have NF5 := hidden (show ¬ F5 w.heap.size from fun h => (hF _ h).elim NF.out (fun h => by have := blk_lt BW.out; simp at h; omega))
          clear hT hK hF hG
          go_wp2_with fail
          go_roundw
          case rel => exact ⟨k + 1, _, _, _, _, F5, G5, hlt, by go_num, rfl, ST5.out, by omega, by omega, NF5.out, BW5.out⟩
          case measure => simp [intOf]; omega
        · obtain rfl : k = xs.length := by omega
          have hsb : s < 1073741823 := by omega
          have HLok := hidden ST.out.tm.tab.lok
          have HKV := hidden (flatP_kv (cloneE_kv L HLok.out.kne))
          have hcl := cloneE_len L
          go_wp2_with fail
          refine (t_Clone wr F b L s ST.out.tm.tab hsb).mono ?_
          rintro e w6 ⟨b2, F2, rfl, hT2, hK6, hF2⟩
          have ST6 := hidden (ST.out.none hK6)
          have BW6 := hidden (hK6.heap BW.out (fun h => h))
          have HT2 := hidden hT2
          have hF2w : ∀ k, F2 k → wr.heap.size ≤ k := fun k h => (hF2 k h).elim (fun h => h.elim) id
          have HF2 := hidden hF2w
          clear hT2 hK6 hF2 hF2w
          go_wp2_with fail
          refine (same5_true w6 F2 b2 (cloneE L).1 (cloneE L).2 A2 L.length c2 HT2.out (by omega) (Pairs.own (by have := ST6.out.tm.row.1; rw [← HKV.out.1] at this; exact this)) HKV.out.2.symm).mono ?_
          rintro e w7 ⟨rfl, hK7⟩
          have ST7 := hidden (ST6.out.none hK7)
          have BW7 := hidden (hK7.heap BW6.out (fun h => h))
          have HT7 := hidden (HT2.out.none hK7)
          clear hK7
          have x0 := blk_cell BW7.out 0
          have x1 := blk_cell BW7.out 1
          have x2 := blk_cell BW7.out 2
          have x3 := blk_cell BW7.out 3
          have x4 := blk_cell BW7.out 4
          have x5 := blk_cell BW7.out 5
          have x6 := blk_cell BW7.out 6
          simp only [List.getElem?_toArray, List.getElem?_cons_zero, List.getElem?_cons_succ] at x0 x1 x2 x3 x4 x5 x6
          have hbx := blk_lt BW7.out
          have HTM := hidden (show TM w7 F2 G b2 A2 c2 (cloneE L).1 (cloneE L).2 from ⟨HT7.out, by have := ST7.out.tm.row; rw [HKV.out.2, HKV.out.1]; exact this, fun k h1 h2 => by have := HF2.out k h1; have := ST.out.tm.inG k h2; omega, ST7.out.tm.inG⟩)
          have DO := hidden (do5 w7 F2 G b2 A2 c2 (cloneE L).1 (cloneE L).2 ⟨ok, ⟨kk, kn, kt⟩, ⟨vk, vn, vt⟩⟩ HTM.out (by omega) (by omega) (by show kt.size ≤ _; omega))
          rw [HKV.out.2] at DO
          simp only at DO
          have hdl := doE_len (cloneE L).1 (cloneE L).2 ⟨ok, ⟨kk, kn, kt⟩, ⟨vk, vn, vt⟩⟩
          go_wp2_with fail
          refine DO.out.mono ?_
          rintro e w8 ⟨A8, c8, F8, G8, rfl, hT8, hK8, hF8, hG8⟩
          have HT8 := hidden hT8
          have hap : Apart F F2 := fun k h1 h2 => by have := HF2.out k h2; have := ST.out.tm.tab.inw k h1; omega
          have hapG : Apart G F2 := fun k h1 h2 => by have := HF2.out k h2; have := ST.out.tm.inG k h1; omega
          have HM8 := hidden (show IsT w8 F b L s ∧ Pairs w8 A2 L from ⟨ST7.out.tm.tab.keeps hK8 hap, Pairs.own (ST7.out.tm.row.keeps hK8 hapG).1⟩)
          have HK8 := hidden (ST7.out.K.trans hK8 (fun k _ h => by have := HF2.out k h; have := ST.out.K.size; omega))
          clear hT8 hK8 hF8 hG8 hap hapG x0 x1 x2 x3 x4 x5 x6 hbx
          go_wp2_with fail
          go_loopw [12, 56] (fun cn i wr => ∃ j : Nat, j ≤ L.length ∧ i = .int .i64 j ∧ cn = .int .i64 ((cellsT (L.take j)).length : Int) ∧ Keeps (fun _ => False) w8 wr) (fun _ i _ => L.length - (intOf i).toNat)
          case atStart => exact ⟨0, Nat.zero_le _, rfl, rfl, Keeps.refl _ _⟩
          case round =>
            obtain ⟨j, hj, rfl, rfl, hK⟩ := hrel
            have HKr := hidden hK
            clear hK
            by_cases hlt : j < L.length
            · obtain ⟨g, o, rfl, e0, e1, e2, e3, e4, e5⟩ := (HM8.out.2.calm HKr.out) j L[j] (List.getElem?_eq_getElem hlt)
              have hgw := World.block_lt_of_cell? wr _ e0
              have HSN := hidden (show ((cellsT (L.take (j + 1))).length : Int) = (cellsT (L.take j)).length + (if L[j].key.k = 4 then 1 else 0) + (if L[j].val.k = 4 then 1 else 0) by rw [List.take_succ_eq_append_getElem hlt, cellsT_snoc])
              have hcl2 : (cellsT (L.take j)).length ≤ 2 * L.length := by
                have h1 := cellNums_le ((L.take j).map Ent.key)
                have h2 := cellNums_le ((L.take j).map Ent.val)
                simp only [cellsT, List.length_append, List.length_map, List.length_take] at h1 h2 ⊢
                omega
              generalize (cellsT (L.take j)).length = cn at *
              generalize hc2 : (cellsT (L.take (j + 1))).length = cn2 at *
              have HC2 := hidden hc2
              clear hc2
              generalize L[j] = x at *
              obtain ⟨⟨ak, an, at'⟩, ⟨bk, bn, bt⟩, xs', xg⟩ := x
              simp only at e0 e1 e2 e3 e4 e5 HSN
              by_cases h1 : ak = 4
              · by_cases h2 : bk = 4
                · have HE := hidden (show (cn2 : Int) = (cn : Int) + 1 + 1 by rw [HSN.out, if_pos h1, if_pos h2])
                  subst h1 h2
                  clear HSN
                  go_wp2_with fail
                  go_roundw
                  case rel => exact ⟨j + 1, hlt, by go_num, by rw [HC2.out, HE.out], HKr.out.alloc _⟩
                  case measure => simp [intOf]; omega
                · have HE := hidden (show (cn2 : Int) = (cn : Int) + 1 by rw [HSN.out, if_pos h1, if_neg h2]; omega)
                  have j2 : (bk == 4) = false := by simpa using h2
                  subst h1
                  clear HSN h2
                  go_wp2_with fail
                  go_roundw
                  case rel => exact ⟨j + 1, hlt, by go_num, by rw [HC2.out, HE.out], HKr.out.alloc _⟩
                  case measure => simp [intOf]; omega
              · have j1 : (ak == 4) = false := by simpa using h1
                by_cases h2 : bk = 4
                · have HE := hidden (show (cn2 : Int) = (cn : Int) + 1 by rw [HSN.out, if_neg h1, if_pos h2]; omega)
                  subst h2
                  clear HSN h1
                  go_wp2_with fail
                  go_roundw
                  case rel => exact ⟨j + 1, hlt, by go_num, by rw [HC2.out, HE.out], HKr.out.alloc _⟩
                  case measure => simp [intOf]; omega
                · have HE := hidden (show (cn2 : Int) = (cn : Int) by rw [HSN.out, if_neg h1, if_neg h2]; omega)
                  have j2 : (bk == 4) = false := by simpa using h2
                  clear HSN h1 h2
                  go_wp2_with fail
                  go_roundw
                  case rel => exact ⟨j + 1, hlt, by go_num, by rw [HC2.out, HE.out], HKr.out.alloc _⟩
                  case measure => simp [intOf]; omega
            · obtain rfl : j = L.length := by omega
              rw [List.take_length]
              have hF8 := doE_len (cloneE L).1 (cloneE L).2 ⟨ok, ⟨kk, kn, kt⟩, ⟨vk, vn, vt⟩⟩
              have S1 := hidden (same5_true wr F8 b2 _ _ A8 _ c8 (HT8.out.tab.none HKr.out) (by omega) ((Pairs.own HT8.out.row.1).calm HKr.out) rfl)
              have S2 := hidden (fun (W : World) (hk : Keeps (fun _ => False) w8 W) => same5_true W F b L s A2 L.length c2 (HM8.out.1.none hk) hsb (HM8.out.2.calm hk) rfl)
              have S3 := hidden (fun (W : World) (hk : Keeps (fun _ => False) w8 W) => t_Cells (HM8.out.1.none hk) hsb)
              go_wp2_with fail
              refine S1.out.mono ?_
              rintro e w9 ⟨rfl, hK9⟩
              have HK9 := hidden (HKr.out.trans hK9 (fun _ _ h => h))
              clear hK9
              go_wp2_with fail
              refine (S2.out _ HK9.out).mono ?_
              rintro e w10 ⟨rfl, hK10⟩
              have HK10 := hidden (HK9.out.trans hK10 (fun _ _ h => h))
              clear hK10
              go_wp2_with fail
              refine (S3.out _ HK10.out).mono ?_
              rintro e w11 ⟨A11, c11, F11, rfl, h1, h2, h3, h4⟩
              have HK11 := hidden (HK10.out.trans h3 (fun _ _ h => h))
              clear h1 h2 h3 h4
              go_wp2_with fail
              exact hR.out _ _ ⟨rfl, (HK8.out.step (fun _ h => h.elim) HK11.out).below (Nat.le_refl _) (fun _ h => h)⟩
end Go.Proofs.Ytpaefeknbpfpmaa
