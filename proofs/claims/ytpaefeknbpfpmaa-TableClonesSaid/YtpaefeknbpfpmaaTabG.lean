/- Layer 5: tables: what is gone left out, and more room: rehash. -/
import Derived.Test.YtpaefeknbpfpmaaTabF
namespace Go.Proofs.Ytpaefeknbpfpmaa
open Go.RowKit
set_option maxRecDepth 100000

def fillT (E : List Ent) : Nat → List Int → List Int
  | 0, S => S
  | j + 1, S => (fillT E j S).set (findT ⟨E, fillT E j S, 0, 0, 0⟩ (E.getD j (blank 0)).key).1 ((j : Int) + 1)
theorem fillT_length (E : List Ent) (S : List Int) : ∀ j, (fillT E j S).length = S.length := by
  intro j
  induction j with
  | zero => rfl
  | succ j ih => rw [fillT, List.length_set, ih]
theorem fillT_in (E : List Ent) (n : Nat) : ∀ j, ∀ (i : Nat) (s : Int), (fillT E j (List.replicate n 0))[i]? = some s → s = 0 ∨ s = -1 ∨ (1 ≤ s ∧ s ≤ (j : Int)) := by
  intro j
  induction j with
  | zero =>
    intro i s h
    rw [fillT, List.getElem?_replicate] at h
    split at h
    · simp at h; exact .inl h.symm
    · simp at h
  | succ j ih =>
    intro i s h
    rw [fillT, List.getElem?_set] at h
    split at h
    · split at h
      · simp at h; subst h; exact .inr (.inr ⟨by omega, by omega⟩)
      · simp at h
    · rcases ih i s h with h | h | ⟨h1, h2⟩
      · exact .inl h
      · exact .inr (.inl h)
      · exact .inr (.inr ⟨h1, by omega⟩)
theorem made_int (n : Nat) : (madeCells (Value.int .i64 0).cells (n * 1)).toList = intCells (List.replicate n 0) := by
  apply List.ext_getElem?
  intro i
  by_cases h : i < n <;> simp [madeCells, intCells, Value.cells, h, Nat.mod_one]
set_option maxHeartbeats 4000000 in
theorem table_rehash (w : World) (F : Nat → Prop) (b : Nat) (t : Tb) (h : IsTab w F b t) (hs : t.safe) (hlive : t.live = (stay t.E).length) (hl : t.live ≤ 1048576) (hkeys : ∀ x ∈ t.E, x.key.t.size ≤ 140737488351232) :
    Calls Try.prog 90 #[.pointer (some ⟨b, 0, none⟩)] w fun e w' => ∃ (F' : Nat → Prop) (m : Nat), e = .returned (.tuple #[]) ∧ 2 ≤ m ∧ m ≤ 30 ∧ 4 * ((stay t.E).length + 1) ≤ 2 * 2 ^ m ∧ IsTab w' F' b ⟨stay t.E, fillT (stay t.E) (stay t.E).length (List.replicate (2 ^ m) 0), t.live, t.live, t.ser⟩ ∧ Keeps F w w' ∧ Fresh F F' w := by
  obtain ⟨ve, vs, hT⟩ := h
  obtain ⟨Ae, ce, rfl⟩ := hT.ents.form
  have HT := hidden hT
  obtain ⟨E, S, live, used, ser⟩ := t
  simp only at *
  have HKY := hidden (show ∀ x ∈ stay E, x.key.t.size ≤ 140737488351232 from fun x hx => hkeys x (List.mem_filter.1 hx).1)
  have hen := hs.many
  simp only at hen
  have hsn : (stay E).length ≤ E.length := List.length_filter_le _ _
  have b2 := blk_cell hT.blk 2
  have b0 := blk_cell hT.blk 0
  have b0f := blk_frozen hT.blk 0
  have hbz := blk_lt hT.blk
  simp only [List.getElem?_toArray, List.getElem?_cons_zero, List.getElem?_cons_succ] at b0 b2
  have HLV := hidden hlive
  have hlv1 : 0 ≤ live := by omega
  have kd := hidden (fun (W : World) (hK : Keeps (fun _ => False) w W) => delete_gone W F Ae ce E (hT.ents.keeps hK (Apart.no _)) hen)
  have hl4 : IntKind.i64.wrap (live + 1) = live + 1 := by rw [IntKind.wrap_i64]; omega
  have hl5 : IntKind.i64.wrap (4 * (live + 1)) = 4 * (live + 1) := by rw [IntKind.wrap_i64]; omega
  clear hT hs hlive hkeys
  refine post_gen fun R hR => ?_
  go_enter Try.func90, Try.ntmps90
  go_wp2_with fail
  go_loop [2] (fun s => ∃ m : Nat, 2 ≤ m ∧ m ≤ 30 ∧ s = .int .i64 ((2 ^ m : Nat) : Int)) (fun s => 4294967296 - (intOf s).toNat)
  case atStart => exact ⟨2, by decide, by decide, rfl⟩
  case round =>
    obtain ⟨m, hm2, hm, rfl⟩ := hrel
    have hle : 2 ^ m ≤ 1073741824 := Nat.pow_le_pow_right (by decide) hm
    have h4 : 4 ≤ 2 ^ m := Nat.pow_le_pow_right (n := 2) (i := 2) (by decide) hm2
    have HP := hidden (show 2 ^ (m + 1) = 2 ^ m * 2 from Nat.pow_succ 2 m)
    have HMZ := hidden (show 2 ^ m = 2 ^ m from rfl)
    generalize hsz : 2 ^ m = sz at *
    have HSZ := hidden hsz
    clear hsz
    have hz1 : IntKind.i64.wrap (2 * (sz : Int)) = 2 * (sz : Int) := by rw [IntKind.wrap_i64]; omega
    have hz2 : IntKind.i64.wrap ((sz : Int) * 2) = (sz : Int) * 2 := by rw [IntKind.wrap_i64]; omega
    by_cases hlt : 2 * (sz : Int) < 4 * (live + 1)
    · go_wp2_with fail
      go_round
      case rel =>
        refine ⟨m + 1, by omega, ?_, by rw [HP.out]; go_num⟩
        refine Classical.byContradiction fun hc => ?_
        have hm30 : m = 30 := by omega
        have := HSZ.out
        rw [hm30] at this
        omega
      case measure => simp [intOf]; omega
    · go_wp2_with fail
      refine (kd.out w (Keeps.refl _ w)).mono ?_
      rintro e w1 ⟨rfl, hrow, hK⟩
      have hd := hK.heap HT.out.blk (fun e => HT.out.ents.ne HT.out.blk (by decide) b e rfl)
      have HD := hidden hd
      have hsl : Row w1 F 3 1 vs S.length (intCells S) := ⟨ownsRow_move HT.out.slots.1 (fun k hk => hK.block k (HT.out.slots.lt k hk) (fun e => by
        obtain ⟨cs1, h1⟩ := own_typed HT.out.slots.1 k hk
        exact HT.out.ents.ne h1 (by decide) k e rfl)), HT.out.slots.2⟩
      have hKF : Keeps F w w1 := hK.mono (fun k _ e => HT.out.ents.2 k e)
      have T1 := hidden (show TabAt (w1.setCell ⟨b, 0, none⟩ (.slice Ae (stay E).length ce)) F b (.slice Ae (stay E).length ce) vs ⟨stay E, S, live, used, ser⟩ from
        ⟨blk_set hd 0 _, HT.out.here, hrow.set (p := ⟨b, 0, none⟩) (hrow.ne hd (by decide)) _, hsl.set (p := ⟨b, 0, none⟩) (hsl.ne hd (by decide)) _, HT.out.inw.keeps (hKF.setCell (p := ⟨b, 0, none⟩) (fun _ => HT.out.here) (.slice Ae (stay E).length ce))⟩)
      have HK1 := hidden (hKF.setCell (p := ⟨b, 0, none⟩) (fun _ => HT.out.here) (.slice Ae (stay E).length ce))
      have c0 := blk_cell hd 0
      have c0f := blk_frozen hd 0
      have hbw := blk_lt hd
      simp only [List.getElem?_toArray, List.getElem?_cons_zero, List.getElem?_cons_succ] at c0
      clear hrow hK hd hsl hKF b0 b2 b0f kd
      obtain ⟨i0, hi0, hz0, hs0, hb0⟩ := info_parts info_int
      have hsz : (sz : Int) ≤ 1073741824 := by omega
      go_wp2_with (at_make; refine wpList_make_full _ rfl _ _ _ rfl 0 3 i0 _ 1 Try.underlying43 hi0 hz0 hs0 .i64 .i64 (sz : Int) (sz : Int) sz rfl rfl rfl rfl (by rw [hb0]; omega) (by unfold maxLen; omega) (Nat.zero_le _) ?_; intro w3 hown hgrow; have HO := hidden hown; have HG := hidden hgrow; have hk3 := (Keeps.refl (fun _ => False) _).grown HG.out (fun k h => by cases h); have T3 := hidden (T1.out.none hk3); have HK3 := hidden hk3; have b1 := blk_cell T3.out.blk 1; have b1f := blk_frozen T3.out.blk 1; have b2 := blk_cell T3.out.blk 2; have b3 := blk_cell T3.out.blk 3; have b3f := blk_frozen T3.out.blk 3; have b0 := blk_cell T3.out.blk 0; have hbz3 := blk_lt T3.out.blk; simp only [List.getElem?_toArray, List.getElem?_cons_zero, List.getElem?_cons_succ] at b0 b1 b2 b3; clear hown hgrow hk3)
      have hown := HO.out
      rw [made_int sz] at hown
      have hg1 : (w1.setCell ⟨b, 0, none⟩ (.slice Ae (stay E).length ce)).heap.size = w1.heap.size := by simp [World.setCell]
      have hgs : w1.heap.size < w3.heap.size := by have := (hown.lt _ rfl).2; simp [World.setCell] at this; exact this
      have hww : w.heap.size ≤ w1.heap.size := by have := HK1.out.size; rw [hg1] at this; exact this
      rw [hg1] at hown
      have hrow3 : Row w3 (fun k => F k ∨ k = w1.heap.size) 3 1 (.slice (some ⟨w1.heap.size, 0, none⟩) sz sz) sz (intCells (List.replicate sz 0)) := ⟨hown, fun k hk => by simp [Value.ownBlock] at hk; exact .inr hk.symm⟩
      have HLR := hidden (show (List.replicate sz (0 : Int)).length = sz from List.length_replicate)
      have T5 : TabAt ((w3.setCell ⟨b, 1, none⟩ (.slice (some ⟨w1.heap.size, 0, none⟩) sz sz)).setCell ⟨b, 3, none⟩ (.int .i64 live)) (fun k => F k ∨ k = w1.heap.size) b (.slice Ae (stay E).length ce) (.slice (some ⟨w1.heap.size, 0, none⟩) sz sz) ⟨stay E, List.replicate sz 0, live, live, ser⟩ := by
        refine ⟨blk_set (blk_set T3.out.blk 1 _) 3 _, .inl HT.out.here, ?_, ?_, ?_⟩
        · exact ((T3.out.ents.set (p := ⟨b, 1, none⟩) (T3.out.ents.ne T3.out.blk (by decide)) _).set (p := ⟨b, 3, none⟩) (T3.out.ents.ne T3.out.blk (by decide)) _).mono (fun _ _ h => .inl h)
        · have h := (hrow3.set (p := ⟨b, 1, none⟩) (hrow3.ne T3.out.blk (by decide)) (.slice (some ⟨w1.heap.size, 0, none⟩) sz sz)).set (p := ⟨b, 3, none⟩) (hrow3.ne T3.out.blk (by decide)) (.int .i64 live)
          simpa using h
        · intro k hk
          simp [World.setCell]
          rcases hk with hk | hk
          · exact T3.out.inw k hk
          · omega
      have K5 : Keeps F w ((w3.setCell ⟨b, 1, none⟩ (.slice (some ⟨w1.heap.size, 0, none⟩) sz sz)).setCell ⟨b, 3, none⟩ (.int .i64 live)) := ((HK1.out.trans HK3.out (fun _ _ h => h.elim)).setCell (p := ⟨b, 1, none⟩) (fun _ => HT.out.here) _).setCell (p := ⟨b, 3, none⟩) (fun _ => HT.out.here) _
      have TT5 := hidden T5
      have KK5 := hidden K5
      have HWW := hidden hww
      have hnl : ((stay E).length : Int) = live := HLV.out.symm
      have HLT := hidden (show 4 * ((stay E).length + 1) ≤ 2 * sz by omega)
      clear hown hg1 hgs hww hrow3 T5 K5 b0 b1 b1f b2 b3 b3f c0 c0f HO HG hbz3 HD T1 HK1 T3 HK3 hnl hlt
      generalize (w3.setCell ⟨b, 1, none⟩ (.slice (some ⟨w1.heap.size, 0, none⟩) sz sz)).setCell ⟨b, 3, none⟩ (.int .i64 live) = w5 at *
      generalize w1.heap.size = gs at *
      generalize hEE : stay E = E' at *
      clear hEE
      go_loopw [43] (fun i wr => ∃ j : Nat, j ≤ E'.length ∧ i = .int .i64 j ∧ TabAt wr (fun k => F k ∨ k = gs) b (.slice Ae E'.length ce) (.slice (some ⟨gs, 0, none⟩) sz sz) ⟨E', fillT E' j (List.replicate sz 0), live, live, ser⟩ ∧ Keeps (fun k => F k ∨ k = gs) w5 wr) (fun i _ => E'.length - (intOf i).toNat)
      case atStart => exact ⟨0, Nat.zero_le _, rfl, TT5.out, Keeps.refl _ _⟩
      case round =>
        obtain ⟨j, hj, rfl, hTr, hKr⟩ := hrel
        have TTr := hidden hTr
        have HKr := hidden hKr
        by_cases hlt : j < E'.length
        · have hSl : (fillT E' j (List.replicate sz 0)).length = sz := by rw [fillT_length, HLR.out]
          have hKY := HKY.out E'[j] (List.getElem_mem hlt)
          have hsafe : (Tb.mk E' (fillT E' j (List.replicate sz 0)) live live ser).safe := ⟨.inr ⟨m, hm, by show (fillT E' j _).length = _; rw [hSl, HSZ.out]⟩, fun i s hi => by
            rcases fillT_in E' sz j i s hi with h | h | ⟨h1, h2⟩
            · exact .inl h
            · exact .inr (.inl h)
            · exact .inr (.inr ⟨h1, by show s ≤ (E'.length : Int); omega⟩), by show E'.length ≤ _; omega⟩
          have c1 := hidden (fun (W : World) (hK : Keeps (fun _ => False) wr W) => table_find W (fun k => F k ∨ k = gs) b _ E'[j].key ⟨_, _, TTr.out.none hK⟩ hsafe hKY)
          have hfi : (findT ⟨E', fillT E' j (List.replicate sz 0), live, live, ser⟩ E'[j].key).1 < sz := by
            have := findT_lt (t := ⟨E', fillT E' j (List.replicate sz 0), live, live, ser⟩) (key := E'[j].key) (by show 0 < (fillT E' j _).length; rw [hSl]; omega)
            simp only [hSl] at this
            exact this
          have HFT := hidden (show fillT E' (j + 1) (List.replicate sz 0) = (fillT E' j (List.replicate sz 0)).set (findT ⟨E', fillT E' j (List.replicate sz 0), live, live, ser⟩ E'[j].key).1 ((j : Int) + 1) by
            rw [fillT, List.getD_eq_getElem?_getD, List.getElem?_eq_getElem hlt]; rfl)
          obtain ⟨ge, oe, rfl, ⟨e0, e1, e2, e3, e4, e5, e6, e7⟩⟩ := Ents.own TTr.out.ents.1 j E'[j] (List.getElem?_eq_getElem hlt)
          have hge := World.block_lt_of_cell? wr _ e0
          have HSL := hidden hSl
          clear hSl hsafe hKY hTr hKr
          generalize (findT ⟨E', fillT E' j (List.replicate sz 0), live, live, ser⟩ E'[j].key).1 = fi at *
          generalize (findT ⟨E', fillT E' j (List.replicate sz 0), live, live, ser⟩ E'[j].key).2 = fb at *
          generalize E'[j] = x at *
          obtain ⟨xk, xv, xs, xg⟩ := x
          simp only at e0 e1 e2 e3 e4 e5 e6 e7 c1
          unfold V.val at c1
          have hjw : IntKind.i64.wrap ((j : Int) + 1) = (j : Int) + 1 := by rw [IntKind.wrap_i64]; omega
          go_wp2_with fail
          refine (c1.out _ ((Keeps.refl _ wr).alloc _)).mono ?_
          rintro e w6 ⟨rfl, hK⟩
          have HK6 := hidden (((Keeps.refl (fun _ => False) wr).alloc _).trans hK (fun _ _ h => h))
          clear hK c1
          have TT6 := hidden (TTr.out.none HK6.out)
          have b1 := blk_cell TT6.out.blk 1
          simp only [List.getElem?_toArray, List.getElem?_cons_zero, List.getElem?_cons_succ] at b1
          obtain ⟨s0, hs0⟩ : ∃ s0, (fillT E' j (List.replicate sz 0))[fi]? = some s0 := ⟨_, List.getElem?_eq_getElem (by rw [HSL.out]; exact hfi)⟩
          obtain ⟨g', e', -, hgs, hc, hcf⟩ := slot_cell (h := by have := TT6.out.slots; rw [HSL.out] at this; exact this) hs0
          simp at e'
          subst e'
          have T7 := hidden (tab_slot (t := ⟨E', fillT E' j (List.replicate sz 0), live, live, ser⟩) (g := gs) (c := sz) (by have := TT6.out; show TabAt _ _ _ _ (.slice _ (fillT E' j (List.replicate sz 0)).length _) _; rw [HSL.out]; exact this) fi ((j : Int) + 1))
          have hbz6 := blk_lt TT6.out.blk
          clear hs0
          go_wp2_with fail
          go_roundw
          case rel =>
            refine ⟨j + 1, hlt, by go_num, ?_, (HKr.out.trans HK6.out (fun _ _ h => h.elim)).trans T7.out.2 (fun _ _ h => h)⟩
            have h7 := T7.out.1
            rw [← HFT.out] at h7
            have e8 : (fillT E' j (List.replicate sz 0)).length = sz := HSL.out
            simpa only [e8] using h7
          case measure => simp [intOf]; omega
        · obtain rfl : j = E'.length := by omega
          go_wp2_with fail
          go_end0
          refine hR.out _ _ ⟨fun k => F k ∨ k = gs, m, rfl, hm2, hm, ?_, ⟨.slice Ae E'.length ce, .slice (some ⟨gs, 0, none⟩) sz sz, ?_⟩, KK5.out.trans HKr.out (fun i hi h => ?_), fun k h => ?_⟩
          · rw [HSZ.out]; exact HLT.out
          · rw [HSZ.out]; exact TTr.out
          · rcases h with h | h
            · exact h
            · have := HWW.out; omega
          · rcases h with h | h
            · exact .inl h
            · exact .inr (by have := HWW.out; omega)
end Go.Proofs.Ytpaefeknbpfpmaa
