/- Layer 5: slices.DeleteFunc over entries that are gone. -/
import Derived.Test.YtpaefeknbpfpmaaTabB
namespace Go.Proofs.Ytpaefeknbpfpmaa
open Go.RowKit
set_option maxRecDepth 100000

def stay (E : List Ent) : List Ent := E.filter (fun e => !e.gone)
theorem stay_take {E : List Ent} {p : Nat} (hp : p < E.length) : stay (E.take (p + 1)) = stay (E.take p) ++ (if E[p].gone then [] else [E[p]]) := by
  rw [List.take_succ_eq_append_getElem hp, stay, List.filter_append]
  congr 1
  cases hg : E[p].gone <;> simp [hg]
theorem stay_le (E : List Ent) (p : Nat) : (stay (E.take p)).length ≤ p := by
  have := List.length_filter_le (fun e : Ent => !e.gone) (E.take p)
  simp only [stay]
  have h2 : (E.take p).length ≤ p := by simp; omega
  omega
theorem stay_none {E : List Ent} (h : E.any (·.gone) = false) : stay E = E := by
  rw [stay, List.filter_eq_self]
  intro x hx
  have := List.any_eq_false.1 h x hx
  simpa using this
/-- A variable of an entry's type, at block r. -/
def IsEnt (w : World) (r : Nat) (e : Ent) : Prop := w.heap[r]? = some e.obj
/-- What the row holds while it is gone through: what stays of the first p, and behind it what stood there. -/
def mixed (E : List Ent) (p : Nat) : List Ent := stay (E.take p) ++ E.drop (stay (E.take p)).length
theorem mixed_length (E : List Ent) (p : Nat) (hp : p ≤ E.length) : (mixed E p).length = E.length := by
  have := stay_le E p
  simp [mixed]; omega
theorem mixed_at {E : List Ent} {p : Nat} (hp : p < E.length) : (mixed E p)[p]? = some E[p] := by
  have h := stay_le E p
  rw [mixed, List.getElem?_append_right h, List.getElem?_drop]
  rw [show (stay (E.take p)).length + (p - (stay (E.take p)).length) = p by omega, List.getElem?_eq_getElem hp]
theorem mixed_gone {E : List Ent} {p : Nat} (hp : p < E.length) (hg : E[p].gone = true) : mixed E (p + 1) = mixed E p ∧ (stay (E.take (p + 1))).length = (stay (E.take p)).length := by
  have h : stay (E.take (p + 1)) = stay (E.take p) := by rw [stay_take hp, hg]; simp
  rw [mixed, mixed, h]
  exact ⟨rfl, rfl⟩
theorem mixed_stay {E : List Ent} {p : Nat} (hp : p < E.length) (hg : E[p].gone = false) : (mixed E p).set (stay (E.take p)).length E[p] = mixed E (p + 1) ∧ (stay (E.take (p + 1))).length = (stay (E.take p)).length + 1 := by
  have h : stay (E.take (p + 1)) = stay (E.take p) ++ [E[p]] := by rw [stay_take hp, hg]; rfl
  have hle := stay_le E p
  rw [mixed, mixed, h]
  refine ⟨?_, by simp⟩
  rw [List.set_append_right _ _ (Nat.le_refl _), Nat.sub_self, List.length_append]
  rw [List.append_assoc]
  congr 1
  rw [List.drop_eq_getElem_cons (by omega : (stay (E.take p)).length < E.length)]
  rfl
theorem stay_first {E : List Ent} (h : E.any (·.gone) = true) : ∃ k : Nat, k < E.length ∧ firstGone E = k ∧ stay (E.take (k + 1)) = E.take k ∧ mixed E (k + 1) = E ∧ (stay E).length < E.length := by
  have hk : E.findIdx (·.gone) < E.length := List.findIdx_lt_length.2 (by obtain ⟨x, hx, hg⟩ := List.any_eq_true.1 h; exact ⟨x, hx, hg⟩)
  have hg : E[E.findIdx (·.gone)].gone = true := List.findIdx_getElem (w := hk)
  have hn : (E.take (E.findIdx (·.gone))).any (·.gone) = false := by
    rw [List.any_eq_false]
    intro x hx
    obtain ⟨j, hj, rfl⟩ := List.mem_take_iff_getElem.1 hx
    have hj2 : j < E.findIdx (·.gone) := by omega
    have := List.not_of_lt_findIdx hj2
    simpa using this
  refine ⟨_, hk, by rw [firstGone, if_pos h], ?_, ?_, ?_⟩
  · rw [stay_take hk, hg, stay_none hn]; simp
  · have e : stay (E.take (E.findIdx (·.gone) + 1)) = E.take (E.findIdx (·.gone)) := by rw [stay_take hk, hg, stay_none hn]; simp
    rw [mixed, e]
    have : (E.take (E.findIdx (·.gone))).length = E.findIdx (·.gone) := by simp; omega
    rw [this, List.take_append_drop]
  · have h1 := stay_le E E.length
    have h2 := (mixed_gone hk hg).2
    have e : stay E = stay (E.take E.length) := by rw [List.take_length]
    have mono : ∀ p q : Nat, p ≤ q → q ≤ E.length → (stay (E.take q)).length ≤ (stay (E.take p)).length + (q - p) := by
      intro p q hpq
      induction q with
      | zero => intro _; simp at hpq; subst hpq; simp
      | succ q ih =>
        intro hq
        by_cases h : p = q + 1
        · subst h; simp
        · have := ih (by omega) (by omega)
          rw [stay_take (by omega), List.length_append]
          split <;> simp <;> omega
    have h3 := mono (E.findIdx (·.gone) + 1) E.length (by omega) (Nat.le_refl _)
    have h4 := stay_le E (E.findIdx (·.gone))
    rw [e]
    omega

theorem zeros_ent (k : Nat) : (Builtin.zeroCells (Value.agg #[.int .i64 0, .int .i64 0, .string ⟨#[]⟩, .int .i64 0, .int .i64 0, .string ⟨#[]⟩, .int .i64 0, .bool false]).cells k).toList.length = k * 8 := by simp [Builtin.zeroCells, Value.cells]
theorem laid_take' {L : List Value} {o : Nat} {cs : List Value} (h : o ≤ L.length) : (laid L o cs).toList.take o = L.take o := by
  show (List.toArray _).toList.take o = _
  rw [List.toList_toArray, List.append_assoc, List.take_append_of_le_length (by rw [List.length_take]; omega), List.take_take, Nat.min_self]
set_option maxHeartbeats 4000000 in
theorem delete_gone (w : World) (F : Nat → Prop) (A : Option Addr) (c : Nat) (E : List Ent) (h : Row w F 114 8 (.slice A E.length c) E.length (flatE E)) (hl : E.length ≤ 1073741824) :
    Calls Try.prog 99 #[.slice A E.length c, .func (.func 100) #[] #[]] w fun e w' => e = .returned (.slice A (stay E).length c) ∧ Row w' F 114 8 (.slice A (stay E).length c) (stay E).length (flatE (stay E)) ∧ Keeps (fun k => (Value.slice A E.length c).ownBlock = some k) w w' := by
  have H := hidden h
  have key := hidden (index_gone w A c E (Ents.own h.1) hl)
  clear h
  refine post_gen fun R hR => ?_
  cases hany : E.any (·.gone) with
  | false =>
    have hs := stay_none hany
    rw [hs] at hR
    rw [firstGone_none hany] at key
    clear hany
    go_enter Try.func99, Try.ntmps99
    go_wp2_with fail
    refine key.out.mono ?_
    rintro e w1 ⟨rfl, hK⟩
    have HK := hidden hK
    clear hK
    go_wp2_with fail
    exact hR.out _ _ ⟨rfl, H.out.keeps HK.out (Apart.no _), HK.out.mono (fun _ _ h => h.elim)⟩
  | true =>
    obtain ⟨k, hk, hf, hsk, hmx, hlt0⟩ := stay_first hany
    rw [hf] at key
    clear hany hf
    obtain ⟨g, cur0, rfl, hFg, hg0, hnc, hcm, hcs0, htk0⟩ := H.out.blk (by omega)
    clear hg0 hcs0 htk0
    have HSK := hidden hsk
    have HMX := hidden hmx
    have hlk : (stay (E.take (k + 1))).length = k := by rw [hsk]; simp; omega
    have hkw : IntKind.i64.wrap ((k : Int) + 1) = (k : Int) + 1 := by rw [IntKind.wrap_i64]; omega
    have hk1 : ((k : Int) == -1) = false := by rw [beq_eq_false_iff_ne]; omega
    have HLK := hidden hlk
    clear hsk hmx hlk
    go_enter Try.func99, Try.ntmps99
    go_wp2_with fail
    refine key.out.mono ?_
    rintro e w1 ⟨rfl, hK⟩
    have HK1 := hidden hK
    have HR1 := hidden (H.out.keeps hK (Apart.no _))
    clear hK key
    go_wp2_with fail
    go_loopw [5, 6] (fun i j wr => ∃ (a p : Nat), p ≤ E.length ∧ a ≤ p ∧ a = (stay (E.take p)).length ∧ i = .int .i64 a ∧ j = .int .i64 p ∧ Row wr F 114 8 (.slice (some ⟨g, 0, none⟩) E.length c) E.length (flatE (mixed E p)) ∧ Keeps (fun j => j = g) w wr) (fun _ j _ => E.length - (intOf j).toNat)
    case atStart =>
      refine ⟨k, k + 1, hk, by omega, HLK.out.symm, rfl, by go_num, ?_, HK1.out.mono (fun _ _ h => h.elim)⟩
      rw [HMX.out]
      exact HR1.out
    case round =>
      obtain ⟨a, p, hp, hap, ha, rfl, rfl, hrow, hK⟩ := hrel
      have HR := hidden hrow
      have HA := hidden ha
      have HK := hidden hK
      have hml := mixed_length E p hp
      clear ha
      by_cases hlt : p < E.length
      · obtain ⟨ge, oe, he0, hea⟩ := Ents.own hrow.1 p E[p] (mixed_at hlt)
        simp at he0
        obtain ⟨rfl, rfl⟩ := he0
        obtain ⟨g', he0, -, hgw, -, hfz⟩ := hrow.open8 (i := a) (by omega)
        simp at he0
        subst he0
        obtain ⟨e0, e1, e2, e3, e4, e5, e6, e7⟩ := hea
        obtain ⟨g', he0, -, -, ⟨q0, q1, q2, q3, q4, q5, q6, q7⟩, -⟩ := hrow.open8 (i := a) (by omega)
        simp at he0
        subst he0
        simp only [Nat.zero_add] at e0 e1 e2 e3 e4 e5 e6 e7 q0 q1 q2 q3 q4 q5 q6 q7
        have f0 := hfz (a * 8)
        have f1 := hfz (a * 8 + 1)
        have f2 := hfz (a * 8 + 2)
        have f3 := hfz (a * 8 + 3)
        have f4 := hfz (a * 8 + 4)
        have f5 := hfz (a * 8 + 5)
        have f6 := hfz (a * 8 + 6)
        have f7 := hfz (a * 8 + 7)
        have hmg := hidden (fun h => mixed_gone hlt h)
        have hms := hidden (fun h => mixed_stay hlt h)
        have keyc := hidden (fun W => rehash_gone W E[p])
        unfold Ent.agg at keyc
        have hpw : IntKind.i64.wrap ((p : Int) + 1) = (p : Int) + 1 := by rw [IntKind.wrap_i64]; omega
        have haw : IntKind.i64.wrap ((a : Int) + 1) = (a : Int) + 1 := by rw [IntKind.wrap_i64]; omega
        have hal : a < E.length := by omega
        clear hrow hK hfz
        generalize hy : (mixed E p)[a] = y at *
        cases hg : E[p].gone with
        | true =>
          rw [hg] at e7
          simp only [hg] at keyc
          have hm2 := hmg.out hg
          have HM1 := hidden hm2.1
          have HM2 := hidden hm2.2
          clear hm2 hmg hms hg hy
          generalize E[p] = x at *
          go_wp2_with fail
          refine (keyc.out _).mono ?_
          rintro e w2 ⟨rfl, hK⟩
          have HK2 := hidden (show Keeps (fun _ => False) wr w2 from ((Keeps.refl _ wr).alloc _).trans hK (fun _ _ h => h))
          clear hK
          go_wp2_with fail
          go_roundw
          case rel => exact ⟨a, p + 1, hlt, by omega, by rw [HM2.out]; exact HA.out, rfl, by go_num, by rw [HM1.out]; exact HR.out.keeps HK2.out (Apart.no _), HK.out.trans HK2.out (fun _ _ h => h.elim)⟩
          case measure => simp [intOf]; omega
        | false =>
          rw [hg] at e7
          simp only [hg] at keyc
          have hm2 := hms.out hg
          rw [← HA.out] at hm2
          have HM1 := hidden hm2.1
          have HM2 := hidden hm2.2
          clear hm2 hmg hms hy
          generalize E[p] = x at *
          obtain ⟨xk, xv, xs, xg⟩ := x
          simp only at *
          subst hg
          have HB := hidden (show IsEnt (wr.alloc (Ent.obj ⟨xk, xv, xs, false⟩)) wr.heap.size ⟨xk, xv, xs, false⟩ from blk_new _ _)
          go_wp2_with fail
          refine (keyc.out _).mono ?_
          rintro e w2 ⟨rfl, hK⟩
          have HK2 := hidden (show Keeps (fun _ => False) wr w2 from ((Keeps.refl _ wr).alloc _).trans hK (fun _ _ h => h))
          have HB2 := hidden (show IsEnt w2 wr.heap.size ⟨xk, xv, xs, false⟩ from hK.heap HB.out (fun h => h))
          have x0 := blk_cell HB2.out 0
          have x1 := blk_cell HB2.out 1
          have x2 := blk_cell HB2.out 2
          have x3 := blk_cell HB2.out 3
          have x4 := blk_cell HB2.out 4
          have x5 := blk_cell HB2.out 5
          have x6 := blk_cell HB2.out 6
          have x7 := blk_cell HB2.out 7
          simp only [List.getElem?_toArray, List.getElem?_cons_zero, List.getElem?_cons_succ] at x0 x1 x2 x3 x4 x5 x6 x7
          have hbx := blk_lt HB2.out
          have HR2 := hidden (HR.out.keeps HK2.out (Apart.no _))
          clear e0 e1 e2 e3 e4 e5 e6 e7 q0 q1 q2 q3 q4 q5 q6 q7 f0 f1 f2 f3 f4 f5 f6 f7 hK keyc
          obtain ⟨g', he0, -, hgw2, ⟨q0, q1, q2, q3, q4, q5, q6, q7⟩, hfz⟩ := HR2.out.open8 (i := a) (by omega)
          simp at he0
          subst he0
          simp only [Nat.zero_add] at q0 q1 q2 q3 q4 q5 q6 q7
          have f0 := hfz (a * 8)
          have f1 := hfz (a * 8 + 1)
          have f2 := hfz (a * 8 + 2)
          have f3 := hfz (a * 8 + 3)
          have f4 := hfz (a * 8 + 4)
          have f5 := hfz (a * 8 + 5)
          have f6 := hfz (a * 8 + 6)
          have f7 := hfz (a * 8 + 7)
          clear hfz
          have HT := hidden (HR2.out.put8 (i := a) (by omega) ⟨xk, xv, xs, false⟩)
          rw [HM1.out] at HT
          have HKT := hidden (HK.out.trans (HK2.out.mono (T := fun j => j = g) (fun _ _ h => h.elim)) (fun _ _ h => h))
          have HKU := hidden (HKT.out.trans (((SameBut.refl g w2).put8 a ⟨xk, xv, xs, false⟩).keeps) (fun _ _ h => h))
          go_wp2_with fail
          go_roundw
          case rel => exact ⟨a + 1, p + 1, hlt, by omega, by rw [HM2.out], by go_num, by go_num, HT.out, HKU.out⟩
          case measure => simp [intOf]; omega
      · obtain rfl : p = E.length := by omega
        have hst : stay (E.take E.length) = stay E := by rw [List.take_length]
        have ha2 := HA.out
        rw [hst] at ha2
        have HA2 := hidden ha2
        have hr2 := HR.out
        obtain ⟨g', cur, he0, -, hg1, -, -, hcs, htk⟩ := hr2.blk (by omega)
        simp at he0
        subst he0
        have HG := hidden hg1
        have HTK := hidden htk
        have hcs' : cur.toList.length = c * 8 := by simpa using hcs
        have HF := hidden (show a * 8 + (E.length - a) * 8 ≤ cur.size by rw [hcs]; omega)
        have hac : a ≤ c := by omega
        have hac2 : (a : Int) ≤ (c : Int) := by omega
        have hac3 : ¬ c = a := by omega
        have hac4 : (a : Int) ≤ (E.length : Int) := by omega
        have hal : a < E.length := by omega
        clear hg1 htk hr2 ha2 hst hrow hK
        go_wp2_with (refine clear_list rfl _ _ _ rfl _ 8 80 Try.underlying108 info_ent rfl (by decide) (g := g) (go' := a * 8) (n := E.length - a) (c := c - a) rfl (a * 8) (E.length - a) rfl rfl (by omega) cur _ HG.out HF.out ?_; intro w2 hg2 hk2; have HG2 := hidden hg2; have HK2 := hidden hk2; clear hg2 hk2)
        have hL2 : (laid cur.toList (a * 8) (Builtin.zeroCells (Value.agg #[.int .i64 0, .int .i64 0, .string ⟨#[]⟩, .int .i64 0, .int .i64 0, .string ⟨#[]⟩, .int .i64 0, .bool false]).cells (E.length - a)).toList).size = c * 8 := by rw [laid_size (by rw [zeros_ent, hcs']; omega), hcs']
        have hfin : Row w2 F 114 8 (.slice (some ⟨g, 0, none⟩) a c) a (flatE (stay E)) := by
          refine Row.ofBlk HG2.out hFg hac hcm hL2 ?_
          rw [laid_take' (by rw [hcs']; omega)]
          have h1 : cur.toList.take (a * 8) = (cur.toList.take (E.length * 8)).take (a * 8) := by
            rw [List.take_take]; congr 1; omega
          have h2 : stay (E.take E.length) = stay E := by rw [List.take_length]
          rw [h1, HTK.out, flatE_take, mixed, h2]
          congr 1
          rw [HA2.out, List.take_left]
        refine hR.out _ _ ⟨?_, ?_, (HK.out.trans HK2.out (fun _ _ h => h)).mono (fun k _ e => by simp [Value.ownBlock, e])⟩
        · rw [← HA2.out]; rfl
        · rw [← HA2.out]; exact hfin
end Go.Proofs.Ytpaefeknbpfpmaa
