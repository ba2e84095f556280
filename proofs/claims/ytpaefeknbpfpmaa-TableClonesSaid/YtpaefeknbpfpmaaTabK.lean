/- Layer 5: tables: gone through by cursors. -/
import Derived.Test.YtpaefeknbpfpmaaTabJ
namespace Go.Proofs.Ytpaefeknbpfpmaa
open Go.RowKit
set_option maxRecDepth 100000

theorem next_one (w : World) (F : Nat → Prop) (b bt bc : Nat) (t : Tb) (c : Int) (i : Nat) (h : IsTab w F b t) (hbt : w.cell? ⟨bt, 0, none⟩ = some (.pointer (some ⟨b, 0, none⟩))) (hbc : w.cell? ⟨bc, 0, none⟩ = some (.int .i64 c)) (hi : i < t.E.length) :
    Calls Try.prog 66 #[.int .i64 i, .pointer (some ⟨bt, 0, none⟩), .pointer (some ⟨bc, 0, none⟩)] w fun e w' => e = .returned (.bool (decide (c < t.E[i].ser))) ∧ Drew w w' := by
  obtain ⟨ve, vs, hT⟩ := h
  obtain ⟨Ae, ce, rfl⟩ := hT.ents.form
  obtain ⟨ge, oe, rfl, ⟨-, -, -, -, -, -, e6, -⟩⟩ := Ents.own hT.ents.1 i t.E[i] (List.getElem?_eq_getElem hi)
  have b0 := blk_cell hT.blk 0
  simp only [List.getElem?_toArray, List.getElem?_cons_zero, List.getElem?_cons_succ] at b0
  have h1 := World.block_lt_of_cell? w _ hbt
  have hi2 : (i : Int) < (t.E.length : Int) := by omega
  clear hT
  generalize t.E[i] = x at *
  refine post_gen fun R hR => ?_
  go_enter Try.func66, Try.ntmps66
  go_wp2_with fail
  go_quiet (fail)
  go_wp2_with fail
  exact hR.out _ _ ⟨rfl, ⟨nq, rfl⟩⟩
set_option maxHeartbeats 1000000 in
theorem search_next (w : World) (F : Nat → Prop) (b bt bc : Nat) (t : Tb) (c : Int) (h : IsTab w F b t) (hbt : w.cell? ⟨bt, 0, none⟩ = some (.pointer (some ⟨b, 0, none⟩))) (hbc : w.cell? ⟨bc, 0, none⟩ = some (.int .i64 c)) (hl : t.E.length ≤ 1073741824) (hso : ∀ (i j : Nat) (hij : i < j) (hj : j < t.E.length), t.E[i].ser < t.E[j].ser) :
    Calls Try.prog 65 #[.int .i64 t.E.length, .func (.func 66) #[] #[.pointer (some ⟨bt, 0, none⟩), .pointer (some ⟨bc, 0, none⟩)]] w fun e w' => ∃ i : Nat, e = .returned (.int .i64 i) ∧ i ≤ t.E.length ∧ (∀ (j : Nat) (hj : j < t.E.length), j < i → t.E[j].ser ≤ c) ∧ (∀ (j : Nat) (hj : j < t.E.length), i ≤ j → c < t.E[j].ser) ∧ Drew w w' := by
  have key := hidden (fun (W : World) (i : Nat) (hi : i < t.E.length) (hd : Drew w W) => next_one W F b bt bc t c i (h.none (hd.keeps _)) ((hd.keeps (fun _ => False)).cell hbt (fun h => h)) ((hd.keeps (fun _ => False)).cell hbc (fun h => h)) hi)
  have HSO := hidden hso
  clear h hbt hbc hso
  refine post_gen fun R hR => ?_
  go_enter Try.func65, Try.ntmps65
  go_wp2_with fail
  go_loopw [5, 6] (fun i j wr => ∃ (p q : Nat), p ≤ q ∧ q ≤ t.E.length ∧ i = .int .i64 p ∧ j = .int .i64 q ∧ Hid (∀ (k : Nat) (hk : k < t.E.length), k < p → t.E[k].ser ≤ c) ∧ Hid (∀ (k : Nat) (hk : k < t.E.length), q ≤ k → c < t.E[k].ser) ∧ Drew w wr) (fun i j _ => (intOf j).toNat - (intOf i).toNat)
  case atStart => exact ⟨0, t.E.length, Nat.zero_le _, Nat.le_refl _, rfl, rfl, hidden (fun k hk h => absurd h (by omega)), hidden (fun k hk h => absurd h (by omega)), Drew.refl _⟩
  case round =>
    obtain ⟨p, q, hpq, hq, rfl, rfl, HL, HG, hD⟩ := hrel
    have HD := hidden hD
    by_cases hlt : p < q
    · obtain ⟨m, hm⟩ : ∃ m : Nat, m = (p + q) / 2 := ⟨_, rfl⟩
      have hm1 : p ≤ m := by omega
      have hm2 : m < q := by omega
      have hme : m < t.E.length := by omega
      have w0 : IntKind.i64.wrap ((p : Int) + (q : Int)) = (p : Int) + (q : Int) := by rw [IntKind.wrap_i64]; omega
      have w1 : IntKind.u64.wrap ((p : Int) + (q : Int)) = (p : Int) + (q : Int) := by rw [IntKind.wrap_u64]; omega
      have w2 : ((p : Int) + (q : Int)) / 2 = (m : Int) := by omega
      have w3 : IntKind.i64.wrap (m : Int) = (m : Int) := by rw [IntKind.wrap_i64]; omega
      have w4 : IntKind.i64.wrap ((m : Int) + 1) = (m : Int) + 1 := by rw [IntKind.wrap_i64]; omega
      have w5 : (p : Int) < (q : Int) := by omega
      have kk := hidden (fun W hd => key.out W m hme hd)
      have HM := hidden (fun k (hk : k < t.E.length) => HSO.out k m)
      clear hm hD
      by_cases hc : c < t.E[m].ser
      · have hdc : decide (c < t.E[m].ser) = true := decide_eq_true hc
        rw [hdc] at kk
        have HC := hidden hc
        clear hdc hc
        go_wp2_with fail
        refine (kk.out _ HD.out).mono ?_
        rintro e w9 ⟨rfl, hD9⟩
        have HD9 := hidden (HD.out.trans hD9)
        clear hD9 kk
        go_wp2_with fail
        go_roundw
        case rel =>
          refine ⟨p, m, hm1, by omega, rfl, by go_num, HL, hidden (fun k hk h => ?_), HD9.out⟩
          by_cases hkm : k = m
          · subst hkm; exact HC.out
          · have := HSO.out m k (by omega) hk; have := HC.out; omega
        case measure => simp [intOf]; omega
      · have hdc : decide (c < t.E[m].ser) = false := decide_eq_false hc
        rw [hdc] at kk
        have HC := hidden hc
        clear hdc hc
        go_wp2_with fail
        refine (kk.out _ HD.out).mono ?_
        rintro e w9 ⟨rfl, hD9⟩
        have HD9 := hidden (HD.out.trans hD9)
        clear hD9 kk
        go_wp2_with fail
        go_roundw
        case rel =>
          refine ⟨m + 1, q, hm2, hq, by go_num, rfl, hidden (fun k hk h => ?_), HG, HD9.out⟩
          have hc := HC.out
          by_cases hkm : k = m
          · subst hkm; omega
          · have := HSO.out k m (by omega) hme; omega
        case measure => simp [intOf]; omega
    · obtain rfl : p = q := by omega
      go_wp2_with fail
      exact hR.out _ _ ⟨p, rfl, hq, HL.out, HG.out, HD.out⟩
end Go.Proofs.Ytpaefeknbpfpmaa
