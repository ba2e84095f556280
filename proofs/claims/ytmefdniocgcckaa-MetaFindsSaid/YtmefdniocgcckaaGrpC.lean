/- Texts that belong together: TabJ TabK TabL TabP TabQ TabR. -/
import Derived.Test.YtmefdniocgcckaaZTabI
set_option linter.unusedSimpArgs false
set_option linter.unusedVariables false
/- Layer 5: tables: Set, Clear, Next. -/
namespace Go.Proofs.Ytmefdniocgcckaa
open Go.RowKit
set_option maxRecDepth 100000

end Go.Proofs.Ytmefdniocgcckaa
/- Layer 5: tables: gone through by cursors. -/
namespace Go.Proofs.Ytmefdniocgcckaa
open Go.RowKit
set_option maxRecDepth 100000

theorem next_one (w : World) (F : Nat → Prop) (b bt bc : Nat) (t : Tb) (c : Int) (i : Nat) (h : IsTab w F b t) (hbt : w.cell? ⟨bt, 0, none⟩ = some (.pointer (some ⟨b, 0, none⟩))) (hbc : w.cell? ⟨bc, 0, none⟩ = some (.int .i64 c)) (hi : i < t.E.length) :
    Calls Try.prog 63 #[.int .i64 i, .pointer (some ⟨bt, 0, none⟩), .pointer (some ⟨bc, 0, none⟩)] w fun e w' => e = .returned (.bool (decide (c < t.E[i].ser))) ∧ Drew w w' := by
  obtain ⟨ve, vs, hT⟩ := h
  obtain ⟨Ae, ce, rfl⟩ := hT.ents.form
  obtain ⟨ge, oe, rfl, ⟨-, -, -, -, -, -, e6, -⟩⟩ := Ents.own hT.ents.1 i t.E[i] (List.getElem?_eq_getElem hi)
  have b0 := blk_cell hT.blk 0
  simp only [List.getElem?_toArray, List.getElem?_cons_zero, List.getElem?_cons_succ] at b0
  have h1 := World.block_lt_of_cell? w _ hbt
  have hi2 : (i : Int) < (t.E.length : Int) := by omega
  clear hT
  generalize t.E[i] = x at *
  refine post_gen fun R hR => ?_
  go_enter Try.func63, Try.ntmps63
  go_wp2_with fail
  go_quiet (fail)
  go_wp2_with fail
  exact hR.out _ _ ⟨rfl, ⟨nq, rfl⟩⟩
set_option maxHeartbeats 1000000 in
theorem search_next (w : World) (F : Nat → Prop) (b bt bc : Nat) (t : Tb) (c : Int) (h : IsTab w F b t) (hbt : w.cell? ⟨bt, 0, none⟩ = some (.pointer (some ⟨b, 0, none⟩))) (hbc : w.cell? ⟨bc, 0, none⟩ = some (.int .i64 c)) (hl : t.E.length ≤ 1073741824) (hso : ∀ (i j : Nat) (hij : i < j) (hj : j < t.E.length), t.E[i].ser < t.E[j].ser) :
    Calls Try.prog 62 #[.int .i64 t.E.length, .func (.func 63) #[] #[.pointer (some ⟨bt, 0, none⟩), .pointer (some ⟨bc, 0, none⟩)]] w fun e w' => ∃ i : Nat, e = .returned (.int .i64 i) ∧ i ≤ t.E.length ∧ (∀ (j : Nat) (hj : j < t.E.length), j < i → t.E[j].ser ≤ c) ∧ (∀ (j : Nat) (hj : j < t.E.length), i ≤ j → c < t.E[j].ser) ∧ Drew w w' := by
  have key := hidden (fun (W : World) (i : Nat) (hi : i < t.E.length) (hd : Drew w W) => next_one W F b bt bc t c i (h.none (hd.keeps _)) ((hd.keeps (fun _ => False)).cell hbt (fun h => h)) ((hd.keeps (fun _ => False)).cell hbc (fun h => h)) hi)
  have HSO := hidden hso
  clear h hbt hbc hso
  refine post_gen fun R hR => ?_
  go_enter Try.func62, Try.ntmps62
  go_wp2_with fail
  go_loopw [5, 6] (fun i j wr => ∃ (p q : Nat), p ≤ q ∧ q ≤ t.E.length ∧ i = .int .i64 p ∧ j = .int .i64 q ∧ Hid (∀ (k : Nat) (hk : k < t.E.length), k < p → t.E[k].ser ≤ c) ∧ Hid (∀ (k : Nat) (hk : k < t.E.length), q ≤ k → c < t.E[k].ser) ∧ Drew w wr) (fun i j _ => (intOf j).toNat - (intOf i).toNat)
  case atStart => exact ⟨0, t.E.length, Nat.zero_le _, Nat.le_refl _, rfl, rfl, hidden (fun k hk h => absurd h (by omega)), hidden (fun k hk h => absurd h (by omega)), Drew.refl _⟩
  case round =>
    obtain ⟨p, q, hpq, hq, rfl, rfl, HL, HG, hD⟩ := hrel
    have HD := hidden hD
    by_cases hlt : p < q
    · obtain ⟨m, hm⟩ : ∃ m : Nat, m = (p + q) / 2 := ⟨_, rfl⟩
      have hm1 : p ≤ m := by omega
      have hm2 : m < q := by omega
      have hme : m < t.E.length := by omega
      have w0 : IntKind.i64.wrap ((p : Int) + (q : Int)) = (p : Int) + (q : Int) := by rw [IntKind.wrap_i64]; omega
      have w1 : IntKind.u64.wrap ((p : Int) + (q : Int)) = (p : Int) + (q : Int) := by rw [IntKind.wrap_u64]; omega
      have w2 : ((p : Int) + (q : Int)) / 2 = (m : Int) := by omega
      have w3 : IntKind.i64.wrap (m : Int) = (m : Int) := by rw [IntKind.wrap_i64]; omega
      have w4 : IntKind.i64.wrap ((m : Int) + 1) = (m : Int) + 1 := by rw [IntKind.wrap_i64]; omega
      have w5 : (p : Int) < (q : Int) := by omega
      have kk := hidden (fun W hd => key.out W m hme hd)
      have HM := hidden (fun k (hk : k < t.E.length) => HSO.out k m)
      clear hm hD
      by_cases hc : c < t.E[m].ser
      · have hdc : decide (c < t.E[m].ser) = true := decide_eq_true hc
        rw [hdc] at kk
        have HC := hidden hc
        clear hdc hc
        go_wp2_with fail
        refine (kk.out _ HD.out).mono ?_
        rintro e w9 ⟨rfl, hD9⟩
        have HD9 := hidden (HD.out.trans hD9)
        clear hD9 kk
        go_wp2_with fail
        go_roundw
        case rel =>
          refine ⟨p, m, hm1, by omega, rfl, by go_num, HL, hidden (fun k hk h => ?_), HD9.out⟩
          by_cases hkm : k = m
          · subst hkm; exact HC.out
          · have := HSO.out m k (by omega) hk; have := HC.out; omega
        case measure => simp [intOf]; omega
      · have hdc : decide (c < t.E[m].ser) = false := decide_eq_false hc
        rw [hdc] at kk
        have HC := hidden hc
        clear hdc hc
        go_wp2_with fail
        refine (kk.out _ HD.out).mono ?_
        rintro e w9 ⟨rfl, hD9⟩
        have HD9 := hidden (HD.out.trans hD9)
        clear hD9 kk
        go_wp2_with fail
        go_roundw
        case rel =>
          refine ⟨m + 1, q, hm2, hq, by go_num, rfl, hidden (fun k hk h => ?_), HG, HD9.out⟩
          have hc := HC.out
          by_cases hkm : k = m
          · subst hkm; omega
          · have := HSO.out k m (by omega) hme; omega
        case measure => simp [intOf]; omega
    · obtain rfl : p = q := by omega
      go_wp2_with fail
      exact hR.out _ _ ⟨p, rfl, hq, HL.out, HG.out, HD.out⟩
end Go.Proofs.Ytmefdniocgcckaa
/- Layer 5: tables: the next key. -/
namespace Go.Proofs.Ytmefdniocgcckaa
open Go.RowKit
set_option maxRecDepth 100000

/-- The first entry behind a cursor that isn't gone. -/
def nextT (E : List Ent) (c : Int) : Option Ent := E.find? (fun e => decide (c < e.ser) && !e.gone)
def nextAns (E : List Ent) (c : Int) : Value :=
  match nextT E c with
  | some x => .tuple #[.int .i64 x.ser, x.key.val, x.val.val, .bool true]
  | none => .tuple #[.int .i64 c, V.val V.null, V.val V.null, .bool false]
theorem Ents.sub {w : World} {A : Option Addr} {E : List Ent} (h : Ents w A E) (i : Nat) : Ents w (Option.map (fun x => x.add (i * 8)) A) (E.drop i) := fun j x hj => by
  rw [List.getElem?_drop] at hj
  obtain ⟨g, o, rfl, hx⟩ := h (i + j) x hj
  refine ⟨g, o + i * 8, by simp [add_at3], ?_⟩
  have e : o + (i + j) * 8 = o + i * 8 + j * 8 := by omega
  obtain ⟨h0, h1, h2, h3, h4, h5, h6, h7⟩ := hx
  rw [e] at h0 h1 h2 h3 h4 h5 h6 h7
  exact ⟨h0, h1, h2, h3, h4, h5, h6, h7⟩
theorem two_vars {w : World} {r q : Nat} {x y : V} (h1 : IsVar w r V.null) (h2 : IsVar w q V.null) (hn : r ≠ q) (o : Obj) :
    IsVar (((((((w.setCell ⟨r, 0, none⟩ (.int .i64 x.k)).setCell ⟨r, 1, none⟩ (.int .i64 x.n)).setCell ⟨r, 2, none⟩ (.string x.t)).setCell ⟨q, 0, none⟩ (.int .i64 y.k)).setCell ⟨q, 1, none⟩ (.int .i64 y.n)).setCell ⟨q, 2, none⟩ (.string y.t)).alloc o) r x ∧
    IsVar (((((((w.setCell ⟨r, 0, none⟩ (.int .i64 x.k)).setCell ⟨r, 1, none⟩ (.int .i64 x.n)).setCell ⟨r, 2, none⟩ (.string x.t)).setCell ⟨q, 0, none⟩ (.int .i64 y.k)).setCell ⟨q, 1, none⟩ (.int .i64 y.n)).setCell ⟨q, 2, none⟩ (.string y.t)).alloc o) q y := by
  refine ⟨blk_alloc (blk_far (p := ⟨q, 2, none⟩) (blk_far (p := ⟨q, 1, none⟩) (blk_far (p := ⟨q, 0, none⟩) (h1.set x) hn _) hn _) hn _) o, ?_⟩
  have h3 : IsVar (((w.setCell ⟨r, 0, none⟩ (.int .i64 x.k)).setCell ⟨r, 1, none⟩ (.int .i64 x.n)).setCell ⟨r, 2, none⟩ (.string x.t)) q V.null := blk_far (p := ⟨r, 2, none⟩) (blk_far (p := ⟨r, 1, none⟩) (blk_far (p := ⟨r, 0, none⟩) h2 (fun e => hn e.symm) _) (fun e => hn e.symm) _) (fun e => hn e.symm) _
  exact blk_alloc (h3.set y) o
theorem two_vars0 {w : World} {r q : Nat} {x y : V} (h1 : IsVar w r V.null) (h2 : IsVar w q V.null) (hn : r ≠ q) :
    IsVar ((((((w.setCell ⟨r, 0, none⟩ (.int .i64 x.k)).setCell ⟨r, 1, none⟩ (.int .i64 x.n)).setCell ⟨r, 2, none⟩ (.string x.t)).setCell ⟨q, 0, none⟩ (.int .i64 y.k)).setCell ⟨q, 1, none⟩ (.int .i64 y.n)).setCell ⟨q, 2, none⟩ (.string y.t)) r x ∧
    IsVar ((((((w.setCell ⟨r, 0, none⟩ (.int .i64 x.k)).setCell ⟨r, 1, none⟩ (.int .i64 x.n)).setCell ⟨r, 2, none⟩ (.string x.t)).setCell ⟨q, 0, none⟩ (.int .i64 y.k)).setCell ⟨q, 1, none⟩ (.int .i64 y.n)).setCell ⟨q, 2, none⟩ (.string y.t)) q y := by
  refine ⟨blk_far (p := ⟨q, 2, none⟩) (blk_far (p := ⟨q, 1, none⟩) (blk_far (p := ⟨q, 0, none⟩) (h1.set x) hn _) hn _) hn _, ?_⟩
  have h3 : IsVar (((w.setCell ⟨r, 0, none⟩ (.int .i64 x.k)).setCell ⟨r, 1, none⟩ (.int .i64 x.n)).setCell ⟨r, 2, none⟩ (.string x.t)) q V.null := blk_far (p := ⟨r, 2, none⟩) (blk_far (p := ⟨r, 1, none⟩) (blk_far (p := ⟨r, 0, none⟩) h2 (fun e => hn e.symm) _) (fun e => hn e.symm) _) (fun e => hn e.symm) _
  exact h3.set y
/-- What comes behind: the entries from i on are those behind the cursor. -/
theorem nextT_drop {E : List Ent} {c : Int} {i : Nat} (hi : i ≤ E.length) (h1 : ∀ (j : Nat) (hj : j < E.length), j < i → E[j].ser ≤ c) (h2 : ∀ (j : Nat) (hj : j < E.length), i ≤ j → c < E[j].ser) : nextT E c = (E.drop i).find? (fun e => !e.gone) := by
  have e : E = E.take i ++ E.drop i := (List.take_append_drop i E).symm
  have n1 : (E.take i).find? (fun e => decide (c < e.ser) && !e.gone) = none := by
    rw [List.find?_eq_none]
    intro x hx
    obtain ⟨j, hj, rfl⟩ := List.mem_take_iff_getElem.1 hx
    have := h1 j (by omega) (by omega)
    simp; intro h; omega
  have n2 : ∀ L : List Ent, (∀ x ∈ L, c < x.ser) → L.find? (fun e => decide (c < e.ser) && !e.gone) = L.find? (fun e => !e.gone) := by
    intro L
    induction L with
    | nil => intro _; rfl
    | cons x l ih =>
      intro hL
      rw [List.find?_cons, List.find?_cons, ih (fun y hy => hL y (List.mem_cons_of_mem _ hy))]
      have := hL x (List.mem_cons_self ..)
      simp [this]
  rw [nextT]
  conv => lhs; rw [e]
  rw [List.find?_append, n1, Option.none_or]
  refine n2 _ fun x hx => ?_
  obtain ⟨j, hj, rfl⟩ := List.mem_iff_getElem.1 hx
  rw [List.getElem_drop]
  exact h2 _ (by simp at hj; omega) (by omega)
theorem find_skip {L : List Ent} {k : Nat} (h : ∀ (j : Nat) (hj : j < L.length), j < k → L[j].gone = true) (hk : k < L.length) (hg : L[k].gone = false) : L.find? (fun e => !e.gone) = some L[k] := by
  rw [List.find?_eq_some_iff_getElem]
  refine ⟨by simp [hg], k, hk, rfl, fun j hj => ?_⟩
  simp [h j (by omega) hj]
theorem find_none {L : List Ent} (h : ∀ (j : Nat) (hj : j < L.length), L[j].gone = true) : L.find? (fun e => !e.gone) = none := by
  rw [List.find?_eq_none]
  intro x hx
  obtain ⟨j, hj, rfl⟩ := List.mem_iff_getElem.1 hx
  simp [h j hj]
set_option maxHeartbeats 8000000 in
theorem table_Next (w : World) (F : Nat → Prop) (b : Nat) (t : Tb) (c : Int) (h : IsTab w F b t) (hl : t.E.length ≤ 1073741824) (hso : ∀ (i j : Nat) (hij : i < j) (hj : j < t.E.length), t.E[i].ser < t.E[j].ser) :
    Calls Try.prog 38 #[.pointer (some ⟨b, 0, none⟩), .int .i64 c] w fun e w' => e = .returned (nextAns t.E c) ∧ Keeps (fun _ => False) w w' := by
  have H := hidden h
  have key := hidden (fun (W : World) (bt bc : Nat) (hk : Keeps (fun _ => False) w W) h1 h2 => search_next W F b bt bc t c (h.none hk) h1 h2 hl hso)
  obtain ⟨ve, vs, hT⟩ := h
  obtain ⟨Ae, ce, rfl⟩ := hT.ents.form
  have HT := hidden hT
  have b0 := blk_cell hT.blk 0
  simp only [List.getElem?_toArray, List.getElem?_cons_zero] at b0
  have hbz := blk_lt hT.blk
  have hcap := hT.ents.cap
  have hb1 : b < w.heap.size + 1 := by omega
  have hb2 : b < w.heap.size + 1 + 1 := by omega
  have hb3 : b < w.heap.size + 1 + 1 + 1 := by omega
  clear hT hso
  obtain ⟨E, S, live, used, ser⟩ := t
  simp only at *
  refine post_gen fun R hR => ?_
  go_enter Try.func38, Try.ntmps38
  go_wp2_with fail
  obtain ⟨w4, hw4⟩ : ∃ w4, w4 = ((((w.alloc (.cells #[.pointer (some ⟨b, 0, none⟩)] 37)).alloc (.cells #[.int .i64 c] 2)).alloc (.cells #[.int .i64 0, .int .i64 0, .string ⟨#[]⟩] 29)).alloc (.cells #[.int .i64 0, .int .i64 0, .string ⟨#[]⟩] 29)) := ⟨_, rfl⟩
  have k1 : Keeps (fun _ => False) w (w.alloc (.cells #[.pointer (some ⟨b, 0, none⟩)] 37)) := (Keeps.refl _ w).alloc _
  have s1 : (w.alloc (.cells #[.pointer (some ⟨b, 0, none⟩)] 37)).heap.size = w.heap.size + 1 := by simp
  have HK4 := hidden (show Keeps (fun _ => False) w w4 from hw4 ▸ ((((Keeps.refl _ w).alloc _).alloc _).alloc _).alloc _)
  have HC0 := hidden (show w4.heap[w.heap.size]? = some (.cells #[.pointer (some ⟨b, 0, none⟩)] 37 (0, 0)) from hw4 ▸ blk_alloc (blk_alloc (blk_alloc (blk_new w _) _) _) _)
  have HC1 := hidden (show w4.heap[w.heap.size + 1]? = some (.cells #[.int .i64 c] 2 (0, 0)) from hw4 ▸ blk_alloc (blk_alloc (new2t w _ _) _) _)
  have HC2 := hidden (show IsVar w4 (w.heap.size + 1 + 1) V.null from hw4 ▸ blk_alloc (s1 ▸ new2t (w.alloc (.cells #[.pointer (some ⟨b, 0, none⟩)] 37)) _ _) _)
  have HC3 := hidden (show IsVar w4 (w.heap.size + 1 + 1 + 1) V.null from by
    have := new2t ((w.alloc (.cells #[.pointer (some ⟨b, 0, none⟩)] 37)).alloc (.cells #[.int .i64 c] 2)) (.cells #[.int .i64 0, .int .i64 0, .string ⟨#[]⟩] 29) (.cells #[.int .i64 0, .int .i64 0, .string ⟨#[]⟩] 29)
    rw [show ((w.alloc (.cells #[.pointer (some ⟨b, 0, none⟩)] 37)).alloc (.cells #[.int .i64 c] 2)).heap.size = w.heap.size + 1 + 1 by simp, ← hw4] at this
    exact this)
  rw [← hw4]
  clear hw4 k1 s1
  refine (key.out w4 w.heap.size (w.heap.size + 1) HK4.out (blk_cell HC0.out 0) (blk_cell HC1.out 0)).mono ?_
  rintro e w5 ⟨i, rfl, hi, hlo, hhi, hD⟩
  have HK5 := hidden (HK4.out.trans (hD.keeps _) (fun _ _ h => h))
  have hk5 := hD.keeps (fun _ => False)
  have D0 := hidden (hk5.heap HC0.out (fun h => h))
  have D1 := hidden (hk5.heap HC1.out (fun h => h))
  have D2 := hidden (show IsVar w5 (w.heap.size + 1 + 1) V.null from hk5.heap HC2.out (fun h => h))
  have D3 := hidden (show IsVar w5 (w.heap.size + 1 + 1 + 1) V.null from hk5.heap HC3.out (fun h => h))
  have TT := hidden (HT.out.none HK5.out)
  have HLO := hidden hlo
  have HHI := hidden hhi
  clear hk5 hD hlo hhi HC0 HC1 HC2 HC3 HK4 key H b0
  have p0 := blk_cell D0.out 0
  have p1 := blk_cell D1.out 0
  have b0 := blk_cell TT.out.blk 0
  simp only [List.getElem?_toArray, List.getElem?_cons_zero] at p0 p1 b0
  have hz0 := blk_lt D0.out
  have hz1 := blk_lt D1.out
  have hz2 := blk_lt D2.out
  have hz3 := blk_lt D3.out
  have hbz5 := blk_lt TT.out.blk
  have hi1 : (i : Int) ≤ (E.length : Int) := by omega
  have hi2 : (i : Int) ≤ (ce : Int) := by omega
  have HND := hidden (nextT_drop hi HLO.out HHI.out)
  have HEA := hidden (Ents.own TT.out.ents.1)
  clear HLO HHI
  by_cases hz : ce = i
  · have hei : E.length = i := by omega
    have hLl : (E.drop i).length = E.length - i := List.length_drop
    have HE := hidden (show Ents w5 Ae (E.drop i) from by rw [List.drop_eq_nil_of_le (by omega)]; exact fun j x hx => by simp at hx)
    subst hz
    clear hei hcap
    generalize E.drop ce = L at *
    obtain ⟨m, hm⟩ : ∃ m, m = E.length - ce := ⟨_, rfl⟩
    have hmb : m ≤ 1073741824 := by omega
    have HM := hidden hm
    rw [← hm] at hLl
    have HLL := hidden hLl
    clear hLl
    go_wp2_with fail
    rw [← HM.out]
    clear hm b0
    go_loopw [25] (fun j wr => ∃ k : Nat, k ≤ m ∧ j = .int .i64 k ∧ Hid (∀ (j : Nat) (hj : j < L.length), j < k → L[j].gone = true) ∧ Keeps (fun _ => False) w5 wr) (fun j _ => m - (intOf j).toNat)
    case atStart => exact ⟨0, Nat.zero_le _, rfl, hidden (fun j hj h => absurd h (by omega)), Keeps.refl _ _⟩
    case round =>
      obtain ⟨k, hk, rfl, HG, hK⟩ := hrel
      have HK := hidden hK
      have D2r := hidden (show IsVar wr (w.heap.size + 1 + 1) V.null from hK.heap D2.out (fun h => h))
      have D3r := hidden (show IsVar wr (w.heap.size + 1 + 1 + 1) V.null from hK.heap D3.out (fun h => h))
      have D1r := hidden (hK.heap D1.out (fun h => h))
      by_cases hlt : k < m
      · have hkL : k < L.length := by rw [HLL.out]; exact hlt
        obtain ⟨g, o, hAe, ⟨e0, e1, e2, e3, e4, e5, e6, e7⟩⟩ := (HE.out.keeps hK (fun _ _ _ _ h => h)) k L[k] (List.getElem?_eq_getElem hkL)
        have hg := World.block_lt_of_cell? wr _ e0
        cases hgn : L[k].gone with
        | true =>
          rw [hgn] at e7
          have HG2 := hidden (show ∀ (j : Nat) (hj : j < L.length), j < k + 1 → L[j].gone = true from fun j hj h => by
            by_cases hjk : j = k
            · subst hjk; exact hgn
            · exact HG.out j hj (by omega))
          clear hgn hK HG
          generalize L[k] = x at *
          go_wp2_with fail
          go_roundw
          case rel => exact ⟨k + 1, hlt, by go_num, HG2, HK.out.alloc _⟩
          case measure => simp [intOf]; omega
        | false =>
          rw [hgn] at e7
          have HF := hidden (HND.out.trans (find_skip HG.out hkL hgn))
          clear hK HG
          generalize L[k] = x at *
          obtain ⟨⟨xk, xn, xt⟩, ⟨yk, yn, yt⟩, xs, xg⟩ := x
          simp only at e0 e1 e2 e3 e4 e5 e6 e7 hgn
          subst hgn
          obtain ⟨v0, v1, v2, v3, v4, v5⟩ := D2r.out.cells
          obtain ⟨u0, u1, u2, u3, u4, u5⟩ := D3r.out.cells
          simp only [V.null] at v0 v1 v2 u0 u1 u2
          have hv := blk_lt D2r.out
          have hu := blk_lt D3r.out
          go_wp2_with fail
          go_region
          go_wp2_with fail
          obtain ⟨a1, a2⟩ := two_vars (x := ⟨xk, xn, xt⟩) (y := ⟨yk, yn, yt⟩) D2r.out D3r.out (by omega) (Ent.obj ⟨⟨xk, xn, xt⟩, ⟨yk, yn, yt⟩, xs, false⟩)
          obtain ⟨d0, d1, d2, -⟩ := a1.cells
          obtain ⟨d3, d4, d5, -⟩ := a2.cells
          simp only [Ent.obj] at d0 d1 d2 d3 d4 d5
          exact bodyPost_ret (v := .tuple #[.int .i64 xs, V.val ⟨xk, xn, xt⟩, V.val ⟨yk, yn, yt⟩, .bool true]) (by simp [results, Try.results38, go_sem, d0, d1, d2, d3, d4, d5, V.val]) rfl (hR.out _ _ ⟨by rw [nextAns, HF.out], (((((HK5.out.trans HK.out (fun _ _ h => h)).var (r := w.heap.size + 1 + 1) (fun h => by omega) _ _ _).var (r := w.heap.size + 1 + 1 + 1) (fun h => by omega) _ _ _).alloc _).drew)⟩)
      · obtain rfl : k = m := by omega
        have HF := hidden (HND.out.trans (find_none (fun j hj => HG.out j hj (by rw [← HLL.out]; exact hj))))
        have dn := hidden (fun W => value_Null W)
        simp only [V.val, V.null] at dn
        have HX := hidden trivial
        have q1 := blk_cell D1r.out 0
        simp only [List.getElem?_toArray, List.getElem?_cons_zero] at q1
        clear hK HG
        have hq1 := blk_lt D1r.out
        go_wp2_with fail
        go_region_held3 (fun w' => w'.cell? ⟨w.heap.size + 1, 0, none⟩ = some (.int .i64 c)) (first | (with_reducible exact q1) | (with_reducible exact q6) | (with_reducible exact q7) | go_simp) (first | (go_at_call 11; clear HX; refine (dn.out _).mono ?_; rintro e w6 ⟨rfl, hK⟩; have HK6 := hidden ((HK.out.drewN _).trans hK (fun _ _ h => h)); have D26 := hidden (show IsVar w6 (w.heap.size + 1 + 1) V.null from hK.heap D2r.out (fun h => h)); have D36 := hidden (show IsVar w6 (w.heap.size + 1 + 1 + 1) V.null from hK.heap D3r.out (fun h => h)); have q6 := hK.cell q1 (fun h => h); clear hK) | (go_at_call 11; refine (dn.out _).mono ?_; rintro e w7 ⟨rfl, hK⟩; have HK7 := hidden (HK6.out.trans hK (fun _ _ h => h)); have D27 := hidden (show IsVar w7 (w.heap.size + 1 + 1) V.null from hK.heap D26.out (fun h => h)); have D37 := hidden (show IsVar w7 (w.heap.size + 1 + 1 + 1) V.null from hK.heap D36.out (fun h => h)); have q7 := hK.cell q6 (fun h => h); obtain ⟨v0, v1, v2, v3, v4, v5⟩ := D27.out.cells; obtain ⟨u0, u1, u2, u3, u4, u5⟩ := D37.out.cells; simp only [V.null] at v0 v1 v2 u0 u1 u2; have hv := blk_lt D27.out; have hu := blk_lt D37.out; have NE2 : (∀ j, (⟨w.heap.size + 1 + 1, j, none⟩ : Addr) ≠ ⟨w.heap.size + 1, 0, none⟩) := fun j e => (by simp at e); clear hK))
        all_goals
          go_wp2_with fail
          obtain ⟨a1, a2⟩ := two_vars0 (x := V.null) (y := V.null) D27.out D37.out (by omega)
          obtain ⟨d0, d1, d2, -⟩ := a1.cells
          obtain ⟨d3, d4, d5, -⟩ := a2.cells
          simp only [V.null] at d0 d1 d2 d3 d4 d5
          exact bodyPost_ret (v := .tuple #[.int .i64 c, V.val V.null, V.val V.null, .bool false]) (by simp [results, Try.results38, go_sem, d0, d1, d2, d3, d4, d5, V.val, V.null]) rfl (hR.out _ _ ⟨by rw [nextAns, HF.out], ((HK5.out.trans HK7.out (fun _ _ h => h)).var (r := w.heap.size + 1 + 1) (fun h => by omega) _ _ _).var (r := w.heap.size + 1 + 1 + 1) (fun h => by omega) _ _ _⟩)
  · have HE := hidden (HEA.out.sub i)
    have hLl : (E.drop i).length = E.length - i := List.length_drop
    generalize E.drop i = L at *
    obtain ⟨m, hm⟩ : ∃ m, m = E.length - i := ⟨_, rfl⟩
    have hmb : m ≤ 1073741824 := by omega
    have HM := hidden hm
    rw [← hm] at hLl
    have HLL := hidden hLl
    clear hLl
    go_wp2_with fail
    rw [← HM.out]
    clear hm b0
    go_loopw [25] (fun j wr => ∃ k : Nat, k ≤ m ∧ j = .int .i64 k ∧ Hid (∀ (j : Nat) (hj : j < L.length), j < k → L[j].gone = true) ∧ Keeps (fun _ => False) w5 wr) (fun j _ => m - (intOf j).toNat)
    case atStart => exact ⟨0, Nat.zero_le _, rfl, hidden (fun j hj h => absurd h (by omega)), Keeps.refl _ _⟩
    case round =>
      obtain ⟨k, hk, rfl, HG, hK⟩ := hrel
      have HK := hidden hK
      have D2r := hidden (show IsVar wr (w.heap.size + 1 + 1) V.null from hK.heap D2.out (fun h => h))
      have D3r := hidden (show IsVar wr (w.heap.size + 1 + 1 + 1) V.null from hK.heap D3.out (fun h => h))
      have D1r := hidden (hK.heap D1.out (fun h => h))
      by_cases hlt : k < m
      · have hkL : k < L.length := by rw [HLL.out]; exact hlt
        obtain ⟨g, o, hAe, ⟨e0, e1, e2, e3, e4, e5, e6, e7⟩⟩ := (HE.out.keeps hK (fun _ _ _ _ h => h)) k L[k] (List.getElem?_eq_getElem hkL)
        have hg := World.block_lt_of_cell? wr _ e0
        cases hgn : L[k].gone with
        | true =>
          rw [hgn] at e7
          have HG2 := hidden (show ∀ (j : Nat) (hj : j < L.length), j < k + 1 → L[j].gone = true from fun j hj h => by
            by_cases hjk : j = k
            · subst hjk; exact hgn
            · exact HG.out j hj (by omega))
          clear hgn hK HG
          generalize L[k] = x at *
          go_wp2_with fail
          go_roundw
          case rel => exact ⟨k + 1, hlt, by go_num, HG2, HK.out.alloc _⟩
          case measure => simp [intOf]; omega
        | false =>
          rw [hgn] at e7
          have HF := hidden (HND.out.trans (find_skip HG.out hkL hgn))
          clear hK HG
          generalize L[k] = x at *
          obtain ⟨⟨xk, xn, xt⟩, ⟨yk, yn, yt⟩, xs, xg⟩ := x
          simp only at e0 e1 e2 e3 e4 e5 e6 e7 hgn
          subst hgn
          obtain ⟨v0, v1, v2, v3, v4, v5⟩ := D2r.out.cells
          obtain ⟨u0, u1, u2, u3, u4, u5⟩ := D3r.out.cells
          simp only [V.null] at v0 v1 v2 u0 u1 u2
          have hv := blk_lt D2r.out
          have hu := blk_lt D3r.out
          go_wp2_with fail
          go_region
          go_wp2_with fail
          obtain ⟨a1, a2⟩ := two_vars (x := ⟨xk, xn, xt⟩) (y := ⟨yk, yn, yt⟩) D2r.out D3r.out (by omega) (Ent.obj ⟨⟨xk, xn, xt⟩, ⟨yk, yn, yt⟩, xs, false⟩)
          obtain ⟨d0, d1, d2, -⟩ := a1.cells
          obtain ⟨d3, d4, d5, -⟩ := a2.cells
          simp only [Ent.obj] at d0 d1 d2 d3 d4 d5
          exact bodyPost_ret (v := .tuple #[.int .i64 xs, V.val ⟨xk, xn, xt⟩, V.val ⟨yk, yn, yt⟩, .bool true]) (by simp [results, Try.results38, go_sem, d0, d1, d2, d3, d4, d5, V.val]) rfl (hR.out _ _ ⟨by rw [nextAns, HF.out], (((((HK5.out.trans HK.out (fun _ _ h => h)).var (r := w.heap.size + 1 + 1) (fun h => by omega) _ _ _).var (r := w.heap.size + 1 + 1 + 1) (fun h => by omega) _ _ _).alloc _).drew)⟩)
      · obtain rfl : k = m := by omega
        have HF := hidden (HND.out.trans (find_none (fun j hj => HG.out j hj (by rw [← HLL.out]; exact hj))))
        have dn := hidden (fun W => value_Null W)
        simp only [V.val, V.null] at dn
        have HX := hidden trivial
        have q1 := blk_cell D1r.out 0
        simp only [List.getElem?_toArray, List.getElem?_cons_zero] at q1
        clear hK HG
        have hq1 := blk_lt D1r.out
        go_wp2_with fail
        go_region_held3 (fun w' => w'.cell? ⟨w.heap.size + 1, 0, none⟩ = some (.int .i64 c)) (first | (with_reducible exact q1) | (with_reducible exact q6) | (with_reducible exact q7) | go_simp) (first | (go_at_call 11; clear HX; refine (dn.out _).mono ?_; rintro e w6 ⟨rfl, hK⟩; have HK6 := hidden ((HK.out.drewN _).trans hK (fun _ _ h => h)); have D26 := hidden (show IsVar w6 (w.heap.size + 1 + 1) V.null from hK.heap D2r.out (fun h => h)); have D36 := hidden (show IsVar w6 (w.heap.size + 1 + 1 + 1) V.null from hK.heap D3r.out (fun h => h)); have q6 := hK.cell q1 (fun h => h); clear hK) | (go_at_call 11; refine (dn.out _).mono ?_; rintro e w7 ⟨rfl, hK⟩; have HK7 := hidden (HK6.out.trans hK (fun _ _ h => h)); have D27 := hidden (show IsVar w7 (w.heap.size + 1 + 1) V.null from hK.heap D26.out (fun h => h)); have D37 := hidden (show IsVar w7 (w.heap.size + 1 + 1 + 1) V.null from hK.heap D36.out (fun h => h)); have q7 := hK.cell q6 (fun h => h); obtain ⟨v0, v1, v2, v3, v4, v5⟩ := D27.out.cells; obtain ⟨u0, u1, u2, u3, u4, u5⟩ := D37.out.cells; simp only [V.null] at v0 v1 v2 u0 u1 u2; have hv := blk_lt D27.out; have hu := blk_lt D37.out; have NE2 : (∀ j, (⟨w.heap.size + 1 + 1, j, none⟩ : Addr) ≠ ⟨w.heap.size + 1, 0, none⟩) := fun j e => (by simp at e); clear hK))
        all_goals
          go_wp2_with fail
          obtain ⟨a1, a2⟩ := two_vars0 (x := V.null) (y := V.null) D27.out D37.out (by omega)
          obtain ⟨d0, d1, d2, -⟩ := a1.cells
          obtain ⟨d3, d4, d5, -⟩ := a2.cells
          simp only [V.null] at d0 d1 d2 d3 d4 d5
          exact bodyPost_ret (v := .tuple #[.int .i64 c, V.val V.null, V.val V.null, .bool false]) (by simp [results, Try.results38, go_sem, d0, d1, d2, d3, d4, d5, V.val, V.null]) rfl (hR.out _ _ ⟨by rw [nextAns, HF.out], ((HK5.out.trans HK7.out (fun _ _ h => h)).var (r := w.heap.size + 1 + 1) (fun h => by omega) _ _ _).var (r := w.heap.size + 1 + 1 + 1) (fun h => by omega) _ _ _⟩)
end Go.Proofs.Ytmefdniocgcckaa
/- Layer 5: tables: what always holds of one (plain), and what find then tells. -/
namespace Go.Proofs.Ytmefdniocgcckaa
open Go.RowKit

theorem getD_set (S : List Int) (i j : Nat) (v : Int) (hi : i < S.length) : (S.set i v).getD j 0 = if j = i then v else S.getD j 0 := by
  rw [List.getD_eq_getElem?_getD, List.getD_eq_getElem?_getD, List.getElem?_set]
  by_cases h : i = j
  · subst h; simp [hi]
  · rw [if_neg h, if_neg (fun e => h e.symm)]
theorem getD_some {S : List Int} {i : Nat} {s : Int} (h : S[i]? = some s) : S.getD i 0 = s := by rw [List.getD_eq_getElem?_getD, h]; rfl
theorem some_getD {S : List Int} {i : Nat} (h : i < S.length) : S[i]? = some (S.getD i 0) := by rw [List.getD_eq_getElem?_getD, List.getElem?_eq_getElem h]; rfl
/-- Some step leads to each slot. -/
theorem step_to (h n i : Nat) (hi : i < n) : ∃ d, d < n ∧ (h + d) % n = i := by
  have hr : h % n < n := Nat.mod_lt _ (by omega)
  have e : h = n * (h / n) + h % n := (Nat.div_add_mod h n).symm
  by_cases hc : h % n ≤ i
  · refine ⟨i - h % n, by omega, ?_⟩
    have e2 : h + (i - h % n) = n * (h / n) + i := by omega
    rw [e2, Nat.mul_add_mod, Nat.mod_eq_of_lt hi]
  · refine ⟨i + n - h % n, by omega, ?_⟩
    have e2 : h + (i + n - h % n) = n * (h / n + 1) + i := by rw [Nat.mul_add]; omega
    rw [e2, Nat.mul_add_mod, Nat.mod_eq_of_lt hi]
theorem zero_in {S : List Int} (h : S.countP (fun s => decide (s ≠ 0)) < S.length) : ∃ i, i < S.length ∧ S.getD i 0 = 0 := by
  by_cases hc : ∃ i, i < S.length ∧ S.getD i 0 = 0
  · exact hc
  · exfalso
    have : S.countP (fun s => decide (s ≠ 0)) = S.length := List.countP_eq_length.2 (fun a ha => by
      obtain ⟨i, hi, rfl⟩ := List.mem_iff_getElem.1 ha
      simp only [decide_eq_true_eq]
      intro h0
      exact hc ⟨i, hi, by rw [getD_some (List.getElem?_eq_getElem hi)]; exact h0⟩)
    omega
theorem count_set {S : List Int} {i : Nat} {v : Int} (hi : i < S.length) (hv : v ≠ 0) : ((S.set i v).countP (fun s => decide (s ≠ 0)) : Nat) = S.countP (fun s => decide (s ≠ 0)) + (if S.getD i 0 = 0 then 1 else 0) := by
  rw [List.countP_set hi]
  have e : S.getD i 0 = S[i] := getD_some (List.getElem?_eq_getElem hi)
  rw [e]
  by_cases h : S[i] = 0
  · simp [h, hv]
  · have hp : 0 < S.countP (fun s => decide (s ≠ 0)) := List.countP_pos_iff.2 ⟨S[i], List.getElem_mem hi, by simpa using h⟩
    generalize S.countP (fun s => decide (s ≠ 0)) = c at *
    simp [h, hv]
    omega

/-- The slots S tell the entries of P. -/
structure Slots (E : List Ent) (S : List Int) (P : Nat → Prop) : Prop where
  inP : ∀ (i : Nat) (s : Int), S[i]? = some s → s = 0 ∨ s = -1 ∨ ∃ q : Nat, s = (q : Int) + 1 ∧ P q
  way : ∀ q, P q → ∃ (x : Ent) (d : Nat), E[q]? = some x ∧ d < S.length ∧ S.getD ((keyHash x.key + d) % S.length) 0 = (q : Int) + 1 ∧ ∀ d', d' < d → S.getD ((keyHash x.key + d') % S.length) 0 ≠ 0
  inj : ∀ (q q' : Nat) (x x' : Ent), P q → P q' → E[q]? = some x → E[q']? = some x' → x.key = x'.key → q = q'
  uniq : ∀ (i j q : Nat), S[i]? = some ((q : Int) + 1) → S[j]? = some ((q : Int) + 1) → i = j

theorem probe_found {E : List Ent} {S : List Int} {key : V} {h q : Nat} {x : Ent} (hq : E[q]? = some x) (hx : x.key = key) :
    ∀ (m d : Nat) (f : Option Nat) (D : Nat), d ≤ D → D < d + m → S.getD ((h + D) % S.length) 0 = (q : Int) + 1 → (∀ d', d ≤ d' → d' < D → S.getD ((h + d') % S.length) 0 ≠ 0) → (probe E S key h m d f).2 = true
  | 0, d, f, D, h1, h2, _, _ => by omega
  | m + 1, d, f, D, h1, h2, h3, h4 => by
    rw [probe]
    split
    · rename_i h0
      by_cases e : D = d
      · subst e; omega
      · exact absurd h0 (h4 d (Nat.le_refl _) (by omega))
    · split
      · rename_i h0
        have e : D ≠ d := by rintro rfl; omega
        exact probe_found hq hx m (d + 1) _ D (by omega) (by omega) h3 (fun d' a b => h4 d' (by omega) b)
      · split
        · rfl
        · rename_i h0 h5 h6
          have e : D ≠ d := by
            rintro rfl
            rw [h3] at h6
            refine h6 ?_
            rw [show ((q : Int) + 1).toNat - 1 = q by omega, List.getElem?_map, hq, Option.map_some, hx]
          exact probe_found hq hx m (d + 1) _ D (by omega) (by omega) h3 (fun d' a b => h4 d' (by omega) b)
/-- A slot where a key may be put. -/
def Good (S : List Int) (h i : Nat) : Prop := ∃ D, D < S.length ∧ i = (h + D) % S.length ∧ (S.getD i 0 = 0 ∨ S.getD i 0 = -1) ∧ ∀ d', d' < D → S.getD ((h + d') % S.length) 0 ≠ 0
theorem probe_free {E : List Ent} {S : List Int} {key : V} {h : Nat} :
    ∀ (m d : Nat) (f : Option Nat), d + m ≤ S.length → (∃ D, d ≤ D ∧ D < d + m ∧ S.getD ((h + D) % S.length) 0 = 0) → (∀ i, f = some i → Good S h i) → (∀ d', d' < d → S.getD ((h + d') % S.length) 0 ≠ 0) → (probe E S key h m d f).2 = false → Good S h (probe E S key h m d f).1
  | 0, d, f, _, ⟨D, h1, h2, _⟩, _, _, _ => by omega
  | m + 1, d, f, hm, ⟨D, h1, h2, h3⟩, hf, hw, hr => by
    rw [probe] at hr ⊢
    split
    · rename_i h0
      cases f with
      | none => exact ⟨d, by omega, rfl, .inl h0, hw⟩
      | some i => exact hf i rfl
    · rename_i h0
      rw [if_neg h0] at hr
      have hD : D ≠ d := by rintro rfl; exact h0 h3
      have hw' : ∀ d', d' < d + 1 → S.getD ((h + d') % S.length) 0 ≠ 0 := fun d' hd' => by
        by_cases e : d' = d
        · subst e; exact h0
        · exact hw d' (by omega)
      split
      · rename_i h5
        rw [if_pos h5] at hr
        refine probe_free m (d + 1) _ (by omega) ⟨D, by omega, by omega, h3⟩ (fun i hi => ?_) hw' hr
        cases f with
        | none => simp at hi; subst hi; exact ⟨d, by omega, rfl, .inr h5, hw⟩
        | some j => simp at hi; subst hi; exact hf j rfl
      · rename_i h5
        rw [if_neg h5] at hr
        split
        · rename_i h6
          rw [if_pos h6] at hr
          cases hr
        · rename_i h6
          rw [if_neg h6] at hr
          exact probe_free m (d + 1) _ (by omega) ⟨D, by omega, by omega, h3⟩ hf hw' hr
theorem Slots.found {t : Tb} {P : Nat → Prop} (hs : t.safe) (h : Slots t.E t.S P) {q : Nat} {x : Ent} (hP : P q) (hx : t.E[q]? = some x) : (findT t x.key).2 = true ∧ t.S[(findT t x.key).1]? = some ((q : Int) + 1) := by
  obtain ⟨y, d, hy, hd, h1, h2⟩ := h.way q hP
  rw [hx] at hy
  obtain rfl := Option.some.inj hy
  have hl : t.S.length ≠ 0 := by omega
  have ht : (findT t x.key).2 = true := by
    rw [findT, if_neg hl]
    exact probe_found hx rfl t.S.length 0 none d (Nat.zero_le _) (by omega) h1 (fun d' _ b => h2 d' b)
  refine ⟨ht, ?_⟩
  obtain ⟨q', hq', h3, h4⟩ := findT_true hs ht
  have hP' : P q' := by
    rcases h.inP _ _ h3 with e | e | ⟨q2, e, hp⟩
    · omega
    · omega
    · obtain rfl : q' = q2 := by omega
      exact hp
  have := h.inj q' q _ _ hP' hP (List.getElem?_eq_getElem hq') hx h4
  rw [h3, this]
theorem Slots.absent {t : Tb} {P : Nat → Prop} {key : V} (hs : t.safe) (h : Slots t.E t.S P) (hno : ∀ q x, P q → t.E[q]? = some x → x.key ≠ key) : (findT t key).2 = false := by
  cases ht : (findT t key).2 with
  | false => rfl
  | true =>
    obtain ⟨q', hq', h3, h4⟩ := findT_true hs ht
    rcases h.inP _ _ h3 with e | e | ⟨q2, e, hp⟩
    · omega
    · omega
    · obtain rfl : q' = q2 := by omega
      exact absurd h4 (hno q' _ hp (List.getElem?_eq_getElem hq'))
theorem Slots.free {t : Tb} {P : Nat → Prop} {key : V} (hs : t.safe) (h : Slots t.E t.S P) (hno : ∀ q x, P q → t.E[q]? = some x → x.key ≠ key) (hz : ∃ i, i < t.S.length ∧ t.S.getD i 0 = 0) : Good t.S (keyHash key) (findT t key).1 := by
  have hr := h.absent hs hno
  obtain ⟨i, hi, h0⟩ := hz
  have hl : t.S.length ≠ 0 := by omega
  obtain ⟨D, hD, e⟩ := step_to (keyHash key) t.S.length i hi
  rw [findT, if_neg hl] at hr ⊢
  exact probe_free t.S.length 0 none (by omega) ⟨D, Nat.zero_le _, by omega, by rw [e]; exact h0⟩ (fun _ e => by cases e) (fun _ h => absurd h (by omega)) hr
theorem Slots.place {E : List Ent} {S : List Int} {P : Nat → Prop} (h : Slots E S P) {q i : Nat} {x : Ent} (hq : E[q]? = some x) (hno : ∀ q' x', P q' → E[q']? = some x' → x'.key ≠ x.key) (hg : Good S (keyHash x.key) i) :
    Slots E (S.set i ((q : Int) + 1)) (fun k => P k ∨ k = q) := by
  obtain ⟨D, hD, hi, h0, hw⟩ := hg
  have hil : i < S.length := by rw [hi]; exact Nat.mod_lt _ (by omega)
  have nz : ∀ j, S.getD j 0 ≠ 0 → (S.set i ((q : Int) + 1)).getD j 0 ≠ 0 := fun j hj => by
    rw [getD_set S i j _ hil]
    split
    · omega
    · exact hj
  have hPq : ¬ P q := fun hp => hno q x hp hq rfl
  have hnq : ∀ j : Nat, S[j]? ≠ some ((q : Int) + 1) := fun j hj => by
    rcases h.inP j _ hj with e | e | ⟨q', e, hp⟩
    · omega
    · omega
    · obtain rfl : q = q' := by omega
      exact hPq hp
  refine ⟨fun j s hj => ?_, fun k hk => ?_, fun a b y z ha hb hy hz e => ?_, fun a b k ha hb => ?_⟩
  · rw [List.getElem?_set] at hj
    split at hj
    · skip
      exact .inr (.inr ⟨q, (Option.some.inj hj).symm, .inr rfl⟩)
    · rcases h.inP j s hj with e | e | ⟨q', e, hp⟩
      · exact .inl e
      · exact .inr (.inl e)
      · exact .inr (.inr ⟨q', e, .inl hp⟩)
  · rw [List.length_set]
    rcases hk with hk | rfl
    · obtain ⟨y, d, hy, hd, h1, h2⟩ := h.way k hk
      refine ⟨y, d, hy, hd, ?_, fun d' hd' => nz _ (h2 d' hd')⟩
      rw [getD_set S i _ _ hil, if_neg (fun e => by rw [e] at h1; rw [h1] at h0; omega)]
      exact h1
    · refine ⟨x, D, hq, hD, ?_, fun d' hd' => nz _ (hw d' hd')⟩
      rw [getD_set S i _ _ hil, if_pos hi.symm]
  · rcases ha with ha | rfl
    · rcases hb with hb | rfl
      · exact h.inj a b y z ha hb hy hz e
      · rw [hq] at hz
        obtain rfl := Option.some.inj hz
        exact absurd e (hno a y ha hy)
    · rcases hb with hb | rfl
      · rw [hq] at hy
        obtain rfl := Option.some.inj hy
        exact absurd e.symm (hno b z hb hz)
      · rfl
  · rw [List.getElem?_set] at ha hb
    split at ha
    · rename_i ea
      have := Option.some.inj ha
      obtain rfl : k = q := by omega
      split at hb
      · rename_i eb
        rw [← ea, ← eb]
      · exact absurd hb (hnq b)
    · split at hb
      · skip
        have := Option.some.inj hb
        obtain rfl : k = q := by omega
        exact absurd ha (hnq a)
      · exact h.uniq a b k ha hb
/-- One entry's slot is a grave now. -/
theorem Slots.bury {E : List Ent} {S : List Int} {P : Nat → Prop} (h : Slots E S P) {q i : Nat} (hi : S[i]? = some ((q : Int) + 1)) : Slots E (S.set i (-1)) (fun k => P k ∧ k ≠ q) := by
  have hil : i < S.length := (List.getElem?_eq_some_iff.1 hi).1
  have nz : ∀ j, S.getD j 0 ≠ 0 → (S.set i (-1)).getD j 0 ≠ 0 := fun j hj => by
    rw [getD_set S i j _ hil]
    split
    · omega
    · exact hj
  refine ⟨fun j s hj => ?_, fun k hk => ?_, fun a b y z ha hb hy hz e => h.inj a b y z ha.1 hb.1 hy hz e, fun a b k ha hb => ?_⟩
  · rw [List.getElem?_set] at hj
    split at hj
    · skip
      exact .inr (.inl (Option.some.inj hj).symm)
    · rename_i hne
      rcases h.inP j s hj with e | e | ⟨q', e, hp⟩
      · exact .inl e
      · exact .inr (.inl e)
      · refine .inr (.inr ⟨q', e, hp, ?_⟩)
        rintro rfl
        exact hne (h.uniq i j q' hi (by rw [hj, e]))
  · rw [List.length_set]
    obtain ⟨y, d, hy, hd, h1, h2⟩ := h.way k hk.1
    refine ⟨y, d, hy, hd, ?_, fun d' hd' => nz _ (h2 d' hd')⟩
    rw [getD_set S i _ _ hil, if_neg (fun e => by rw [e, getD_some hi] at h1; exact hk.2 (by omega))]
    exact h1
  · rw [List.getElem?_set] at ha hb
    split at ha
    · skip
      have := Option.some.inj ha
      omega
    · split at hb
      · skip
        have := Option.some.inj hb
        omega
      · exact h.uniq a b k ha hb
end Go.Proofs.Ytmefdniocgcckaa
/- Layer 5: tables: the entries that are there, and what each act makes of them (plain). -/
namespace Go.Proofs.Ytmefdniocgcckaa
open Go.RowKit

def liveAt (E : List Ent) (q : Nat) : Prop := ∃ x, E[q]? = some x ∧ x.gone = false
/-- Another value of a key. -/
def putL (L : List Ent) (key val : V) : List Ent := L.map (fun y => if y.key = key then { y with val := val } else y)
/-- A key goes. -/
def delL (L : List Ent) (key : V) : List Ent := L.filter (fun y => decide (y.key ≠ key))
def hasL (L : List Ent) (key : V) : Bool := L.any (fun y => decide (y.key = key))
def Asc (L : List Ent) : Prop := L.Pairwise (fun a b => a.ser < b.ser)
theorem asc_length (s : Int) : ∀ (L : List Ent) (lo : Int), Asc L → (∀ x ∈ L, lo ≤ x.ser ∧ x.ser ≤ s) → lo ≤ s + 1 → lo + L.length ≤ s + 1
  | [], lo, _, _, h => by simpa using h
  | x :: xs, lo, ha, hb, h => by
    have ha' := List.pairwise_cons.1 ha
    have hx := hb x (List.mem_cons_self ..)
    have := asc_length s xs (lo + 1) ha'.2 (fun y hy => ⟨by have := ha'.1 y hy; omega, (hb y (List.mem_cons_of_mem _ hy)).2⟩) (by omega)
    simp only [List.length_cons]
    omega
theorem mem_stay {E : List Ent} {x : Ent} : x ∈ stay E ↔ x ∈ E ∧ x.gone = false := by simp [stay]
theorem set_val {E : List Ent} {q : Nat} {x : Ent} {val : V} (hq : E[q]? = some x) (hg : x.gone = false) (inj : ∀ q' x', E[q']? = some x' → x'.gone = false → x'.key = x.key → q' = q) :
    E.set q { x with val := val } = E.map (fun y => if y.gone = false ∧ y.key = x.key then { y with val := val } else y) := by
  refine List.ext_getElem? fun i => ?_
  rw [List.getElem?_set, List.getElem?_map]
  by_cases e : q = i
  · subst e
    have hl := (List.getElem?_eq_some_iff.1 hq).1
    rw [hq]
    simp [hl, hg]
  · rw [if_neg e]
    cases hy : E[i]? with
    | none => rfl
    | some y =>
      simp only [Option.map_some]
      rw [if_neg (fun h => e (inj i y hy h.1 h.2).symm)]
theorem set_blank {E : List Ent} {q : Nat} {x : Ent} (hq : E[q]? = some x) (hg : x.gone = false) (inj : ∀ q' x', E[q']? = some x' → x'.gone = false → x'.key = x.key → q' = q) :
    E.set q (blank x.ser) = E.map (fun y => if y.gone = false ∧ y.key = x.key then blank y.ser else y) := by
  refine List.ext_getElem? fun i => ?_
  rw [List.getElem?_set, List.getElem?_map]
  by_cases e : q = i
  · subst e
    have hl := (List.getElem?_eq_some_iff.1 hq).1
    rw [hq]
    simp [hl, hg]
  · rw [if_neg e]
    cases hy : E[i]? with
    | none => rfl
    | some y =>
      simp only [Option.map_some]
      rw [if_neg (fun h => e (inj i y hy h.1 h.2).symm)]
theorem stay_val (E : List Ent) (key val : V) : stay (E.map (fun y => if y.gone = false ∧ y.key = key then { y with val := val } else y)) = putL (stay E) key val := by
  induction E with
  | nil => rfl
  | cons x xs ih =>
    simp only [stay, putL, List.map_cons, List.filter_cons] at ih ⊢
    cases hg : x.gone with
    | true => simpa [hg] using ih
    | false =>
      by_cases hk : x.key = key
      · simpa [hg, hk] using ih
      · simpa [hg, hk] using ih
theorem stay_del (E : List Ent) (key : V) : stay (E.map (fun y => if y.gone = false ∧ y.key = key then blank y.ser else y)) = delL (stay E) key := by
  induction E with
  | nil => rfl
  | cons x xs ih =>
    simp only [stay, delL, List.map_cons, List.filter_cons] at ih ⊢
    cases hg : x.gone with
    | true => simpa [hg] using ih
    | false =>
      by_cases hk : x.key = key
      · simpa [hg, hk, blank] using ih
      · simpa [hg, hk, List.filter_cons] using ih
theorem Slots.congr {E : List Ent} {S : List Int} {P Q : Nat → Prop} (h : Slots E S P) (hPQ : ∀ q, P q ↔ Q q) : Slots E S Q := by
  have : P = Q := funext fun q => propext (hPQ q)
  subst this
  exact h
/-- The entries are others, but the keys of P's. -/
theorem Slots.ents {E E' : List Ent} {S : List Int} {P : Nat → Prop} (h : Slots E S P) (he : ∀ q x, P q → E[q]? = some x → ∃ y, E'[q]? = some y ∧ y.key = x.key) : Slots E' S P := by
  have key : ∀ q y, P q → E'[q]? = some y → ∃ x, E[q]? = some x ∧ y.key = x.key := fun q y hP hy => by
    obtain ⟨x, d, hx, -⟩ := h.way q hP
    obtain ⟨z, hz, hk⟩ := he q x hP hx
    rw [hy] at hz
    obtain rfl := Option.some.inj hz
    exact ⟨x, hx, hk⟩
  refine ⟨h.inP, fun q hP => ?_, fun a b y z ha hb hy hz e => ?_, h.uniq⟩
  · obtain ⟨x, d, hx, hd, h1, h2⟩ := h.way q hP
    obtain ⟨y, hy, hk⟩ := he q x hP hx
    exact ⟨y, d, hy, hd, by rw [hk]; exact h1, fun d' hd' => by rw [hk]; exact h2 d' hd'⟩
  · obtain ⟨y', hy', e1⟩ := key a y ha hy
    obtain ⟨z', hz', e2⟩ := key b z hb hz
    exact h.inj a b y' z' ha hb hy' hz' (by rw [← e1, ← e2]; exact e)

structure Tb.ok (t : Tb) : Prop where
  two : t.S.length = 0 ∨ ∃ m : Nat, m ≤ 30 ∧ t.S.length = 2 ^ m
  sl : Slots t.E t.S (liveAt t.E)
  liv : t.live = ((stay t.E).length : Int)
  most : (stay t.E).length ≤ 1048576
  usd : t.used = ((t.S.countP (fun s => decide (s ≠ 0)) : Nat) : Int)
  load : 4 * t.used ≤ 3 * (t.S.length : Int)
  asc : Asc t.E
  sers : ∀ x ∈ t.E, 1 ≤ x.ser ∧ x.ser ≤ t.ser
  ser0 : 0 ≤ t.ser
  keys : ∀ x ∈ t.E, x.key.t.size ≤ 140737488351232
  nnul : ∀ x ∈ t.E, x.gone = false → x.key.k ≠ 0
theorem Tb.ok.many {t : Tb} (h : t.ok) : (t.E.length : Int) ≤ t.ser := by
  have := asc_length t.ser t.E 1 h.asc h.sers (by have := h.ser0; omega)
  omega
theorem Tb.ok.safe {t : Tb} (h : t.ok) (hs : t.ser ≤ 1073741824) : t.safe :=
  ⟨h.two, fun i s hi => by
    rcases h.sl.inP i s hi with e | e | ⟨q, e, x, hx, -⟩
    · exact .inl e
    · exact .inr (.inl e)
    · have := (List.getElem?_eq_some_iff.1 hx).1
      exact .inr (.inr ⟨by omega, by omega⟩), by have := h.many; omega⟩
theorem Tb.ok.len {t : Tb} (h : t.ok) : t.S.length ≤ 1073741824 := by
  rcases h.two with e | ⟨m, hm, e⟩
  · omega
  · rw [e]; exact Nat.pow_le_pow_right (by decide) hm
theorem Tb.ok.inj {t : Tb} (h : t.ok) {q : Nat} {x : Ent} (hq : t.E[q]? = some x) (hg : x.gone = false) : ∀ q' x', t.E[q']? = some x' → x'.gone = false → x'.key = x.key → q' = q :=
  fun q' x' hq' hg' e => h.sl.inj q' q x' x ⟨x', hq', hg'⟩ ⟨x, hq, hg⟩ hq' hq e
theorem Tb.ok.there {t : Tb} (h : t.ok) (hs : t.ser ≤ 1073741824) {x : Ent} (hx : x ∈ stay t.E) : ∃ (q : Nat) (hq : q < t.E.length), t.E[q] = x ∧ (findT t x.key).2 = true ∧ t.S[(findT t x.key).1]? = Option.some ((q : Int) + 1) := by
  obtain ⟨hm, hg⟩ := mem_stay.1 hx
  obtain ⟨q, hq, e⟩ := List.mem_iff_getElem.1 hm
  have hq' : t.E[q]? = Option.some x := by rw [List.getElem?_eq_getElem hq, e]
  obtain ⟨h1, h2⟩ := h.sl.found (h.safe hs) (q := q) ⟨x, hq', hg⟩ hq'
  exact ⟨q, hq, e, h1, h2⟩
theorem Tb.ok.absent {t : Tb} (h : t.ok) (hs : t.ser ≤ 1073741824) {key : V} (hno : ∀ x ∈ stay t.E, x.key ≠ key) : (findT t key).2 = false :=
  h.sl.absent (h.safe hs) (fun q x hP hx => by
    obtain ⟨y, hy, hg⟩ := hP
    rw [hx] at hy
    obtain rfl := Option.some.inj hy
    exact hno x (mem_stay.2 ⟨List.mem_of_getElem? hx, hg⟩))
theorem Tb.ok.keysne {t : Tb} (h : t.ok) : (stay t.E).Pairwise (fun a b => a.key ≠ b.key) := by
  have h1 : t.E.Pairwise (fun a b => a.gone = false → b.gone = false → a.key ≠ b.key) := by
    rw [List.pairwise_iff_getElem]
    intro i j hi hj hij ga gb e
    have := h.inj (List.getElem?_eq_getElem hj) gb i _ (List.getElem?_eq_getElem hi) ga e
    omega
  refine (h1.filter (fun e => !e.gone)).imp_of_mem (fun {a b} ha hb hab => hab ?_ ?_)
  · simpa using (List.mem_filter.1 ha).2
  · simpa using (List.mem_filter.1 hb).2
theorem stay_append (E G : List Ent) : stay (E ++ G) = stay E ++ stay G := by simp [stay]
theorem stay_live {x : Ent} {xs : List Ent} (h : x.gone = false) : stay (x :: xs) = x :: stay xs := by simp [stay, h]
theorem stay_gone {x : Ent} {xs : List Ent} (h : x.gone = true) : stay (x :: xs) = stay xs := by simp [stay, h]
theorem ok_clear (s : Int) (hs : 0 ≤ s) : (⟨[], [], 0, 0, s⟩ : Tb).ok :=
  ⟨.inl rfl, ⟨fun i s h => by simp at h, fun q h => by obtain ⟨x, h, -⟩ := h; simp at h, fun q q' x x' h => by obtain ⟨x, h, -⟩ := h; simp at h, fun i j q h => by simp at h⟩, rfl, by simp [stay], rfl, by simp, List.Pairwise.nil, fun x h => by simp at h, hs, fun x h => by simp at h, fun x h => by simp at h⟩
theorem ok_val {t : Tb} (h : t.ok) {q : Nat} (hq : q < t.E.length) (hg : t.E[q].gone = false) (val : V) :
    ({ t with E := t.E.set q { t.E[q] with val := val } } : Tb).ok ∧ stay (t.E.set q { t.E[q] with val := val }) = putL (stay t.E) t.E[q].key val := by
  have hx : t.E[q]? = Option.some t.E[q] := List.getElem?_eq_getElem hq
  have e := set_val (val := val) hx hg (h.inj hx hg)
  have hstay : stay (t.E.set q { t.E[q] with val := val }) = putL (stay t.E) t.E[q].key val := by rw [e, stay_val]
  have hlv : ∀ k, liveAt t.E k ↔ liveAt (t.E.set q { t.E[q] with val := val }) k := fun k => by
    simp only [liveAt, List.getElem?_set]
    by_cases hk : q = k
    · subst hk
      simp [hq, hg]
    · simp [hk]
  have hmem : ∀ x ∈ t.E.set q { t.E[q] with val := val }, ∃ y ∈ t.E, x.key = y.key ∧ x.ser = y.ser ∧ x.gone = y.gone := fun x hm => by
    rcases List.mem_or_eq_of_mem_set hm with hm | rfl
    · exact ⟨x, hm, rfl, rfl, rfl⟩
    · exact ⟨t.E[q], List.getElem_mem hq, rfl, rfl, rfl⟩
  refine ⟨⟨h.two, ?_, ?_, ?_, h.usd, h.load, ?_, fun x hm => ?_, h.ser0, fun x hm => ?_, fun x hm hgx => ?_⟩, hstay⟩
  · refine (h.sl.ents (fun k x hP hk => ?_)).congr hlv
    simp only [List.getElem?_set]
    by_cases hk2 : q = k
    · subst hk2
      rw [hx] at hk
      obtain rfl := Option.some.inj hk
      exact ⟨{ t.E[q] with val := val }, by simp [hq], rfl⟩
    · exact ⟨x, by simp [hk2, hk], rfl⟩
  · show t.live = _
    rw [hstay, h.liv]; simp [putL]
  · show (stay (t.E.set q { t.E[q] with val := val })).length ≤ _
    rw [hstay]
    simpa [putL] using h.most
  · show Asc (t.E.set q { t.E[q] with val := val })
    rw [e, Asc, List.pairwise_map]
    refine h.asc.imp fun {a b} hab => ?_
    split <;> split <;> exact hab
  · obtain ⟨y, hy, -, h2, -⟩ := hmem x hm
    rw [h2]; exact h.sers y hy
  · obtain ⟨y, hy, h1, -⟩ := hmem x hm
    rw [h1]; exact h.keys y hy
  · obtain ⟨y, hy, h1, -, h3⟩ := hmem x hm
    rw [h1]; exact h.nnul y hy (by rw [← h3]; exact hgx)
theorem ok_del {t : Tb} (h : t.ok) {q i : Nat} (hq : q < t.E.length) (hg : t.E[q].gone = false) (hi : t.S[i]? = Option.some ((q : Int) + 1)) :
    (⟨t.E.set q (blank t.E[q].ser), t.S.set i (-1), t.live - 1, t.used, t.ser⟩ : Tb).ok ∧ stay (t.E.set q (blank t.E[q].ser)) = delL (stay t.E) t.E[q].key := by
  have hx : t.E[q]? = Option.some t.E[q] := List.getElem?_eq_getElem hq
  have e := set_blank hx hg (h.inj hx hg)
  have hil : i < t.S.length := (List.getElem?_eq_some_iff.1 hi).1
  have hstay : stay (t.E.set q (blank t.E[q].ser)) = delL (stay t.E) t.E[q].key := by rw [e, stay_del]
  have hlen : (stay (t.E.set q (blank t.E[q].ser))).length + 1 = (stay t.E).length := by
    have e1 : t.E = t.E.take q ++ t.E[q] :: t.E.drop (q + 1) := by simp
    have e2 : t.E.set q (blank t.E[q].ser) = t.E.take q ++ blank t.E[q].ser :: t.E.drop (q + 1) := List.set_eq_take_append_cons_drop.trans (by rw [if_pos hq])
    have f1 : (stay t.E).length = (stay (t.E.take q)).length + (1 + (stay (t.E.drop (q + 1))).length) := by
      conv => lhs; rw [e1]
      rw [stay_append, List.length_append]
      rw [stay_live hg, List.length_cons]; omega
    rw [f1, e2, stay_append, List.length_append, stay_gone (show (blank t.E[q].ser).gone = true from rfl)]; omega
  have hlv : ∀ k, (liveAt t.E k ∧ k ≠ q) ↔ liveAt (t.E.set q (blank t.E[q].ser)) k := fun k => by
    simp only [liveAt, List.getElem?_set]
    by_cases hk : q = k
    · subst hk
      simp [hq, blank]
    · simp [hk]
      exact fun _ _ _ e => hk e.symm 
  have hmem : ∀ x ∈ t.E.set q (blank t.E[q].ser), x ∈ t.E ∨ x = blank t.E[q].ser := fun x hm => List.mem_or_eq_of_mem_set hm
  refine ⟨⟨by rw [List.length_set]; exact h.two, ?_, ?_, ?_, ?_, by rw [List.length_set]; exact h.load, ?_, fun x hm => ?_, h.ser0, fun x hm => ?_, fun x hm hgx => ?_⟩, hstay⟩
  · refine ((h.sl.bury hi).ents (fun k x hP hk => ?_)).congr hlv
    have hk2 : q ≠ k := fun e => hP.2 e.symm
    exact ⟨x, by simp only [List.getElem?_set, if_neg hk2, hk], rfl⟩
  · show t.live - 1 = ((stay (t.E.set q (blank t.E[q].ser))).length : Int)
    have := h.liv; omega
  · show (stay (t.E.set q (blank t.E[q].ser))).length ≤ _
    have := h.most; omega
  · show t.used = _
    rw [h.usd, count_set hil (by decide), getD_some hi, if_neg (by omega)]; rfl
  · show Asc (t.E.set q (blank t.E[q].ser))
    rw [e, Asc, List.pairwise_map]
    refine h.asc.imp fun {a b} hab => ?_
    split <;> split <;> exact hab
  · rcases hmem x hm with hm | rfl
    · exact h.sers x hm
    · exact h.sers t.E[q] (List.getElem_mem hq)
  · rcases hmem x hm with hm | rfl
    · exact h.keys x hm
    · exact Nat.zero_le _
  · rcases hmem x hm with hm | rfl
    · exact h.nnul x hm hgx
    · cases hgx
theorem ok_put {t : Tb} (h : t.ok) (hs : t.ser ≤ 1073741824) {key : V} (val : V) (h0 : key.k ≠ 0) (hk : key.t.size ≤ 140737488351232) (hno : ∀ x ∈ stay t.E, x.key ≠ key) (hl : (stay t.E).length < 1048576) (hp : 4 * (t.used + 1) ≤ 3 * (t.S.length : Int)) :
    (putT t key val).ok ∧ stay (putT t key val).E = stay t.E ++ [⟨key, val, t.ser + 1, false⟩] ∧ (putT t key val).ser = t.ser + 1 := by
  have hno' : ∀ q x, liveAt t.E q → t.E[q]? = Option.some x → x.key ≠ key := fun q x hP hx => by
    obtain ⟨y, hy, hg⟩ := hP
    rw [hx] at hy
    obtain rfl := Option.some.inj hy
    exact hno x (mem_stay.2 ⟨List.mem_of_getElem? hx, hg⟩)
  have hc : t.S.countP (fun s => decide (s ≠ 0)) < t.S.length := by have := h.usd; have : 0 ≤ t.used := by omega
                                                                    omega
  have hg := h.sl.free (h.safe hs) hno' (zero_in hc)
  have hil : (findT t key).1 < t.S.length := findT_lt (by omega)
  have hstay : stay (t.E ++ [⟨key, val, t.ser + 1, false⟩]) = stay t.E ++ [⟨key, val, t.ser + 1, false⟩] := by rw [stay_append]; rfl
  have hlast : (t.E ++ [(⟨key, val, t.ser + 1, false⟩ : Ent)])[t.E.length]? = Option.some ⟨key, val, t.ser + 1, false⟩ := by simp
  have hold : ∀ q x, liveAt t.E q → t.E[q]? = Option.some x → ∃ y, (t.E ++ [(⟨key, val, t.ser + 1, false⟩ : Ent)])[q]? = Option.some y ∧ y.key = x.key := fun q x _ hx => ⟨x, by rw [List.getElem?_append_left (List.getElem?_eq_some_iff.1 hx).1]; exact hx, rfl⟩
  have hlv : ∀ k, (liveAt t.E k ∨ k = t.E.length) ↔ liveAt (t.E ++ [(⟨key, val, t.ser + 1, false⟩ : Ent)]) k := fun k => by
    simp only [liveAt]
    by_cases hk : k < t.E.length
    · rw [List.getElem?_append_left hk]
      constructor
      · rintro (h | h)
        · exact h
        · omega
      · exact .inl
    · by_cases hk2 : k = t.E.length
      · subst hk2
        simp
      · rw [List.getElem?_eq_none (by omega : t.E.length ≤ k), List.getElem?_eq_none (by simp; omega)]
        simp [hk2]
  refine ⟨⟨by show (t.S.set _ _).length = 0 ∨ ∃ m, m ≤ 30 ∧ (t.S.set _ _).length = 2 ^ m; rw [List.length_set]; exact h.two, ?_, ?_, ?_, ?_, ?_, ?_, fun x hm => ?_, by show 0 ≤ t.ser + 1; have := h.ser0; omega, fun x hm => ?_, fun x hm hgx => ?_⟩, hstay, rfl⟩
  · refine ((h.sl.ents hold).place hlast (fun q' x' hP hx' => ?_) hg).congr hlv
    obtain ⟨y, hy, hgy⟩ := hP
    rw [List.getElem?_append_left (List.getElem?_eq_some_iff.1 hy).1] at hx'
    exact hno' q' x' ⟨y, hy, hgy⟩ hx'
  · show t.live + 1 = _
    simp only [putT]
    rw [hstay, h.liv]; simp
  · show (stay (t.E ++ [_])).length ≤ _
    rw [hstay]; simp; omega
  · show (if t.S.getD (findT t key).1 0 = (0 : Int) then t.used + 1 else t.used) = ((t.S.set (findT t key).1 ((t.E.length : Int) + 1)).countP _ : Nat)
    rw [count_set hil (by omega), h.usd]
    split <;> simp
  · show 4 * (if t.S.getD (findT t key).1 0 = (0 : Int) then t.used + 1 else t.used) ≤ 3 * ((t.S.set _ _).length : Int)
    rw [List.length_set]
    split <;> omega
  · show Asc (t.E ++ [_])
    refine List.pairwise_append.2 ⟨h.asc, List.pairwise_singleton .., fun a ha b hb => ?_⟩
    obtain rfl := List.mem_singleton.1 hb
    have := (h.sers a ha).2
    show a.ser < t.ser + 1
    omega
  · show 1 ≤ x.ser ∧ x.ser ≤ t.ser + 1
    rcases List.mem_append.1 hm with hm | hm
    · have := h.sers x hm; omega
    · obtain rfl := List.mem_singleton.1 hm
      have := h.ser0
      exact ⟨by show 1 ≤ t.ser + 1; omega, Int.le_refl _⟩
  · rcases List.mem_append.1 hm with hm | hm
    · exact h.keys x hm
    · obtain rfl := List.mem_singleton.1 hm
      exact hk
  · rcases List.mem_append.1 hm with hm | hm
    · exact h.nnul x hm hgx
    · obtain rfl := List.mem_singleton.1 hm
      exact h0
theorem fill_ok (L : List Ent) (m : Nat) (hm : m ≤ 30) (hn : L.length < 2 ^ m) (hd : L.Pairwise (fun a b => a.key ≠ b.key)) :
    ∀ j, j ≤ L.length → Slots L (fillT L j (List.replicate (2 ^ m) 0)) (fun k => k < j) ∧ (∀ (i : Nat) (s : Int), (fillT L j (List.replicate (2 ^ m) 0))[i]? = some s → s ≠ -1) ∧ (fillT L j (List.replicate (2 ^ m) 0)).countP (fun s => decide (s ≠ 0)) = j
  | 0, _ => by
    refine ⟨⟨fun i s h => .inl ?_, fun q h => absurd h (by omega), fun q q' x x' h => absurd h (by omega), fun i j q h => ?_⟩, fun i s h => ?_, ?_⟩
    · simp only [fillT, List.getElem?_replicate] at h
      split at h
      · exact (Option.some.inj h).symm
      · cases h
    · simp only [fillT, List.getElem?_replicate] at h
      split at h
      · have := Option.some.inj h; omega
      · cases h
    · simp only [fillT, List.getElem?_replicate] at h
      split at h
      · have := Option.some.inj h; omega
      · cases h
    · simp [fillT, List.countP_replicate]
  | j + 1, hj => by
    obtain ⟨h1, h2, h3⟩ := fill_ok L m hm hn hd j (by omega)
    have hlen : (fillT L j (List.replicate (2 ^ m) 0)).length = 2 ^ m := by rw [fillT_length, List.length_replicate]
    have hpow : 2 ^ m ≤ 1073741824 := Nat.pow_le_pow_right (by decide) hm
    have hjl : j < L.length := by omega
    have hxj : L[j]? = some L[j] := List.getElem?_eq_getElem hjl
    have hsafe : (⟨L, fillT L j (List.replicate (2 ^ m) 0), 0, 0, 0⟩ : Tb).safe := ⟨.inr ⟨m, hm, hlen⟩, fun i s hi => by
      rcases h1.inP i s hi with e | e | ⟨q, e, hq⟩
      · exact .inl e
      · exact .inr (.inl e)
      · exact .inr (.inr ⟨by omega, by show s ≤ (L.length : Int); omega⟩), by show L.length ≤ _; omega⟩
    have hkey : (L.getD j (blank 0)).key = L[j].key := by rw [List.getD_eq_getElem?_getD, hxj]; rfl
    have hno : ∀ (q : Nat) (x : Ent), q < j → L[q]? = some x → x.key ≠ L[j].key := fun q x hq hx => by
      have := List.pairwise_iff_getElem.1 hd q j (by omega) hjl hq
      rw [List.getElem?_eq_getElem (by omega)] at hx
      obtain rfl := Option.some.inj hx
      exact this
    have hg := Slots.free (t := ⟨L, fillT L j (List.replicate (2 ^ m) 0), 0, 0, 0⟩) hsafe h1 hno (zero_in (by show List.countP _ (fillT L j (List.replicate (2 ^ m) 0)) < (fillT L j (List.replicate (2 ^ m) 0)).length; rw [h3, hlen]; omega))
    have hi : (findT ⟨L, fillT L j (List.replicate (2 ^ m) 0), 0, 0, 0⟩ L[j].key).1 < (fillT L j (List.replicate (2 ^ m) 0)).length := findT_lt (t := ⟨L, fillT L j (List.replicate (2 ^ m) 0), 0, 0, 0⟩) (by show 0 < (fillT L j (List.replicate (2 ^ m) 0)).length; rw [hlen]; exact Nat.two_pow_pos m)
    rw [fillT, hkey]
    obtain ⟨D, hD, hDi, hv, hw⟩ := id hg
    have hv0 : (fillT L j (List.replicate (2 ^ m) 0)).getD (findT ⟨L, fillT L j (List.replicate (2 ^ m) 0), 0, 0, 0⟩ L[j].key).1 0 = 0 := by
      rcases hv with hv | hv
      · exact hv
      · exact absurd hv (h2 _ _ (some_getD hi))
    refine ⟨(h1.place hxj hno hg).congr (fun k => by omega), fun i s hs => ?_, ?_⟩
    · rw [List.getElem?_set] at hs
      split at hs
      · have := Option.some.inj hs; omega
      · exact h2 i s hs
    · rw [count_set hi (by omega), hv0, h3]; simp
theorem ok_rehash {t : Tb} (h : t.ok) {m : Nat} (hm : m ≤ 30) (hp : 4 * ((stay t.E).length + 1) ≤ 2 * 2 ^ m) :
    (⟨stay t.E, fillT (stay t.E) (stay t.E).length (List.replicate (2 ^ m) 0), t.live, t.live, t.ser⟩ : Tb).ok := by
  have hlen : (fillT (stay t.E) (stay t.E).length (List.replicate (2 ^ m) 0)).length = 2 ^ m := by rw [fillT_length, List.length_replicate]
  obtain ⟨h1, h2, h3⟩ := fill_ok (stay t.E) m hm (by omega) h.keysne _ (Nat.le_refl _)
  have hss : stay (stay t.E) = stay t.E := by simp [stay]
  have hlv : ∀ k, k < (stay t.E).length ↔ liveAt (stay t.E) k := fun k => by
    constructor
    · intro hk
      exact ⟨(stay t.E)[k], List.getElem?_eq_getElem hk, (mem_stay.1 (List.getElem_mem hk)).2⟩
    · rintro ⟨x, hx, -⟩
      exact (List.getElem?_eq_some_iff.1 hx).1
  refine ⟨.inr ⟨m, hm, hlen⟩, h1.congr hlv, ?_, ?_, ?_, ?_, h.asc.filter _, fun x hx => h.sers x (mem_stay.1 hx).1, h.ser0, fun x hx => h.keys x (mem_stay.1 hx).1, fun x hx hg => h.nnul x (mem_stay.1 hx).1 hg⟩
  · show t.live = _
    rw [hss]; exact h.liv
  · show (stay (stay t.E)).length ≤ _
    rw [hss]; exact h.most
  · show t.live = _
    rw [h3, h.liv]
  · show 4 * t.live ≤ 3 * _
    rw [hlen, h.liv]
    have : ((2 ^ m : Nat) : Int) ≥ 0 := by omega
    omega
end Go.Proofs.Ytmefdniocgcckaa
/- Layer 5: tables by what is there: each act's contract. -/
namespace Go.Proofs.Ytmefdniocgcckaa
open Go.RowKit
set_option maxRecDepth 100000

/-- A table at b: the entries that are there, in order; the last serial. -/
def IsT (w : World) (F : Nat → Prop) (b : Nat) (L : List Ent) (s : Int) : Prop := ∃ t : Tb, IsTab w F b t ∧ t.ok ∧ stay t.E = L ∧ t.ser = s
theorem IsT.keeps {w w1 : World} {F S : Nat → Prop} {b : Nat} {L : List Ent} {s : Int} (h : IsT w F b L s) (hk : Keeps S w w1) (hn : Apart F S) : IsT w1 F b L s := by
  obtain ⟨t, h1, h2⟩ := h
  exact ⟨t, h1.keeps hk hn, h2⟩
theorem IsT.none {w w1 : World} {F : Nat → Prop} {b : Nat} {L : List Ent} {s : Int} (h : IsT w F b L s) (hk : Keeps (fun _ => False) w w1) : IsT w1 F b L s := h.keeps hk (Apart.no _)
theorem IsT.inw {w : World} {F : Nat → Prop} {b : Nat} {L : List Ent} {s : Int} (h : IsT w F b L s) : In F w := by obtain ⟨t, h1, _⟩ := h; exact h1.inw
/-- What is always so of the entries that are there. -/
structure Lok (L : List Ent) (s : Int) : Prop where
  asc : Asc L
  sers : ∀ x ∈ L, 1 ≤ x.ser ∧ x.ser ≤ s
  live : ∀ x ∈ L, x.gone = false
  kne : L.Pairwise (fun a b => a.key ≠ b.key)
  keys : ∀ x ∈ L, x.key.t.size ≤ 140737488351232
  nnul : ∀ x ∈ L, x.key.k ≠ 0
  most : L.length ≤ 1048576
  pos : 0 ≤ s
theorem IsT.lok {w : World} {F : Nat → Prop} {b : Nat} {L : List Ent} {s : Int} (h : IsT w F b L s) : Lok L s := by
  obtain ⟨t, _, ho, rfl, rfl⟩ := h
  exact ⟨ho.asc.filter _, fun x hx => ho.sers x (mem_stay.1 hx).1, fun x hx => (mem_stay.1 hx).2, ho.keysne, fun x hx => ho.keys x (mem_stay.1 hx).1, fun x hx => ho.nnul x (mem_stay.1 hx).1 (mem_stay.1 hx).2, ho.most, ho.ser0⟩
theorem t_New (w : World) : Calls Try.prog 30 #[] w fun e w' => ∃ b F, e = .returned (.pointer (some ⟨b, 0, none⟩)) ∧ IsT w' F b [] 0 ∧ Keeps (fun _ => False) w w' ∧ Fresh (fun _ => False) F w :=
  (table_New w).mono fun _ _ ⟨b, F, he, h, hk, hf⟩ => ⟨b, F, he, ⟨_, h, ok_clear 0 (by decide), rfl, rfl⟩, hk, hf⟩
section
variable {w : World} {F : Nat → Prop} {b : Nat} {L : List Ent} {s : Int}
theorem t_Get_some (h : IsT w F b L s) (hs : s < 1073741824) {x : Ent} (hx : x ∈ L) :
    Calls Try.prog 67 #[.pointer (some ⟨b, 0, none⟩), x.key.val] w fun e w' => e = .returned (.tuple #[x.val.val, .int .i64 0]) ∧ Keeps (fun _ => False) w w' := by
  obtain ⟨t, h1, ho, rfl, rfl⟩ := h
  obtain ⟨q, hq, e, hf, hS⟩ := ho.there (by omega) hx
  exact (table_Get_some w F b t x.key h1 (ho.safe (by omega)) (ho.keys x (mem_stay.1 hx).1) q hq hf hS).mono fun _ _ ⟨he, hw⟩ => ⟨by rw [he, e], hw⟩
theorem t_Get_none (h : IsT w F b L s) (hs : s < 1073741824) {key : V} (hk : key.t.size ≤ 140737488351232) (hx : ∀ x ∈ L, x.key ≠ key) :
    Calls Try.prog 67 #[.pointer (some ⟨b, 0, none⟩), key.val] w fun e w' => e = .returned (.tuple #[V.val V.null, .int .i64 3]) ∧ Keeps (fun _ => False) w w' := by
  obtain ⟨t, h1, ho, rfl, rfl⟩ := h
  exact table_Get_none w F b t key h1 (ho.safe (by omega)) hk (ho.absent (by omega) hx)
theorem t_Put_long (h : IsT w F b L s) (hs : s < 1073741824) {key : V} (val : V) (h0 : key.k ≠ 0) (hk : key.t.size ≤ 140737488351232) (hx : ∀ x ∈ L, x.key ≠ key) (hl : L.length = 1048576) :
    Calls Try.prog 37 #[.pointer (some ⟨b, 0, none⟩), key.val, val.val] w fun e w' => e = .returned (.int .i64 2) ∧ Keeps (fun _ => False) w w' := by
  obtain ⟨t, h1, ho, rfl, rfl⟩ := h
  exact table_Put_long w F b t key val h1 (ho.safe (by omega)) hk h0 (ho.absent (by omega) hx) (by rw [ho.liv, hl]; rfl)
theorem t_Put_there (h : IsT w F b L s) (hs : s < 1073741824) {x : Ent} (hx : x ∈ L) (val : V) :
    Calls Try.prog 37 #[.pointer (some ⟨b, 0, none⟩), x.key.val, val.val] w fun e w' => e = .returned (.int .i64 0) ∧ IsT w' F b (putL L x.key val) s ∧ Keeps F w w' := by
  obtain ⟨t, h1, ho, rfl, rfl⟩ := h
  obtain ⟨q, hq, e, hf, hS⟩ := ho.there (by omega) hx
  have hg : t.E[q].gone = false := by rw [e]; exact (mem_stay.1 hx).2
  obtain ⟨k1, k2⟩ := ok_val ho hq hg val
  exact (table_Put_there w F b t x.key val h1 (ho.safe (by omega)) (ho.keys x (mem_stay.1 hx).1) (ho.nnul x (mem_stay.1 hx).1 (mem_stay.1 hx).2) q hq hf hS).mono fun _ _ ⟨he, ht, hw⟩ => ⟨he, ⟨_, ht, k1, by rw [← e]; exact k2, rfl⟩, hw⟩
theorem t_Put_new (h : IsT w F b L s) (hs : s < 1073741823) {key : V} (val : V) (h0 : key.k ≠ 0) (hk : key.t.size ≤ 140737488351232) (hx : ∀ x ∈ L, x.key ≠ key) (hl : L.length < 1048576) :
    Calls Try.prog 37 #[.pointer (some ⟨b, 0, none⟩), key.val, val.val] w fun e w' => ∃ F' : Nat → Prop, e = .returned (.int .i64 0) ∧ IsT w' F' b (L ++ [⟨key, val, s + 1, false⟩]) (s + 1) ∧ Keeps F w w' ∧ Fresh F F' w := by
  obtain ⟨t, h1, ho, rfl, rfl⟩ := h
  have hf := ho.absent (by omega) hx
  have hmany := ho.many
  have hu0 : 0 ≤ t.used := by rw [ho.usd]; omega
  have hroom : t.room := ⟨⟨ho.ser0, by omega⟩, ⟨hu0, by have := ho.load; omega⟩, ⟨by rw [ho.liv]; omega, by rw [ho.liv]; omega⟩, by omega⟩
  by_cases hp : 4 * (t.used + 1) ≤ 3 * (t.S.length : Int)
  · obtain ⟨k1, k2, k3⟩ := ok_put ho (by omega) val h0 hk hx hl hp
    exact (table_Put_plain w F b t key val h1 (ho.safe (by omega)) hk h0 hf hroom hp).mono fun _ _ ⟨F', he, ht, hw⟩ => ⟨F', he, ⟨_, ht, k1, k2, k3⟩, hw⟩
  · refine (table_Put_more w F b t key val h1 (ho.safe (by omega)) hk h0 hf hroom (by omega) ho.liv ho.keys ho.len).mono fun _ _ ⟨F', m, he, hm2, hm30, hp2, ht, hw⟩ => ⟨F', he, ?_, hw⟩
    have k0 := ok_rehash ho hm30 hp2
    have hss : stay (stay t.E) = stay t.E := by simp [stay]
    have hlen : (fillT (stay t.E) (stay t.E).length (List.replicate (2 ^ m) 0)).length = 2 ^ m := by rw [fillT_length, List.length_replicate]
    obtain ⟨k1, k2, k3⟩ := ok_put k0 (by show t.ser ≤ _; omega) val h0 hk (by show ∀ x ∈ stay (stay t.E), _; rw [hss]; exact hx) (by show (stay (stay t.E)).length < _; rw [hss]; exact hl) (by
      show 4 * (t.live + 1) ≤ 3 * ((fillT (stay t.E) (stay t.E).length (List.replicate (2 ^ m) 0)).length : Int)
      rw [hlen, ho.liv]
      omega)
    exact ⟨_, ht, k1, by rw [k2]; show stay (stay t.E) ++ _ = _; rw [hss], k3⟩
theorem nextT_stay (E : List Ent) (c : Int) : nextT E c = nextT (stay E) c := by
  induction E with
  | nil => rfl
  | cons x xs ih =>
    simp only [nextT] at ih ⊢
    cases hg : x.gone with
    | true => rw [stay_gone hg, List.find?_cons, hg]; simpa using ih
    | false => rw [stay_live hg, List.find?_cons, List.find?_cons, hg]; split <;> simp_all
theorem t_Next (h : IsT w F b L s) (hs : s < 1073741824) (c : Int) :
    Calls Try.prog 38 #[.pointer (some ⟨b, 0, none⟩), .int .i64 c] w fun e w' => e = .returned (nextAns L c) ∧ Keeps (fun _ => False) w w' := by
  obtain ⟨t, h1, ho, rfl, rfl⟩ := h
  have hmany := ho.many
  exact (table_Next w F b t c h1 (by omega) (fun i j hij hj => List.pairwise_iff_getElem.1 ho.asc i j (by omega) hj hij)).mono fun _ _ ⟨he, hw⟩ => ⟨by rw [he, nextAns, nextAns, nextT_stay], hw⟩
end
end Go.Proofs.Ytmefdniocgcckaa
