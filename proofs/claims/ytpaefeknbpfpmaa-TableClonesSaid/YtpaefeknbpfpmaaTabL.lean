/- Layer 5: tables: the next key. -/
import Derived.Test.YtpaefeknbpfpmaaTabK
namespace Go.Proofs.Ytpaefeknbpfpmaa
open Go.RowKit
set_option maxRecDepth 100000

/-- The first entry behind a cursor that isn't gone. -/
def nextT (E : List Ent) (c : Int) : Option Ent := E.find? (fun e => decide (c < e.ser) && !e.gone)
def nextAns (E : List Ent) (c : Int) : Value :=
  match nextT E c with
  | some x => .tuple #[.int .i64 x.ser, x.key.val, x.val.val, .bool true]
  | none => .tuple #[.int .i64 c, V.val V.null, V.val V.null, .bool false]
theorem Ents.sub {w : World} {A : Option Addr} {E : List Ent} (h : Ents w A E) (i : Nat) : Ents w (Option.map (fun x => x.add (i * 8)) A) (E.drop i) := fun j x hj => by
  rw [List.getElem?_drop] at hj
  obtain ⟨g, o, rfl, hx⟩ := h (i + j) x hj
  refine ⟨g, o + i * 8, by simp [add_at3], ?_⟩
  have e : o + (i + j) * 8 = o + i * 8 + j * 8 := by omega
  obtain ⟨h0, h1, h2, h3, h4, h5, h6, h7⟩ := hx
  rw [e] at h0 h1 h2 h3 h4 h5 h6 h7
  exact ⟨h0, h1, h2, h3, h4, h5, h6, h7⟩
theorem two_vars {w : World} {r q : Nat} {x y : V} (h1 : IsVar w r V.null) (h2 : IsVar w q V.null) (hn : r ≠ q) (o : Obj) :
    IsVar (((((((w.setCell ⟨r, 0, none⟩ (.int .i64 x.k)).setCell ⟨r, 1, none⟩ (.int .i64 x.n)).setCell ⟨r, 2, none⟩ (.string x.t)).setCell ⟨q, 0, none⟩ (.int .i64 y.k)).setCell ⟨q, 1, none⟩ (.int .i64 y.n)).setCell ⟨q, 2, none⟩ (.string y.t)).alloc o) r x ∧
    IsVar (((((((w.setCell ⟨r, 0, none⟩ (.int .i64 x.k)).setCell ⟨r, 1, none⟩ (.int .i64 x.n)).setCell ⟨r, 2, none⟩ (.string x.t)).setCell ⟨q, 0, none⟩ (.int .i64 y.k)).setCell ⟨q, 1, none⟩ (.int .i64 y.n)).setCell ⟨q, 2, none⟩ (.string y.t)).alloc o) q y := by
  refine ⟨blk_alloc (blk_far (p := ⟨q, 2, none⟩) (blk_far (p := ⟨q, 1, none⟩) (blk_far (p := ⟨q, 0, none⟩) (h1.set x) hn _) hn _) hn _) o, ?_⟩
  have h3 : IsVar (((w.setCell ⟨r, 0, none⟩ (.int .i64 x.k)).setCell ⟨r, 1, none⟩ (.int .i64 x.n)).setCell ⟨r, 2, none⟩ (.string x.t)) q V.null := blk_far (p := ⟨r, 2, none⟩) (blk_far (p := ⟨r, 1, none⟩) (blk_far (p := ⟨r, 0, none⟩) h2 (fun e => hn e.symm) _) (fun e => hn e.symm) _) (fun e => hn e.symm) _
  exact blk_alloc (h3.set y) o
theorem two_vars0 {w : World} {r q : Nat} {x y : V} (h1 : IsVar w r V.null) (h2 : IsVar w q V.null) (hn : r ≠ q) :
    IsVar ((((((w.setCell ⟨r, 0, none⟩ (.int .i64 x.k)).setCell ⟨r, 1, none⟩ (.int .i64 x.n)).setCell ⟨r, 2, none⟩ (.string x.t)).setCell ⟨q, 0, none⟩ (.int .i64 y.k)).setCell ⟨q, 1, none⟩ (.int .i64 y.n)).setCell ⟨q, 2, none⟩ (.string y.t)) r x ∧
    IsVar ((((((w.setCell ⟨r, 0, none⟩ (.int .i64 x.k)).setCell ⟨r, 1, none⟩ (.int .i64 x.n)).setCell ⟨r, 2, none⟩ (.string x.t)).setCell ⟨q, 0, none⟩ (.int .i64 y.k)).setCell ⟨q, 1, none⟩ (.int .i64 y.n)).setCell ⟨q, 2, none⟩ (.string y.t)) q y := by
  refine ⟨blk_far (p := ⟨q, 2, none⟩) (blk_far (p := ⟨q, 1, none⟩) (blk_far (p := ⟨q, 0, none⟩) (h1.set x) hn _) hn _) hn _, ?_⟩
  have h3 : IsVar (((w.setCell ⟨r, 0, none⟩ (.int .i64 x.k)).setCell ⟨r, 1, none⟩ (.int .i64 x.n)).setCell ⟨r, 2, none⟩ (.string x.t)) q V.null := blk_far (p := ⟨r, 2, none⟩) (blk_far (p := ⟨r, 1, none⟩) (blk_far (p := ⟨r, 0, none⟩) h2 (fun e => hn e.symm) _) (fun e => hn e.symm) _) (fun e => hn e.symm) _
  exact h3.set y
/-- What comes behind: the entries from i on are those behind the cursor. -/
theorem nextT_drop {E : List Ent} {c : Int} {i : Nat} (hi : i ≤ E.length) (h1 : ∀ (j : Nat) (hj : j < E.length), j < i → E[j].ser ≤ c) (h2 : ∀ (j : Nat) (hj : j < E.length), i ≤ j → c < E[j].ser) : nextT E c = (E.drop i).find? (fun e => !e.gone) := by
  have e : E = E.take i ++ E.drop i := (List.take_append_drop i E).symm
  have n1 : (E.take i).find? (fun e => decide (c < e.ser) && !e.gone) = none := by
    rw [List.find?_eq_none]
    intro x hx
    obtain ⟨j, hj, rfl⟩ := List.mem_take_iff_getElem.1 hx
    have := h1 j (by omega) (by omega)
    simp; intro h; omega
  have n2 : ∀ L : List Ent, (∀ x ∈ L, c < x.ser) → L.find? (fun e => decide (c < e.ser) && !e.gone) = L.find? (fun e => !e.gone) := by
    intro L
    induction L with
    | nil => intro _; rfl
    | cons x l ih =>
      intro hL
      rw [List.find?_cons, List.find?_cons, ih (fun y hy => hL y (List.mem_cons_of_mem _ hy))]
      have := hL x (List.mem_cons_self ..)
      simp [this]
  rw [nextT]
  conv => lhs; rw [e]
  rw [List.find?_append, n1, Option.none_or]
  refine n2 _ fun x hx => ?_
  obtain ⟨j, hj, rfl⟩ := List.mem_iff_getElem.1 hx
  rw [List.getElem_drop]
  exact h2 _ (by simp at hj; omega) (by omega)
theorem find_skip {L : List Ent} {k : Nat} (h : ∀ (j : Nat) (hj : j < L.length), j < k → L[j].gone = true) (hk : k < L.length) (hg : L[k].gone = false) : L.find? (fun e => !e.gone) = some L[k] := by
  rw [List.find?_eq_some_iff_getElem]
  refine ⟨by simp [hg], k, hk, rfl, fun j hj => ?_⟩
  simp [h j (by omega) hj]
theorem find_none {L : List Ent} (h : ∀ (j : Nat) (hj : j < L.length), L[j].gone = true) : L.find? (fun e => !e.gone) = none := by
  rw [List.find?_eq_none]
  intro x hx
  obtain ⟨j, hj, rfl⟩ := List.mem_iff_getElem.1 hx
  simp [h j hj]
set_option maxHeartbeats 8000000 in
theorem table_Next (w : World) (F : Nat → Prop) (b : Nat) (t : Tb) (c : Int) (h : IsTab w F b t) (hl : t.E.length ≤ 1073741824) (hso : ∀ (i j : Nat) (hij : i < j) (hj : j < t.E.length), t.E[i].ser < t.E[j].ser) :
    Calls Try.prog 14 #[.pointer (some ⟨b, 0, none⟩), .int .i64 c] w fun e w' => e = .returned (nextAns t.E c) ∧ Keeps (fun _ => False) w w' := by
  have H := hidden h
  have key := hidden (fun (W : World) (bt bc : Nat) (hk : Keeps (fun _ => False) w W) h1 h2 => search_next W F b bt bc t c (h.none hk) h1 h2 hl hso)
  obtain ⟨ve, vs, hT⟩ := h
  obtain ⟨Ae, ce, rfl⟩ := hT.ents.form
  have HT := hidden hT
  have b0 := blk_cell hT.blk 0
  simp only [List.getElem?_toArray, List.getElem?_cons_zero] at b0
  have hbz := blk_lt hT.blk
  have hcap := hT.ents.cap
  have hb1 : b < w.heap.size + 1 := by omega
  have hb2 : b < w.heap.size + 1 + 1 := by omega
  have hb3 : b < w.heap.size + 1 + 1 + 1 := by omega
  clear hT hso
  obtain ⟨E, S, live, used, ser⟩ := t
  simp only at *
  refine post_gen fun R hR => ?_
  go_enter Try.func14, Try.ntmps14
  go_wp2_with fail
  obtain ⟨w4, hw4⟩ : ∃ w4, w4 = ((((w.alloc (.cells #[.pointer (some ⟨b, 0, none⟩)] 25)).alloc (.cells #[.int .i64 c] 2)).alloc (.cells #[.int .i64 0, .int .i64 0, .string ⟨#[]⟩] 30)).alloc (.cells #[.int .i64 0, .int .i64 0, .string ⟨#[]⟩] 30)) := ⟨_, rfl⟩
  have k1 : Keeps (fun _ => False) w (w.alloc (.cells #[.pointer (some ⟨b, 0, none⟩)] 25)) := (Keeps.refl _ w).alloc _
  have s1 : (w.alloc (.cells #[.pointer (some ⟨b, 0, none⟩)] 25)).heap.size = w.heap.size + 1 := by simp
  have HK4 := hidden (show Keeps (fun _ => False) w w4 from hw4 ▸ ((((Keeps.refl _ w).alloc _).alloc _).alloc _).alloc _)
  have HC0 := hidden (show w4.heap[w.heap.size]? = some (.cells #[.pointer (some ⟨b, 0, none⟩)] 25 (0, 0)) from hw4 ▸ blk_alloc (blk_alloc (blk_alloc (blk_new w _) _) _) _)
  have HC1 := hidden (show w4.heap[w.heap.size + 1]? = some (.cells #[.int .i64 c] 2 (0, 0)) from hw4 ▸ blk_alloc (blk_alloc (new2t w _ _) _) _)
  have HC2 := hidden (show IsVar w4 (w.heap.size + 1 + 1) V.null from hw4 ▸ blk_alloc (s1 ▸ new2t (w.alloc (.cells #[.pointer (some ⟨b, 0, none⟩)] 25)) _ _) _)
  have HC3 := hidden (show IsVar w4 (w.heap.size + 1 + 1 + 1) V.null from by
    have := new2t ((w.alloc (.cells #[.pointer (some ⟨b, 0, none⟩)] 25)).alloc (.cells #[.int .i64 c] 2)) (.cells #[.int .i64 0, .int .i64 0, .string ⟨#[]⟩] 30) (.cells #[.int .i64 0, .int .i64 0, .string ⟨#[]⟩] 30)
    rw [show ((w.alloc (.cells #[.pointer (some ⟨b, 0, none⟩)] 25)).alloc (.cells #[.int .i64 c] 2)).heap.size = w.heap.size + 1 + 1 by simp, ← hw4] at this
    exact this)
  rw [← hw4]
  clear hw4 k1 s1
  refine (key.out w4 w.heap.size (w.heap.size + 1) HK4.out (blk_cell HC0.out 0) (blk_cell HC1.out 0)).mono ?_
  rintro e w5 ⟨i, rfl, hi, hlo, hhi, hD⟩
  have HK5 := hidden (HK4.out.trans (hD.keeps _) (fun _ _ h => h))
  have hk5 := hD.keeps (fun _ => False)
  have D0 := hidden (hk5.heap HC0.out (fun h => h))
  have D1 := hidden (hk5.heap HC1.out (fun h => h))
  have D2 := hidden (show IsVar w5 (w.heap.size + 1 + 1) V.null from hk5.heap HC2.out (fun h => h))
  have D3 := hidden (show IsVar w5 (w.heap.size + 1 + 1 + 1) V.null from hk5.heap HC3.out (fun h => h))
  have TT := hidden (HT.out.none HK5.out)
  have HLO := hidden hlo
  have HHI := hidden hhi
  clear hk5 hD hlo hhi HC0 HC1 HC2 HC3 HK4 key H b0
  have p0 := blk_cell D0.out 0
  have p1 := blk_cell D1.out 0
  have b0 := blk_cell TT.out.blk 0
  simp only [List.getElem?_toArray, List.getElem?_cons_zero] at p0 p1 b0
  have hz0 := blk_lt D0.out
  have hz1 := blk_lt D1.out
  have hz2 := blk_lt D2.out
  have hz3 := blk_lt D3.out
  have hbz5 := blk_lt TT.out.blk
  have hi1 : (i : Int) ≤ (E.length : Int) := by omega
  have hi2 : (i : Int) ≤ (ce : Int) := by omega
  have HND := hidden (nextT_drop hi HLO.out HHI.out)
  have HEA := hidden (Ents.own TT.out.ents.1)
  clear HLO HHI
  by_cases hz : ce = i
  · have hei : E.length = i := by omega
    have hLl : (E.drop i).length = E.length - i := List.length_drop
    have HE := hidden (show Ents w5 Ae (E.drop i) from by rw [List.drop_eq_nil_of_le (by omega)]; exact fun j x hx => by simp at hx)
    subst hz
    clear hei hcap
    generalize E.drop ce = L at *
    obtain ⟨m, hm⟩ : ∃ m, m = E.length - ce := ⟨_, rfl⟩
    have hmb : m ≤ 1073741824 := by omega
    have HM := hidden hm
    rw [← hm] at hLl
    have HLL := hidden hLl
    clear hLl
    go_wp2_with fail
    rw [← HM.out]
    clear hm b0
    go_loopw [25] (fun j wr => ∃ k : Nat, k ≤ m ∧ j = .int .i64 k ∧ Hid (∀ (j : Nat) (hj : j < L.length), j < k → L[j].gone = true) ∧ Keeps (fun _ => False) w5 wr) (fun j _ => m - (intOf j).toNat)
    case atStart => exact ⟨0, Nat.zero_le _, rfl, hidden (fun j hj h => absurd h (by omega)), Keeps.refl _ _⟩
    case round =>
      obtain ⟨k, hk, rfl, HG, hK⟩ := hrel
      have HK := hidden hK
      have D2r := hidden (show IsVar wr (w.heap.size + 1 + 1) V.null from hK.heap D2.out (fun h => h))
      have D3r := hidden (show IsVar wr (w.heap.size + 1 + 1 + 1) V.null from hK.heap D3.out (fun h => h))
      have D1r := hidden (hK.heap D1.out (fun h => h))
      by_cases hlt : k < m
      · have hkL : k < L.length := by rw [HLL.out]; exact hlt
        obtain ⟨g, o, hAe, ⟨e0, e1, e2, e3, e4, e5, e6, e7⟩⟩ := (HE.out.keeps hK (fun _ _ _ _ h => h)) k L[k] (List.getElem?_eq_getElem hkL)
        have hg := World.block_lt_of_cell? wr _ e0
        cases hgn : L[k].gone with
        | true =>
          rw [hgn] at e7
          have HG2 := hidden (show ∀ (j : Nat) (hj : j < L.length), j < k + 1 → L[j].gone = true from fun j hj h => by
            by_cases hjk : j = k
            · subst hjk; exact hgn
            · exact HG.out j hj (by omega))
          clear hgn hK HG
          generalize L[k] = x at *
          go_wp2_with fail
          go_roundw
          case rel => exact ⟨k + 1, hlt, by go_num, HG2, HK.out.alloc _⟩
          case measure => simp [intOf]; omega
        | false =>
          rw [hgn] at e7
          have HF := hidden (HND.out.trans (find_skip HG.out hkL hgn))
          clear hK HG
          generalize L[k] = x at *
          obtain ⟨⟨xk, xn, xt⟩, ⟨yk, yn, yt⟩, xs, xg⟩ := x
          simp only at e0 e1 e2 e3 e4 e5 e6 e7 hgn
          subst hgn
          obtain ⟨v0, v1, v2, v3, v4, v5⟩ := D2r.out.cells
          obtain ⟨u0, u1, u2, u3, u4, u5⟩ := D3r.out.cells
          simp only [V.null] at v0 v1 v2 u0 u1 u2
          have hv := blk_lt D2r.out
          have hu := blk_lt D3r.out
          go_wp2_with fail
          go_region
          go_wp2_with fail
          obtain ⟨a1, a2⟩ := two_vars (x := ⟨xk, xn, xt⟩) (y := ⟨yk, yn, yt⟩) D2r.out D3r.out (by omega) (Ent.obj ⟨⟨xk, xn, xt⟩, ⟨yk, yn, yt⟩, xs, false⟩)
          obtain ⟨d0, d1, d2, -⟩ := a1.cells
          obtain ⟨d3, d4, d5, -⟩ := a2.cells
          simp only [Ent.obj] at d0 d1 d2 d3 d4 d5
          exact bodyPost_ret (v := .tuple #[.int .i64 xs, V.val ⟨xk, xn, xt⟩, V.val ⟨yk, yn, yt⟩, .bool true]) (by simp [results, Try.results14, go_sem, d0, d1, d2, d3, d4, d5, V.val]) rfl (hR.out _ _ ⟨by rw [nextAns, HF.out], (((((HK5.out.trans HK.out (fun _ _ h => h)).var (r := w.heap.size + 1 + 1) (fun h => by omega) _ _ _).var (r := w.heap.size + 1 + 1 + 1) (fun h => by omega) _ _ _).alloc _).drew)⟩)
      · obtain rfl : k = m := by omega
        have HF := hidden (HND.out.trans (find_none (fun j hj => HG.out j hj (by rw [← HLL.out]; exact hj))))
        have dn := hidden (fun W => value_Null W)
        simp only [V.val, V.null] at dn
        have HX := hidden trivial
        have q1 := blk_cell D1r.out 0
        simp only [List.getElem?_toArray, List.getElem?_cons_zero] at q1
        clear hK HG
        have hq1 := blk_lt D1r.out
        go_wp2_with fail
        go_region_held3 (fun w' => w'.cell? ⟨w.heap.size + 1, 0, none⟩ = some (.int .i64 c)) (first | (with_reducible exact q1) | (with_reducible exact q6) | (with_reducible exact q7) | go_simp) (first | (go_at_call 50; clear HX; refine (dn.out _).mono ?_; rintro e w6 ⟨rfl, hK⟩; have HK6 := hidden ((HK.out.drewN _).trans hK (fun _ _ h => h)); have D26 := hidden (show IsVar w6 (w.heap.size + 1 + 1) V.null from hK.heap D2r.out (fun h => h)); have D36 := hidden (show IsVar w6 (w.heap.size + 1 + 1 + 1) V.null from hK.heap D3r.out (fun h => h)); have q6 := hK.cell q1 (fun h => h); clear hK) | (go_at_call 50; refine (dn.out _).mono ?_; rintro e w7 ⟨rfl, hK⟩; have HK7 := hidden (HK6.out.trans hK (fun _ _ h => h)); have D27 := hidden (show IsVar w7 (w.heap.size + 1 + 1) V.null from hK.heap D26.out (fun h => h)); have D37 := hidden (show IsVar w7 (w.heap.size + 1 + 1 + 1) V.null from hK.heap D36.out (fun h => h)); have q7 := hK.cell q6 (fun h => h); obtain ⟨v0, v1, v2, v3, v4, v5⟩ := D27.out.cells; obtain ⟨u0, u1, u2, u3, u4, u5⟩ := D37.out.cells; simp only [V.null] at v0 v1 v2 u0 u1 u2; have hv := blk_lt D27.out; have hu := blk_lt D37.out; have NE2 : (∀ j, (⟨w.heap.size + 1 + 1, j, none⟩ : Addr) ≠ ⟨w.heap.size + 1, 0, none⟩) := fun j e => (by simp at e); clear hK))
        all_goals
          go_wp2_with fail
          obtain ⟨a1, a2⟩ := two_vars0 (x := V.null) (y := V.null) D27.out D37.out (by omega)
          obtain ⟨d0, d1, d2, -⟩ := a1.cells
          obtain ⟨d3, d4, d5, -⟩ := a2.cells
          simp only [V.null] at d0 d1 d2 d3 d4 d5
          exact bodyPost_ret (v := .tuple #[.int .i64 c, V.val V.null, V.val V.null, .bool false]) (by simp [results, Try.results14, go_sem, d0, d1, d2, d3, d4, d5, V.val, V.null]) rfl (hR.out _ _ ⟨by rw [nextAns, HF.out], ((HK5.out.trans HK7.out (fun _ _ h => h)).var (r := w.heap.size + 1 + 1) (fun h => by omega) _ _ _).var (r := w.heap.size + 1 + 1 + 1) (fun h => by omega) _ _ _⟩)
  · have HE := hidden (HEA.out.sub i)
    have hLl : (E.drop i).length = E.length - i := List.length_drop
    generalize E.drop i = L at *
    obtain ⟨m, hm⟩ : ∃ m, m = E.length - i := ⟨_, rfl⟩
    have hmb : m ≤ 1073741824 := by omega
    have HM := hidden hm
    rw [← hm] at hLl
    have HLL := hidden hLl
    clear hLl
    go_wp2_with fail
    rw [← HM.out]
    clear hm b0
    go_loopw [25] (fun j wr => ∃ k : Nat, k ≤ m ∧ j = .int .i64 k ∧ Hid (∀ (j : Nat) (hj : j < L.length), j < k → L[j].gone = true) ∧ Keeps (fun _ => False) w5 wr) (fun j _ => m - (intOf j).toNat)
    case atStart => exact ⟨0, Nat.zero_le _, rfl, hidden (fun j hj h => absurd h (by omega)), Keeps.refl _ _⟩
    case round =>
      obtain ⟨k, hk, rfl, HG, hK⟩ := hrel
      have HK := hidden hK
      have D2r := hidden (show IsVar wr (w.heap.size + 1 + 1) V.null from hK.heap D2.out (fun h => h))
      have D3r := hidden (show IsVar wr (w.heap.size + 1 + 1 + 1) V.null from hK.heap D3.out (fun h => h))
      have D1r := hidden (hK.heap D1.out (fun h => h))
      by_cases hlt : k < m
      · have hkL : k < L.length := by rw [HLL.out]; exact hlt
        obtain ⟨g, o, hAe, ⟨e0, e1, e2, e3, e4, e5, e6, e7⟩⟩ := (HE.out.keeps hK (fun _ _ _ _ h => h)) k L[k] (List.getElem?_eq_getElem hkL)
        have hg := World.block_lt_of_cell? wr _ e0
        cases hgn : L[k].gone with
        | true =>
          rw [hgn] at e7
          have HG2 := hidden (show ∀ (j : Nat) (hj : j < L.length), j < k + 1 → L[j].gone = true from fun j hj h => by
            by_cases hjk : j = k
            · subst hjk; exact hgn
            · exact HG.out j hj (by omega))
          clear hgn hK HG
          generalize L[k] = x at *
          go_wp2_with fail
          go_roundw
          case rel => exact ⟨k + 1, hlt, by go_num, HG2, HK.out.alloc _⟩
          case measure => simp [intOf]; omega
        | false =>
          rw [hgn] at e7
          have HF := hidden (HND.out.trans (find_skip HG.out hkL hgn))
          clear hK HG
          generalize L[k] = x at *
          obtain ⟨⟨xk, xn, xt⟩, ⟨yk, yn, yt⟩, xs, xg⟩ := x
          simp only at e0 e1 e2 e3 e4 e5 e6 e7 hgn
          subst hgn
          obtain ⟨v0, v1, v2, v3, v4, v5⟩ := D2r.out.cells
          obtain ⟨u0, u1, u2, u3, u4, u5⟩ := D3r.out.cells
          simp only [V.null] at v0 v1 v2 u0 u1 u2
          have hv := blk_lt D2r.out
          have hu := blk_lt D3r.out
          go_wp2_with fail
          go_region
          go_wp2_with fail
          obtain ⟨a1, a2⟩ := two_vars (x := ⟨xk, xn, xt⟩) (y := ⟨yk, yn, yt⟩) D2r.out D3r.out (by omega) (Ent.obj ⟨⟨xk, xn, xt⟩, ⟨yk, yn, yt⟩, xs, false⟩)
          obtain ⟨d0, d1, d2, -⟩ := a1.cells
          obtain ⟨d3, d4, d5, -⟩ := a2.cells
          simp only [Ent.obj] at d0 d1 d2 d3 d4 d5
          exact bodyPost_ret (v := .tuple #[.int .i64 xs, V.val ⟨xk, xn, xt⟩, V.val ⟨yk, yn, yt⟩, .bool true]) (by simp [results, Try.results14, go_sem, d0, d1, d2, d3, d4, d5, V.val]) rfl (hR.out _ _ ⟨by rw [nextAns, HF.out], (((((HK5.out.trans HK.out (fun _ _ h => h)).var (r := w.heap.size + 1 + 1) (fun h => by omega) _ _ _).var (r := w.heap.size + 1 + 1 + 1) (fun h => by omega) _ _ _).alloc _).drew)⟩)
      · obtain rfl : k = m := by omega
        have HF := hidden (HND.out.trans (find_none (fun j hj => HG.out j hj (by rw [← HLL.out]; exact hj))))
        have dn := hidden (fun W => value_Null W)
        simp only [V.val, V.null] at dn
        have HX := hidden trivial
        have q1 := blk_cell D1r.out 0
        simp only [List.getElem?_toArray, List.getElem?_cons_zero] at q1
        clear hK HG
        have hq1 := blk_lt D1r.out
        go_wp2_with fail
        go_region_held3 (fun w' => w'.cell? ⟨w.heap.size + 1, 0, none⟩ = some (.int .i64 c)) (first | (with_reducible exact q1) | (with_reducible exact q6) | (with_reducible exact q7) | go_simp) (first | (go_at_call 50; clear HX; refine (dn.out _).mono ?_; rintro e w6 ⟨rfl, hK⟩; have HK6 := hidden ((HK.out.drewN _).trans hK (fun _ _ h => h)); have D26 := hidden (show IsVar w6 (w.heap.size + 1 + 1) V.null from hK.heap D2r.out (fun h => h)); have D36 := hidden (show IsVar w6 (w.heap.size + 1 + 1 + 1) V.null from hK.heap D3r.out (fun h => h)); have q6 := hK.cell q1 (fun h => h); clear hK) | (go_at_call 50; refine (dn.out _).mono ?_; rintro e w7 ⟨rfl, hK⟩; have HK7 := hidden (HK6.out.trans hK (fun _ _ h => h)); have D27 := hidden (show IsVar w7 (w.heap.size + 1 + 1) V.null from hK.heap D26.out (fun h => h)); have D37 := hidden (show IsVar w7 (w.heap.size + 1 + 1 + 1) V.null from hK.heap D36.out (fun h => h)); have q7 := hK.cell q6 (fun h => h); obtain ⟨v0, v1, v2, v3, v4, v5⟩ := D27.out.cells; obtain ⟨u0, u1, u2, u3, u4, u5⟩ := D37.out.cells; simp only [V.null] at v0 v1 v2 u0 u1 u2; have hv := blk_lt D27.out; have hu := blk_lt D37.out; have NE2 : (∀ j, (⟨w.heap.size + 1 + 1, j, none⟩ : Addr) ≠ ⟨w.heap.size + 1, 0, none⟩) := fun j e => (by simp at e); clear hK))
        all_goals
          go_wp2_with fail
          obtain ⟨a1, a2⟩ := two_vars0 (x := V.null) (y := V.null) D27.out D37.out (by omega)
          obtain ⟨d0, d1, d2, -⟩ := a1.cells
          obtain ⟨d3, d4, d5, -⟩ := a2.cells
          simp only [V.null] at d0 d1 d2 d3 d4 d5
          exact bodyPost_ret (v := .tuple #[.int .i64 c, V.val V.null, V.val V.null, .bool false]) (by simp [results, Try.results14, go_sem, d0, d1, d2, d3, d4, d5, V.val, V.null]) rfl (hR.out _ _ ⟨by rw [nextAns, HF.out], ((HK5.out.trans HK7.out (fun _ _ h => h)).var (r := w.heap.size + 1 + 1) (fun h => by omega) _ _ _).var (r := w.heap.size + 1 + 1 + 1) (fun h => by omega) _ _ _⟩)
end Go.Proofs.Ytpaefeknbpfpmaa
