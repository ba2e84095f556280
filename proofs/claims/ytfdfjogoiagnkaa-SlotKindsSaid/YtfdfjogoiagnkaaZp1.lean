/- Texts that belong together: TabL TabP TabQ TabR TabS TabT TabV List ListB ListC ListD Heap HeapB HeapD HeapE HeapF HeapG HeapH HeapI HeapJ HeapK HeapL HeapO HeapQ HeapR Lay Cur LayB LayC SlotA SlotB SlotC SlotE. -/
import Derived.Test.YtfdfjogoiagnkaaZp0
import Derived.RangeFuncNested
import Derived.RangeFuncBound
import Derived.RangeFuncCalls
import Derived.RangeFuncLeaves
import Derived.Shelf.Abstract
import Derived.Shelf.RegionOpen
import Derived.OwnWalkIn
import Derived.TacticsInMore
import Derived.LoopNIn
import Derived.LoopIn
import Derived.RangeFuncBox
import Derived.Stop.RegionWithIn
import Derived.Lib.OthersKept
set_option linter.unusedSimpArgs false
set_option linter.unusedVariables false
namespace Go.Proofs.Ytfdfjogoiagnkaa
open Go.RowKit
set_option maxRecDepth 100000

def nextT (E : List Ent) (c : Int) : Option Ent := E.find? (fun e => decide (c < e.ser) && !e.gone)
def nextAns (E : List Ent) (c : Int) : Value :=
  match nextT E c with
  | some x => .tuple #[.int .i64 x.ser, x.key.val, x.val.val, .bool true]
  | none => .tuple #[.int .i64 c, V.val V.null, V.val V.null, .bool false]
theorem Ents.sub {w : World} {A : Option Addr} {E : List Ent} (h : Ents w A E) (i : Nat) : Ents w (Option.map (fun x => x.add (i * 8)) A) (E.drop i) := fun j x hj => by
  rw [List.getElem?_drop] at hj
  obtain ⟨g, o, rfl, hx⟩ := h (i + j) x hj
  refine ⟨g, o + i * 8, by simp [add_at3], ?_⟩
  have e : o + (i + j) * 8 = o + i * 8 + j * 8 := by omega
  obtain ⟨h0, h1, h2, h3, h4, h5, h6, h7⟩ := hx
  rw [e] at h0 h1 h2 h3 h4 h5 h6 h7
  exact ⟨h0, h1, h2, h3, h4, h5, h6, h7⟩
theorem two_vars {w : World} {r q : Nat} {x y : V} (h1 : IsVar w r V.null) (h2 : IsVar w q V.null) (hn : r ≠ q) (o : Obj) :
    IsVar (((((((w.setCell ⟨r, 0, none⟩ (.int .i64 x.k)).setCell ⟨r, 1, none⟩ (.int .i64 x.n)).setCell ⟨r, 2, none⟩ (.string x.t)).setCell ⟨q, 0, none⟩ (.int .i64 y.k)).setCell ⟨q, 1, none⟩ (.int .i64 y.n)).setCell ⟨q, 2, none⟩ (.string y.t)).alloc o) r x ∧
    IsVar (((((((w.setCell ⟨r, 0, none⟩ (.int .i64 x.k)).setCell ⟨r, 1, none⟩ (.int .i64 x.n)).setCell ⟨r, 2, none⟩ (.string x.t)).setCell ⟨q, 0, none⟩ (.int .i64 y.k)).setCell ⟨q, 1, none⟩ (.int .i64 y.n)).setCell ⟨q, 2, none⟩ (.string y.t)).alloc o) q y := by
  refine ⟨blk_alloc (blk_far (p := ⟨q, 2, none⟩) (blk_far (p := ⟨q, 1, none⟩) (blk_far (p := ⟨q, 0, none⟩) (h1.set x) hn _) hn _) hn _) o, ?_⟩
  have h3 : IsVar (((w.setCell ⟨r, 0, none⟩ (.int .i64 x.k)).setCell ⟨r, 1, none⟩ (.int .i64 x.n)).setCell ⟨r, 2, none⟩ (.string x.t)) q V.null := blk_far (p := ⟨r, 2, none⟩) (blk_far (p := ⟨r, 1, none⟩) (blk_far (p := ⟨r, 0, none⟩) h2 (fun e => hn e.symm) _) (fun e => hn e.symm) _) (fun e => hn e.symm) _
  exact blk_alloc (h3.set y) o
theorem two_vars0 {w : World} {r q : Nat} {x y : V} (h1 : IsVar w r V.null) (h2 : IsVar w q V.null) (hn : r ≠ q) :
    IsVar ((((((w.setCell ⟨r, 0, none⟩ (.int .i64 x.k)).setCell ⟨r, 1, none⟩ (.int .i64 x.n)).setCell ⟨r, 2, none⟩ (.string x.t)).setCell ⟨q, 0, none⟩ (.int .i64 y.k)).setCell ⟨q, 1, none⟩ (.int .i64 y.n)).setCell ⟨q, 2, none⟩ (.string y.t)) r x ∧
    IsVar ((((((w.setCell ⟨r, 0, none⟩ (.int .i64 x.k)).setCell ⟨r, 1, none⟩ (.int .i64 x.n)).setCell ⟨r, 2, none⟩ (.string x.t)).setCell ⟨q, 0, none⟩ (.int .i64 y.k)).setCell ⟨q, 1, none⟩ (.int .i64 y.n)).setCell ⟨q, 2, none⟩ (.string y.t)) q y := by
  refine ⟨blk_far (p := ⟨q, 2, none⟩) (blk_far (p := ⟨q, 1, none⟩) (blk_far (p := ⟨q, 0, none⟩) (h1.set x) hn _) hn _) hn _, ?_⟩
  have h3 : IsVar (((w.setCell ⟨r, 0, none⟩ (.int .i64 x.k)).setCell ⟨r, 1, none⟩ (.int .i64 x.n)).setCell ⟨r, 2, none⟩ (.string x.t)) q V.null := blk_far (p := ⟨r, 2, none⟩) (blk_far (p := ⟨r, 1, none⟩) (blk_far (p := ⟨r, 0, none⟩) h2 (fun e => hn e.symm) _) (fun e => hn e.symm) _) (fun e => hn e.symm) _
  exact h3.set y
theorem nextT_drop {E : List Ent} {c : Int} {i : Nat} (hi : i ≤ E.length) (h1 : ∀ (j : Nat) (hj : j < E.length), j < i → E[j].ser ≤ c) (h2 : ∀ (j : Nat) (hj : j < E.length), i ≤ j → c < E[j].ser) : nextT E c = (E.drop i).find? (fun e => !e.gone) := by
  have e : E = E.take i ++ E.drop i := (List.take_append_drop i E).symm
  have n1 : (E.take i).find? (fun e => decide (c < e.ser) && !e.gone) = none := by
    rw [List.find?_eq_none]
    intro x hx
    obtain ⟨j, hj, rfl⟩ := List.mem_take_iff_getElem.1 hx
    have := h1 j (by omega) (by omega)
    simp; intro h; omega
  have n2 : ∀ L : List Ent, (∀ x ∈ L, c < x.ser) → L.find? (fun e => decide (c < e.ser) && !e.gone) = L.find? (fun e => !e.gone) := by
    intro L
    induction L with
    | nil => intro _; rfl
    | cons x l ih =>
      intro hL
      rw [List.find?_cons, List.find?_cons, ih (fun y hy => hL y (List.mem_cons_of_mem _ hy))]
      have := hL x (List.mem_cons_self ..)
      simp [this]
  rw [nextT]
  conv => lhs; rw [e]
  rw [List.find?_append, n1, Option.none_or]
  refine n2 _ fun x hx => ?_
  obtain ⟨j, hj, rfl⟩ := List.mem_iff_getElem.1 hx
  rw [List.getElem_drop]
  exact h2 _ (by simp at hj; omega) (by omega)
theorem find_skip {L : List Ent} {k : Nat} (h : ∀ (j : Nat) (hj : j < L.length), j < k → L[j].gone = true) (hk : k < L.length) (hg : L[k].gone = false) : L.find? (fun e => !e.gone) = some L[k] := by
  rw [List.find?_eq_some_iff_getElem]
  refine ⟨by simp [hg], k, hk, rfl, fun j hj => ?_⟩
  simp [h j (by omega) hj]
theorem find_none {L : List Ent} (h : ∀ (j : Nat) (hj : j < L.length), L[j].gone = true) : L.find? (fun e => !e.gone) = none := by
  rw [List.find?_eq_none]
  intro x hx
  obtain ⟨j, hj, rfl⟩ := List.mem_iff_getElem.1 hx
  simp [h j hj]
set_option maxHeartbeats 8000000 in
theorem table_Next (w : World) (F : Nat → Prop) (b : Nat) (t : Tb) (c : Int) (h : IsTab w F b t) (hl : t.E.length ≤ 1073741824) (hso : ∀ (i j : Nat) (hij : i < j) (hj : j < t.E.length), t.E[i].ser < t.E[j].ser) :
    Calls Try.prog 55 #[.pointer (some ⟨b, 0, none⟩), .int .i64 c] w fun e w' => e = .returned (nextAns t.E c) ∧ Keeps (fun _ => False) w w' := by
  have H := hidden h
  have key := hidden (fun (W : World) (bt bc : Nat) (hk : Keeps (fun _ => False) w W) h1 h2 => search_next W F b bt bc t c (h.none hk) h1 h2 hl hso)
  obtain ⟨ve, vs, hT⟩ := h
  obtain ⟨Ae, ce, rfl⟩ := hT.ents.form
  have HT := hidden hT
  have b0 := blk_cell hT.blk 0
  simp only [List.getElem?_toArray, List.getElem?_cons_zero] at b0
  have hbz := blk_lt hT.blk
  have hcap := hT.ents.cap
  have hb1 : b < w.heap.size + 1 := by omega
  have hb2 : b < w.heap.size + 1 + 1 := by omega
  have hb3 : b < w.heap.size + 1 + 1 + 1 := by omega
  clear hT hso
  obtain ⟨E, S, live, used, ser⟩ := t
  simp only at *
  refine post_gen fun R hR => ?_
  go_enter Try.func55, Try.ntmps55
  go_wp2_with fail
  obtain ⟨w4, hw4⟩ : ∃ w4, w4 = ((((w.alloc (.cells #[.pointer (some ⟨b, 0, none⟩)] 38)).alloc (.cells #[.int .i64 c] 2)).alloc (.cells #[.int .i64 0, .int .i64 0, .string ⟨#[]⟩] 26)).alloc (.cells #[.int .i64 0, .int .i64 0, .string ⟨#[]⟩] 26)) := ⟨_, rfl⟩
  have k1 : Keeps (fun _ => False) w (w.alloc (.cells #[.pointer (some ⟨b, 0, none⟩)] 38)) := (Keeps.refl _ w).alloc _
  have s1 : (w.alloc (.cells #[.pointer (some ⟨b, 0, none⟩)] 38)).heap.size = w.heap.size + 1 := by simp
  have HK4 := hidden (show Keeps (fun _ => False) w w4 from hw4 ▸ ((((Keeps.refl _ w).alloc _).alloc _).alloc _).alloc _)
  have HC0 := hidden (show w4.heap[w.heap.size]? = some (.cells #[.pointer (some ⟨b, 0, none⟩)] 38 (0, 0)) from hw4 ▸ blk_alloc (blk_alloc (blk_alloc (blk_new w _) _) _) _)
  have HC1 := hidden (show w4.heap[w.heap.size + 1]? = some (.cells #[.int .i64 c] 2 (0, 0)) from hw4 ▸ blk_alloc (blk_alloc (new2t w _ _) _) _)
  have HC2 := hidden (show IsVar w4 (w.heap.size + 1 + 1) V.null from hw4 ▸ blk_alloc (s1 ▸ new2t (w.alloc (.cells #[.pointer (some ⟨b, 0, none⟩)] 38)) _ _) _)
  have HC3 := hidden (show IsVar w4 (w.heap.size + 1 + 1 + 1) V.null from by
    have := new2t ((w.alloc (.cells #[.pointer (some ⟨b, 0, none⟩)] 38)).alloc (.cells #[.int .i64 c] 2)) (.cells #[.int .i64 0, .int .i64 0, .string ⟨#[]⟩] 26) (.cells #[.int .i64 0, .int .i64 0, .string ⟨#[]⟩] 26)
    rw [show ((w.alloc (.cells #[.pointer (some ⟨b, 0, none⟩)] 38)).alloc (.cells #[.int .i64 c] 2)).heap.size = w.heap.size + 1 + 1 by simp, ← hw4] at this
    exact this)
  rw [← hw4]
  clear hw4 k1 s1
  refine (key.out w4 w.heap.size (w.heap.size + 1) HK4.out (blk_cell HC0.out 0) (blk_cell HC1.out 0)).mono ?_
  rintro e w5 ⟨i, rfl, hi, hlo, hhi, hD⟩
  have HK5 := hidden (HK4.out.trans (hD.keeps _) (fun _ _ h => h))
  have hk5 := hD.keeps (fun _ => False)
  have D0 := hidden (hk5.heap HC0.out (fun h => h))
  have D1 := hidden (hk5.heap HC1.out (fun h => h))
  have D2 := hidden (show IsVar w5 (w.heap.size + 1 + 1) V.null from hk5.heap HC2.out (fun h => h))
  have D3 := hidden (show IsVar w5 (w.heap.size + 1 + 1 + 1) V.null from hk5.heap HC3.out (fun h => h))
  have TT := hidden (HT.out.none HK5.out)
  have HLO := hidden hlo
  have HHI := hidden hhi
  clear hk5 hD hlo hhi HC0 HC1 HC2 HC3 HK4 key H b0
  have p0 := blk_cell D0.out 0
  have p1 := blk_cell D1.out 0
  have b0 := blk_cell TT.out.blk 0
  simp only [List.getElem?_toArray, List.getElem?_cons_zero] at p0 p1 b0
  have hz0 := blk_lt D0.out
  have hz1 := blk_lt D1.out
  have hz2 := blk_lt D2.out
  have hz3 := blk_lt D3.out
  have hbz5 := blk_lt TT.out.blk
  have hi1 : (i : Int) ≤ (E.length : Int) := by omega
  have hi2 : (i : Int) ≤ (ce : Int) := by omega
  have HND := hidden (nextT_drop hi HLO.out HHI.out)
  have HEA := hidden (Ents.own TT.out.ents.1)
  clear HLO HHI
  by_cases hz : ce = i
  · have hei : E.length = i := by omega
    have hLl : (E.drop i).length = E.length - i := List.length_drop
    have HE := hidden (show Ents w5 Ae (E.drop i) from by rw [List.drop_eq_nil_of_le (by omega)]; exact fun j x hx => by simp at hx)
    subst hz
    clear hei hcap
    generalize E.drop ce = L at *
    obtain ⟨m, hm⟩ : ∃ m, m = E.length - ce := ⟨_, rfl⟩
    have hmb : m ≤ 1073741824 := by omega
    have HM := hidden hm
    rw [← hm] at hLl
    have HLL := hidden hLl
    clear hLl
    go_wp2_with fail
    rw [← HM.out]
    clear hm b0
    go_loopw [25] (fun j wr => ∃ k : Nat, k ≤ m ∧ j = .int .i64 k ∧ Hid (∀ (j : Nat) (hj : j < L.length), j < k → L[j].gone = true) ∧ Keeps (fun _ => False) w5 wr) (fun j _ => m - (intOf j).toNat)
    case atStart => exact ⟨0, Nat.zero_le _, rfl, hidden (fun j hj h => absurd h (by omega)), Keeps.refl _ _⟩
    case round =>
      obtain ⟨k, hk, rfl, HG, hK⟩ := hrel
      have HK := hidden hK
      have D2r := hidden (show IsVar wr (w.heap.size + 1 + 1) V.null from hK.heap D2.out (fun h => h))
      have D3r := hidden (show IsVar wr (w.heap.size + 1 + 1 + 1) V.null from hK.heap D3.out (fun h => h))
      have D1r := hidden (hK.heap D1.out (fun h => h))
      by_cases hlt : k < m
      · have hkL : k < L.length := by rw [HLL.out]; exact hlt
        obtain ⟨g, o, hAe, ⟨e0, e1, e2, e3, e4, e5, e6, e7⟩⟩ := (HE.out.keeps hK (fun _ _ _ _ h => h)) k L[k] (List.getElem?_eq_getElem hkL)
        have hg := World.block_lt_of_cell? wr _ e0
        cases hgn : L[k].gone with
        | true =>
          rw [hgn] at e7
          have HG2 := hidden (show ∀ (j : Nat) (hj : j < L.length), j < k + 1 → L[j].gone = true from fun j hj h => by
            by_cases hjk : j = k
            · subst hjk; exact hgn
            · exact HG.out j hj (by omega))
          clear hgn hK HG
          generalize L[k] = x at *
          go_wp2_with fail
          go_roundw
          case rel => exact ⟨k + 1, hlt, by go_num, HG2, HK.out.alloc _⟩
          case measure => simp [intOf]; omega
        | false =>
          rw [hgn] at e7
          have HF := hidden (HND.out.trans (find_skip HG.out hkL hgn))
          clear hK HG
          generalize L[k] = x at *
          obtain ⟨⟨xk, xn, xt⟩, ⟨yk, yn, yt⟩, xs, xg⟩ := x
          simp only at e0 e1 e2 e3 e4 e5 e6 e7 hgn
          subst hgn
          obtain ⟨v0, v1, v2, v3, v4, v5⟩ := D2r.out.cells
          obtain ⟨u0, u1, u2, u3, u4, u5⟩ := D3r.out.cells
          simp only [V.null] at v0 v1 v2 u0 u1 u2
          have hv := blk_lt D2r.out
          have hu := blk_lt D3r.out
          go_wp2_with fail
          go_region
          go_wp2_with fail
          obtain ⟨a1, a2⟩ := two_vars (x := ⟨xk, xn, xt⟩) (y := ⟨yk, yn, yt⟩) D2r.out D3r.out (by omega) (Ent.obj ⟨⟨xk, xn, xt⟩, ⟨yk, yn, yt⟩, xs, false⟩)
          obtain ⟨d0, d1, d2, -⟩ := a1.cells
          obtain ⟨d3, d4, d5, -⟩ := a2.cells
          simp only [Ent.obj] at d0 d1 d2 d3 d4 d5
          exact bodyPost_ret (v := .tuple #[.int .i64 xs, V.val ⟨xk, xn, xt⟩, V.val ⟨yk, yn, yt⟩, .bool true]) (by simp [results, Try.results55, go_sem, d0, d1, d2, d3, d4, d5, V.val]) rfl (hR.out _ _ ⟨by rw [nextAns, HF.out], (((((HK5.out.trans HK.out (fun _ _ h => h)).var (r := w.heap.size + 1 + 1) (fun h => by omega) _ _ _).var (r := w.heap.size + 1 + 1 + 1) (fun h => by omega) _ _ _).alloc _).drew)⟩)
      · obtain rfl : k = m := by omega
        have HF := hidden (HND.out.trans (find_none (fun j hj => HG.out j hj (by rw [← HLL.out]; exact hj))))
        have dn := hidden (fun W => value_Null W)
        simp only [V.val, V.null] at dn
        have HX := hidden trivial
        have q1 := blk_cell D1r.out 0
        simp only [List.getElem?_toArray, List.getElem?_cons_zero] at q1
        clear hK HG
        have hq1 := blk_lt D1r.out
        go_wp2_with fail
        go_region_held3 (fun w' => w'.cell? ⟨w.heap.size + 1, 0, none⟩ = some (.int .i64 c)) (first | (with_reducible exact q1) | (with_reducible exact q6) | (with_reducible exact q7) | go_simp) (first | (go_at_call 12; clear HX; refine (dn.out _).mono ?_; rintro e w6 ⟨rfl, hK⟩; have HK6 := hidden ((HK.out.drewN _).trans hK (fun _ _ h => h)); have D26 := hidden (show IsVar w6 (w.heap.size + 1 + 1) V.null from hK.heap D2r.out (fun h => h)); have D36 := hidden (show IsVar w6 (w.heap.size + 1 + 1 + 1) V.null from hK.heap D3r.out (fun h => h)); have q6 := hK.cell q1 (fun h => h); clear hK) | (go_at_call 12; refine (dn.out _).mono ?_; rintro e w7 ⟨rfl, hK⟩; have HK7 := hidden (HK6.out.trans hK (fun _ _ h => h)); have D27 := hidden (show IsVar w7 (w.heap.size + 1 + 1) V.null from hK.heap D26.out (fun h => h)); have D37 := hidden (show IsVar w7 (w.heap.size + 1 + 1 + 1) V.null from hK.heap D36.out (fun h => h)); have q7 := hK.cell q6 (fun h => h); obtain ⟨v0, v1, v2, v3, v4, v5⟩ := D27.out.cells; obtain ⟨u0, u1, u2, u3, u4, u5⟩ := D37.out.cells; simp only [V.null] at v0 v1 v2 u0 u1 u2; have hv := blk_lt D27.out; have hu := blk_lt D37.out; have NE2 : (∀ j, (⟨w.heap.size + 1 + 1, j, none⟩ : Addr) ≠ ⟨w.heap.size + 1, 0, none⟩) := fun j e => (by simp at e); clear hK))
        all_goals
          go_wp2_with fail
          obtain ⟨a1, a2⟩ := two_vars0 (x := V.null) (y := V.null) D27.out D37.out (by omega)
          obtain ⟨d0, d1, d2, -⟩ := a1.cells
          obtain ⟨d3, d4, d5, -⟩ := a2.cells
          simp only [V.null] at d0 d1 d2 d3 d4 d5
          exact bodyPost_ret (v := .tuple #[.int .i64 c, V.val V.null, V.val V.null, .bool false]) (by simp [results, Try.results55, go_sem, d0, d1, d2, d3, d4, d5, V.val, V.null]) rfl (hR.out _ _ ⟨by rw [nextAns, HF.out], ((HK5.out.trans HK7.out (fun _ _ h => h)).var (r := w.heap.size + 1 + 1) (fun h => by omega) _ _ _).var (r := w.heap.size + 1 + 1 + 1) (fun h => by omega) _ _ _⟩)
  · have HE := hidden (HEA.out.sub i)
    have hLl : (E.drop i).length = E.length - i := List.length_drop
    generalize E.drop i = L at *
    obtain ⟨m, hm⟩ : ∃ m, m = E.length - i := ⟨_, rfl⟩
    have hmb : m ≤ 1073741824 := by omega
    have HM := hidden hm
    rw [← hm] at hLl
    have HLL := hidden hLl
    clear hLl
    go_wp2_with fail
    rw [← HM.out]
    clear hm b0
    go_loopw [25] (fun j wr => ∃ k : Nat, k ≤ m ∧ j = .int .i64 k ∧ Hid (∀ (j : Nat) (hj : j < L.length), j < k → L[j].gone = true) ∧ Keeps (fun _ => False) w5 wr) (fun j _ => m - (intOf j).toNat)
    case atStart => exact ⟨0, Nat.zero_le _, rfl, hidden (fun j hj h => absurd h (by omega)), Keeps.refl _ _⟩
    case round =>
      obtain ⟨k, hk, rfl, HG, hK⟩ := hrel
      have HK := hidden hK
      have D2r := hidden (show IsVar wr (w.heap.size + 1 + 1) V.null from hK.heap D2.out (fun h => h))
      have D3r := hidden (show IsVar wr (w.heap.size + 1 + 1 + 1) V.null from hK.heap D3.out (fun h => h))
      have D1r := hidden (hK.heap D1.out (fun h => h))
      by_cases hlt : k < m
      · have hkL : k < L.length := by rw [HLL.out]; exact hlt
        obtain ⟨g, o, hAe, ⟨e0, e1, e2, e3, e4, e5, e6, e7⟩⟩ := (HE.out.keeps hK (fun _ _ _ _ h => h)) k L[k] (List.getElem?_eq_getElem hkL)
        have hg := World.block_lt_of_cell? wr _ e0
        cases hgn : L[k].gone with
        | true =>
          rw [hgn] at e7
          have HG2 := hidden (show ∀ (j : Nat) (hj : j < L.length), j < k + 1 → L[j].gone = true from fun j hj h => by
            by_cases hjk : j = k
            · subst hjk; exact hgn
            · exact HG.out j hj (by omega))
          clear hgn hK HG
          generalize L[k] = x at *
          go_wp2_with fail
          go_roundw
          case rel => exact ⟨k + 1, hlt, by go_num, HG2, HK.out.alloc _⟩
          case measure => simp [intOf]; omega
        | false =>
          rw [hgn] at e7
          have HF := hidden (HND.out.trans (find_skip HG.out hkL hgn))
          clear hK HG
          generalize L[k] = x at *
          obtain ⟨⟨xk, xn, xt⟩, ⟨yk, yn, yt⟩, xs, xg⟩ := x
          simp only at e0 e1 e2 e3 e4 e5 e6 e7 hgn
          subst hgn
          obtain ⟨v0, v1, v2, v3, v4, v5⟩ := D2r.out.cells
          obtain ⟨u0, u1, u2, u3, u4, u5⟩ := D3r.out.cells
          simp only [V.null] at v0 v1 v2 u0 u1 u2
          have hv := blk_lt D2r.out
          have hu := blk_lt D3r.out
          go_wp2_with fail
          go_region
          go_wp2_with fail
          obtain ⟨a1, a2⟩ := two_vars (x := ⟨xk, xn, xt⟩) (y := ⟨yk, yn, yt⟩) D2r.out D3r.out (by omega) (Ent.obj ⟨⟨xk, xn, xt⟩, ⟨yk, yn, yt⟩, xs, false⟩)
          obtain ⟨d0, d1, d2, -⟩ := a1.cells
          obtain ⟨d3, d4, d5, -⟩ := a2.cells
          simp only [Ent.obj] at d0 d1 d2 d3 d4 d5
          exact bodyPost_ret (v := .tuple #[.int .i64 xs, V.val ⟨xk, xn, xt⟩, V.val ⟨yk, yn, yt⟩, .bool true]) (by simp [results, Try.results55, go_sem, d0, d1, d2, d3, d4, d5, V.val]) rfl (hR.out _ _ ⟨by rw [nextAns, HF.out], (((((HK5.out.trans HK.out (fun _ _ h => h)).var (r := w.heap.size + 1 + 1) (fun h => by omega) _ _ _).var (r := w.heap.size + 1 + 1 + 1) (fun h => by omega) _ _ _).alloc _).drew)⟩)
      · obtain rfl : k = m := by omega
        have HF := hidden (HND.out.trans (find_none (fun j hj => HG.out j hj (by rw [← HLL.out]; exact hj))))
        have dn := hidden (fun W => value_Null W)
        simp only [V.val, V.null] at dn
        have HX := hidden trivial
        have q1 := blk_cell D1r.out 0
        simp only [List.getElem?_toArray, List.getElem?_cons_zero] at q1
        clear hK HG
        have hq1 := blk_lt D1r.out
        go_wp2_with fail
        go_region_held3 (fun w' => w'.cell? ⟨w.heap.size + 1, 0, none⟩ = some (.int .i64 c)) (first | (with_reducible exact q1) | (with_reducible exact q6) | (with_reducible exact q7) | go_simp) (first | (go_at_call 12; clear HX; refine (dn.out _).mono ?_; rintro e w6 ⟨rfl, hK⟩; have HK6 := hidden ((HK.out.drewN _).trans hK (fun _ _ h => h)); have D26 := hidden (show IsVar w6 (w.heap.size + 1 + 1) V.null from hK.heap D2r.out (fun h => h)); have D36 := hidden (show IsVar w6 (w.heap.size + 1 + 1 + 1) V.null from hK.heap D3r.out (fun h => h)); have q6 := hK.cell q1 (fun h => h); clear hK) | (go_at_call 12; refine (dn.out _).mono ?_; rintro e w7 ⟨rfl, hK⟩; have HK7 := hidden (HK6.out.trans hK (fun _ _ h => h)); have D27 := hidden (show IsVar w7 (w.heap.size + 1 + 1) V.null from hK.heap D26.out (fun h => h)); have D37 := hidden (show IsVar w7 (w.heap.size + 1 + 1 + 1) V.null from hK.heap D36.out (fun h => h)); have q7 := hK.cell q6 (fun h => h); obtain ⟨v0, v1, v2, v3, v4, v5⟩ := D27.out.cells; obtain ⟨u0, u1, u2, u3, u4, u5⟩ := D37.out.cells; simp only [V.null] at v0 v1 v2 u0 u1 u2; have hv := blk_lt D27.out; have hu := blk_lt D37.out; have NE2 : (∀ j, (⟨w.heap.size + 1 + 1, j, none⟩ : Addr) ≠ ⟨w.heap.size + 1, 0, none⟩) := fun j e => (by simp at e); clear hK))
        all_goals
          go_wp2_with fail
          obtain ⟨a1, a2⟩ := two_vars0 (x := V.null) (y := V.null) D27.out D37.out (by omega)
          obtain ⟨d0, d1, d2, -⟩ := a1.cells
          obtain ⟨d3, d4, d5, -⟩ := a2.cells
          simp only [V.null] at d0 d1 d2 d3 d4 d5
          exact bodyPost_ret (v := .tuple #[.int .i64 c, V.val V.null, V.val V.null, .bool false]) (by simp [results, Try.results55, go_sem, d0, d1, d2, d3, d4, d5, V.val, V.null]) rfl (hR.out _ _ ⟨by rw [nextAns, HF.out], ((HK5.out.trans HK7.out (fun _ _ h => h)).var (r := w.heap.size + 1 + 1) (fun h => by omega) _ _ _).var (r := w.heap.size + 1 + 1 + 1) (fun h => by omega) _ _ _⟩)
end Go.Proofs.Ytfdfjogoiagnkaa
namespace Go.Proofs.Ytfdfjogoiagnkaa
open Go.RowKit

theorem getD_set (S : List Int) (i j : Nat) (v : Int) (hi : i < S.length) : (S.set i v).getD j 0 = if j = i then v else S.getD j 0 := by
  rw [List.getD_eq_getElem?_getD, List.getD_eq_getElem?_getD, List.getElem?_set]
  by_cases h : i = j
  · subst h; simp [hi]
  · rw [if_neg h, if_neg (fun e => h e.symm)]
theorem getD_some {S : List Int} {i : Nat} {s : Int} (h : S[i]? = some s) : S.getD i 0 = s := by rw [List.getD_eq_getElem?_getD, h]; rfl
theorem some_getD {S : List Int} {i : Nat} (h : i < S.length) : S[i]? = some (S.getD i 0) := by rw [List.getD_eq_getElem?_getD, List.getElem?_eq_getElem h]; rfl
theorem step_to (h n i : Nat) (hi : i < n) : ∃ d, d < n ∧ (h + d) % n = i := by
  have hr : h % n < n := Nat.mod_lt _ (by omega)
  have e : h = n * (h / n) + h % n := (Nat.div_add_mod h n).symm
  by_cases hc : h % n ≤ i
  · refine ⟨i - h % n, by omega, ?_⟩
    have e2 : h + (i - h % n) = n * (h / n) + i := by omega
    rw [e2, Nat.mul_add_mod, Nat.mod_eq_of_lt hi]
  · refine ⟨i + n - h % n, by omega, ?_⟩
    have e2 : h + (i + n - h % n) = n * (h / n + 1) + i := by rw [Nat.mul_add]; omega
    rw [e2, Nat.mul_add_mod, Nat.mod_eq_of_lt hi]
theorem zero_in {S : List Int} (h : S.countP (fun s => decide (s ≠ 0)) < S.length) : ∃ i, i < S.length ∧ S.getD i 0 = 0 := by
  by_cases hc : ∃ i, i < S.length ∧ S.getD i 0 = 0
  · exact hc
  · exfalso
    have : S.countP (fun s => decide (s ≠ 0)) = S.length := List.countP_eq_length.2 (fun a ha => by
      obtain ⟨i, hi, rfl⟩ := List.mem_iff_getElem.1 ha
      simp only [decide_eq_true_eq]
      intro h0
      exact hc ⟨i, hi, by rw [getD_some (List.getElem?_eq_getElem hi)]; exact h0⟩)
    omega
theorem count_set {S : List Int} {i : Nat} {v : Int} (hi : i < S.length) (hv : v ≠ 0) : ((S.set i v).countP (fun s => decide (s ≠ 0)) : Nat) = S.countP (fun s => decide (s ≠ 0)) + (if S.getD i 0 = 0 then 1 else 0) := by
  rw [List.countP_set hi]
  have e : S.getD i 0 = S[i] := getD_some (List.getElem?_eq_getElem hi)
  rw [e]
  by_cases h : S[i] = 0
  · simp [h, hv]
  · have hp : 0 < S.countP (fun s => decide (s ≠ 0)) := List.countP_pos_iff.2 ⟨S[i], List.getElem_mem hi, by simpa using h⟩
    generalize S.countP (fun s => decide (s ≠ 0)) = c at *
    simp [h, hv]
    omega

structure Slots (E : List Ent) (S : List Int) (P : Nat → Prop) : Prop where
  inP : ∀ (i : Nat) (s : Int), S[i]? = some s → s = 0 ∨ s = -1 ∨ ∃ q : Nat, s = (q : Int) + 1 ∧ P q
  way : ∀ q, P q → ∃ (x : Ent) (d : Nat), E[q]? = some x ∧ d < S.length ∧ S.getD ((keyHash x.key + d) % S.length) 0 = (q : Int) + 1 ∧ ∀ d', d' < d → S.getD ((keyHash x.key + d') % S.length) 0 ≠ 0
  inj : ∀ (q q' : Nat) (x x' : Ent), P q → P q' → E[q]? = some x → E[q']? = some x' → x.key = x'.key → q = q'
  uniq : ∀ (i j q : Nat), S[i]? = some ((q : Int) + 1) → S[j]? = some ((q : Int) + 1) → i = j

theorem probe_found {E : List Ent} {S : List Int} {key : V} {h q : Nat} {x : Ent} (hq : E[q]? = some x) (hx : x.key = key) :
    ∀ (m d : Nat) (f : Option Nat) (D : Nat), d ≤ D → D < d + m → S.getD ((h + D) % S.length) 0 = (q : Int) + 1 → (∀ d', d ≤ d' → d' < D → S.getD ((h + d') % S.length) 0 ≠ 0) → (probe E S key h m d f).2 = true
  | 0, d, f, D, h1, h2, _, _ => by omega
  | m + 1, d, f, D, h1, h2, h3, h4 => by
    rw [probe]
    split
    · rename_i h0
      by_cases e : D = d
      · subst e; omega
      · exact absurd h0 (h4 d (Nat.le_refl _) (by omega))
    · split
      · rename_i h0
        have e : D ≠ d := by rintro rfl; omega
        exact probe_found hq hx m (d + 1) _ D (by omega) (by omega) h3 (fun d' a b => h4 d' (by omega) b)
      · split
        · rfl
        · rename_i h0 h5 h6
          have e : D ≠ d := by
            rintro rfl
            rw [h3] at h6
            refine h6 ?_
            rw [show ((q : Int) + 1).toNat - 1 = q by omega, List.getElem?_map, hq, Option.map_some, hx]
          exact probe_found hq hx m (d + 1) _ D (by omega) (by omega) h3 (fun d' a b => h4 d' (by omega) b)
def Good (S : List Int) (h i : Nat) : Prop := ∃ D, D < S.length ∧ i = (h + D) % S.length ∧ (S.getD i 0 = 0 ∨ S.getD i 0 = -1) ∧ ∀ d', d' < D → S.getD ((h + d') % S.length) 0 ≠ 0
theorem probe_free {E : List Ent} {S : List Int} {key : V} {h : Nat} :
    ∀ (m d : Nat) (f : Option Nat), d + m ≤ S.length → (∃ D, d ≤ D ∧ D < d + m ∧ S.getD ((h + D) % S.length) 0 = 0) → (∀ i, f = some i → Good S h i) → (∀ d', d' < d → S.getD ((h + d') % S.length) 0 ≠ 0) → (probe E S key h m d f).2 = false → Good S h (probe E S key h m d f).1
  | 0, d, f, _, ⟨D, h1, h2, _⟩, _, _, _ => by omega
  | m + 1, d, f, hm, ⟨D, h1, h2, h3⟩, hf, hw, hr => by
    rw [probe] at hr ⊢
    split
    · rename_i h0
      cases f with
      | none => exact ⟨d, by omega, rfl, .inl h0, hw⟩
      | some i => exact hf i rfl
    · rename_i h0
      rw [if_neg h0] at hr
      have hD : D ≠ d := by rintro rfl; exact h0 h3
      have hw' : ∀ d', d' < d + 1 → S.getD ((h + d') % S.length) 0 ≠ 0 := fun d' hd' => by
        by_cases e : d' = d
        · subst e; exact h0
        · exact hw d' (by omega)
      split
      · rename_i h5
        rw [if_pos h5] at hr
        refine probe_free m (d + 1) _ (by omega) ⟨D, by omega, by omega, h3⟩ (fun i hi => ?_) hw' hr
        cases f with
        | none => simp at hi; subst hi; exact ⟨d, by omega, rfl, .inr h5, hw⟩
        | some j => simp at hi; subst hi; exact hf j rfl
      · rename_i h5
        rw [if_neg h5] at hr
        split
        · rename_i h6
          rw [if_pos h6] at hr
          cases hr
        · rename_i h6
          rw [if_neg h6] at hr
          exact probe_free m (d + 1) _ (by omega) ⟨D, by omega, by omega, h3⟩ hf hw' hr
theorem Slots.found {t : Tb} {P : Nat → Prop} (hs : t.safe) (h : Slots t.E t.S P) {q : Nat} {x : Ent} (hP : P q) (hx : t.E[q]? = some x) : (findT t x.key).2 = true ∧ t.S[(findT t x.key).1]? = some ((q : Int) + 1) := by
  obtain ⟨y, d, hy, hd, h1, h2⟩ := h.way q hP
  rw [hx] at hy
  obtain rfl := Option.some.inj hy
  have hl : t.S.length ≠ 0 := by omega
  have ht : (findT t x.key).2 = true := by
    rw [findT, if_neg hl]
    exact probe_found hx rfl t.S.length 0 none d (Nat.zero_le _) (by omega) h1 (fun d' _ b => h2 d' b)
  refine ⟨ht, ?_⟩
  obtain ⟨q', hq', h3, h4⟩ := findT_true hs ht
  have hP' : P q' := by
    rcases h.inP _ _ h3 with e | e | ⟨q2, e, hp⟩
    · omega
    · omega
    · obtain rfl : q' = q2 := by omega
      exact hp
  have := h.inj q' q _ _ hP' hP (List.getElem?_eq_getElem hq') hx h4
  rw [h3, this]
theorem Slots.absent {t : Tb} {P : Nat → Prop} {key : V} (hs : t.safe) (h : Slots t.E t.S P) (hno : ∀ q x, P q → t.E[q]? = some x → x.key ≠ key) : (findT t key).2 = false := by
  cases ht : (findT t key).2 with
  | false => rfl
  | true =>
    obtain ⟨q', hq', h3, h4⟩ := findT_true hs ht
    rcases h.inP _ _ h3 with e | e | ⟨q2, e, hp⟩
    · omega
    · omega
    · obtain rfl : q' = q2 := by omega
      exact absurd h4 (hno q' _ hp (List.getElem?_eq_getElem hq'))
theorem Slots.free {t : Tb} {P : Nat → Prop} {key : V} (hs : t.safe) (h : Slots t.E t.S P) (hno : ∀ q x, P q → t.E[q]? = some x → x.key ≠ key) (hz : ∃ i, i < t.S.length ∧ t.S.getD i 0 = 0) : Good t.S (keyHash key) (findT t key).1 := by
  have hr := h.absent hs hno
  obtain ⟨i, hi, h0⟩ := hz
  have hl : t.S.length ≠ 0 := by omega
  obtain ⟨D, hD, e⟩ := step_to (keyHash key) t.S.length i hi
  rw [findT, if_neg hl] at hr ⊢
  exact probe_free t.S.length 0 none (by omega) ⟨D, Nat.zero_le _, by omega, by rw [e]; exact h0⟩ (fun _ e => by cases e) (fun _ h => absurd h (by omega)) hr
theorem Slots.place {E : List Ent} {S : List Int} {P : Nat → Prop} (h : Slots E S P) {q i : Nat} {x : Ent} (hq : E[q]? = some x) (hno : ∀ q' x', P q' → E[q']? = some x' → x'.key ≠ x.key) (hg : Good S (keyHash x.key) i) :
    Slots E (S.set i ((q : Int) + 1)) (fun k => P k ∨ k = q) := by
  obtain ⟨D, hD, hi, h0, hw⟩ := hg
  have hil : i < S.length := by rw [hi]; exact Nat.mod_lt _ (by omega)
  have nz : ∀ j, S.getD j 0 ≠ 0 → (S.set i ((q : Int) + 1)).getD j 0 ≠ 0 := fun j hj => by
    rw [getD_set S i j _ hil]
    split
    · omega
    · exact hj
  have hPq : ¬ P q := fun hp => hno q x hp hq rfl
  have hnq : ∀ j : Nat, S[j]? ≠ some ((q : Int) + 1) := fun j hj => by
    rcases h.inP j _ hj with e | e | ⟨q', e, hp⟩
    · omega
    · omega
    · obtain rfl : q = q' := by omega
      exact hPq hp
  refine ⟨fun j s hj => ?_, fun k hk => ?_, fun a b y z ha hb hy hz e => ?_, fun a b k ha hb => ?_⟩
  · rw [List.getElem?_set] at hj
    split at hj
    · skip
      exact .inr (.inr ⟨q, (Option.some.inj hj).symm, .inr rfl⟩)
    · rcases h.inP j s hj with e | e | ⟨q', e, hp⟩
      · exact .inl e
      · exact .inr (.inl e)
      · exact .inr (.inr ⟨q', e, .inl hp⟩)
  · rw [List.length_set]
    rcases hk with hk | rfl
    · obtain ⟨y, d, hy, hd, h1, h2⟩ := h.way k hk
      refine ⟨y, d, hy, hd, ?_, fun d' hd' => nz _ (h2 d' hd')⟩
      rw [getD_set S i _ _ hil, if_neg (fun e => by rw [e] at h1; rw [h1] at h0; omega)]
      exact h1
    · refine ⟨x, D, hq, hD, ?_, fun d' hd' => nz _ (hw d' hd')⟩
      rw [getD_set S i _ _ hil, if_pos hi.symm]
  · rcases ha with ha | rfl
    · rcases hb with hb | rfl
      · exact h.inj a b y z ha hb hy hz e
      · rw [hq] at hz
        obtain rfl := Option.some.inj hz
        exact absurd e (hno a y ha hy)
    · rcases hb with hb | rfl
      · rw [hq] at hy
        obtain rfl := Option.some.inj hy
        exact absurd e.symm (hno b z hb hz)
      · rfl
  · rw [List.getElem?_set] at ha hb
    split at ha
    · rename_i ea
      have := Option.some.inj ha
      obtain rfl : k = q := by omega
      split at hb
      · rename_i eb
        rw [← ea, ← eb]
      · exact absurd hb (hnq b)
    · split at hb
      · skip
        have := Option.some.inj hb
        obtain rfl : k = q := by omega
        exact absurd ha (hnq a)
      · exact h.uniq a b k ha hb
end Go.Proofs.Ytfdfjogoiagnkaa
namespace Go.Proofs.Ytfdfjogoiagnkaa
open Go.RowKit

def liveAt (E : List Ent) (q : Nat) : Prop := ∃ x, E[q]? = some x ∧ x.gone = false
def putL (L : List Ent) (key val : V) : List Ent := L.map (fun y => if y.key = key then { y with val := val } else y)
def hasL (L : List Ent) (key : V) : Bool := L.any (fun y => decide (y.key = key))
def Asc (L : List Ent) : Prop := L.Pairwise (fun a b => a.ser < b.ser)
theorem asc_length (s : Int) : ∀ (L : List Ent) (lo : Int), Asc L → (∀ x ∈ L, lo ≤ x.ser ∧ x.ser ≤ s) → lo ≤ s + 1 → lo + L.length ≤ s + 1
  | [], lo, _, _, h => by simpa using h
  | x :: xs, lo, ha, hb, h => by
    have ha' := List.pairwise_cons.1 ha
    have hx := hb x (List.mem_cons_self ..)
    have := asc_length s xs (lo + 1) ha'.2 (fun y hy => ⟨by have := ha'.1 y hy; omega, (hb y (List.mem_cons_of_mem _ hy)).2⟩) (by omega)
    simp only [List.length_cons]
    omega
theorem mem_stay {E : List Ent} {x : Ent} : x ∈ stay E ↔ x ∈ E ∧ x.gone = false := by simp [stay]
theorem set_val {E : List Ent} {q : Nat} {x : Ent} {val : V} (hq : E[q]? = some x) (hg : x.gone = false) (inj : ∀ q' x', E[q']? = some x' → x'.gone = false → x'.key = x.key → q' = q) :
    E.set q { x with val := val } = E.map (fun y => if y.gone = false ∧ y.key = x.key then { y with val := val } else y) := by
  refine List.ext_getElem? fun i => ?_
  rw [List.getElem?_set, List.getElem?_map]
  by_cases e : q = i
  · subst e
    have hl := (List.getElem?_eq_some_iff.1 hq).1
    rw [hq]
    simp [hl, hg]
  · rw [if_neg e]
    cases hy : E[i]? with
    | none => rfl
    | some y =>
      simp only [Option.map_some]
      rw [if_neg (fun h => e (inj i y hy h.1 h.2).symm)]
theorem stay_val (E : List Ent) (key val : V) : stay (E.map (fun y => if y.gone = false ∧ y.key = key then { y with val := val } else y)) = putL (stay E) key val := by
  induction E with
  | nil => rfl
  | cons x xs ih =>
    simp only [stay, putL, List.map_cons, List.filter_cons] at ih ⊢
    cases hg : x.gone with
    | true => simpa [hg] using ih
    | false =>
      by_cases hk : x.key = key
      · simpa [hg, hk] using ih
      · simpa [hg, hk] using ih
theorem Slots.congr {E : List Ent} {S : List Int} {P Q : Nat → Prop} (h : Slots E S P) (hPQ : ∀ q, P q ↔ Q q) : Slots E S Q := by
  have : P = Q := funext fun q => propext (hPQ q)
  subst this
  exact h
theorem Slots.ents {E E' : List Ent} {S : List Int} {P : Nat → Prop} (h : Slots E S P) (he : ∀ q x, P q → E[q]? = some x → ∃ y, E'[q]? = some y ∧ y.key = x.key) : Slots E' S P := by
  have key : ∀ q y, P q → E'[q]? = some y → ∃ x, E[q]? = some x ∧ y.key = x.key := fun q y hP hy => by
    obtain ⟨x, d, hx, -⟩ := h.way q hP
    obtain ⟨z, hz, hk⟩ := he q x hP hx
    rw [hy] at hz
    obtain rfl := Option.some.inj hz
    exact ⟨x, hx, hk⟩
  refine ⟨h.inP, fun q hP => ?_, fun a b y z ha hb hy hz e => ?_, h.uniq⟩
  · obtain ⟨x, d, hx, hd, h1, h2⟩ := h.way q hP
    obtain ⟨y, hy, hk⟩ := he q x hP hx
    exact ⟨y, d, hy, hd, by rw [hk]; exact h1, fun d' hd' => by rw [hk]; exact h2 d' hd'⟩
  · obtain ⟨y', hy', e1⟩ := key a y ha hy
    obtain ⟨z', hz', e2⟩ := key b z hb hz
    exact h.inj a b y' z' ha hb hy' hz' (by rw [← e1, ← e2]; exact e)

structure Tb.ok (t : Tb) : Prop where
  two : t.S.length = 0 ∨ ∃ m : Nat, m ≤ 30 ∧ t.S.length = 2 ^ m
  sl : Slots t.E t.S (liveAt t.E)
  liv : t.live = ((stay t.E).length : Int)
  most : (stay t.E).length ≤ 1048576
  usd : t.used = ((t.S.countP (fun s => decide (s ≠ 0)) : Nat) : Int)
  load : 4 * t.used ≤ 3 * (t.S.length : Int)
  asc : Asc t.E
  sers : ∀ x ∈ t.E, 1 ≤ x.ser ∧ x.ser ≤ t.ser
  ser0 : 0 ≤ t.ser
  keys : ∀ x ∈ t.E, x.key.t.size ≤ 140737488351232
  nnul : ∀ x ∈ t.E, x.gone = false → x.key.k ≠ 0
theorem Tb.ok.many {t : Tb} (h : t.ok) : (t.E.length : Int) ≤ t.ser := by
  have := asc_length t.ser t.E 1 h.asc h.sers (by have := h.ser0; omega)
  omega
theorem Tb.ok.safe {t : Tb} (h : t.ok) (hs : t.ser ≤ 1073741824) : t.safe :=
  ⟨h.two, fun i s hi => by
    rcases h.sl.inP i s hi with e | e | ⟨q, e, x, hx, -⟩
    · exact .inl e
    · exact .inr (.inl e)
    · have := (List.getElem?_eq_some_iff.1 hx).1
      exact .inr (.inr ⟨by omega, by omega⟩), by have := h.many; omega⟩
theorem Tb.ok.len {t : Tb} (h : t.ok) : t.S.length ≤ 1073741824 := by
  rcases h.two with e | ⟨m, hm, e⟩
  · omega
  · rw [e]; exact Nat.pow_le_pow_right (by decide) hm
theorem Tb.ok.inj {t : Tb} (h : t.ok) {q : Nat} {x : Ent} (hq : t.E[q]? = some x) (hg : x.gone = false) : ∀ q' x', t.E[q']? = some x' → x'.gone = false → x'.key = x.key → q' = q :=
  fun q' x' hq' hg' e => h.sl.inj q' q x' x ⟨x', hq', hg'⟩ ⟨x, hq, hg⟩ hq' hq e
theorem Tb.ok.there {t : Tb} (h : t.ok) (hs : t.ser ≤ 1073741824) {x : Ent} (hx : x ∈ stay t.E) : ∃ (q : Nat) (hq : q < t.E.length), t.E[q] = x ∧ (findT t x.key).2 = true ∧ t.S[(findT t x.key).1]? = Option.some ((q : Int) + 1) := by
  obtain ⟨hm, hg⟩ := mem_stay.1 hx
  obtain ⟨q, hq, e⟩ := List.mem_iff_getElem.1 hm
  have hq' : t.E[q]? = Option.some x := by rw [List.getElem?_eq_getElem hq, e]
  obtain ⟨h1, h2⟩ := h.sl.found (h.safe hs) (q := q) ⟨x, hq', hg⟩ hq'
  exact ⟨q, hq, e, h1, h2⟩
theorem Tb.ok.absent {t : Tb} (h : t.ok) (hs : t.ser ≤ 1073741824) {key : V} (hno : ∀ x ∈ stay t.E, x.key ≠ key) : (findT t key).2 = false :=
  h.sl.absent (h.safe hs) (fun q x hP hx => by
    obtain ⟨y, hy, hg⟩ := hP
    rw [hx] at hy
    obtain rfl := Option.some.inj hy
    exact hno x (mem_stay.2 ⟨List.mem_of_getElem? hx, hg⟩))
theorem Tb.ok.keysne {t : Tb} (h : t.ok) : (stay t.E).Pairwise (fun a b => a.key ≠ b.key) := by
  have h1 : t.E.Pairwise (fun a b => a.gone = false → b.gone = false → a.key ≠ b.key) := by
    rw [List.pairwise_iff_getElem]
    intro i j hi hj hij ga gb e
    have := h.inj (List.getElem?_eq_getElem hj) gb i _ (List.getElem?_eq_getElem hi) ga e
    omega
  refine (h1.filter (fun e => !e.gone)).imp_of_mem (fun {a b} ha hb hab => hab ?_ ?_)
  · simpa using (List.mem_filter.1 ha).2
  · simpa using (List.mem_filter.1 hb).2
theorem stay_append (E G : List Ent) : stay (E ++ G) = stay E ++ stay G := by simp [stay]
theorem stay_live {x : Ent} {xs : List Ent} (h : x.gone = false) : stay (x :: xs) = x :: stay xs := by simp [stay, h]
theorem stay_gone {x : Ent} {xs : List Ent} (h : x.gone = true) : stay (x :: xs) = stay xs := by simp [stay, h]
theorem ok_clear (s : Int) (hs : 0 ≤ s) : (⟨[], [], 0, 0, s⟩ : Tb).ok :=
  ⟨.inl rfl, ⟨fun i s h => by simp at h, fun q h => by obtain ⟨x, h, -⟩ := h; simp at h, fun q q' x x' h => by obtain ⟨x, h, -⟩ := h; simp at h, fun i j q h => by simp at h⟩, rfl, by simp [stay], rfl, by simp, List.Pairwise.nil, fun x h => by simp at h, hs, fun x h => by simp at h, fun x h => by simp at h⟩
theorem ok_val {t : Tb} (h : t.ok) {q : Nat} (hq : q < t.E.length) (hg : t.E[q].gone = false) (val : V) :
    ({ t with E := t.E.set q { t.E[q] with val := val } } : Tb).ok ∧ stay (t.E.set q { t.E[q] with val := val }) = putL (stay t.E) t.E[q].key val := by
  have hx : t.E[q]? = Option.some t.E[q] := List.getElem?_eq_getElem hq
  have e := set_val (val := val) hx hg (h.inj hx hg)
  have hstay : stay (t.E.set q { t.E[q] with val := val }) = putL (stay t.E) t.E[q].key val := by rw [e, stay_val]
  have hlv : ∀ k, liveAt t.E k ↔ liveAt (t.E.set q { t.E[q] with val := val }) k := fun k => by
    simp only [liveAt, List.getElem?_set]
    by_cases hk : q = k
    · subst hk
      simp [hq, hg]
    · simp [hk]
  have hmem : ∀ x ∈ t.E.set q { t.E[q] with val := val }, ∃ y ∈ t.E, x.key = y.key ∧ x.ser = y.ser ∧ x.gone = y.gone := fun x hm => by
    rcases List.mem_or_eq_of_mem_set hm with hm | rfl
    · exact ⟨x, hm, rfl, rfl, rfl⟩
    · exact ⟨t.E[q], List.getElem_mem hq, rfl, rfl, rfl⟩
  refine ⟨⟨h.two, ?_, ?_, ?_, h.usd, h.load, ?_, fun x hm => ?_, h.ser0, fun x hm => ?_, fun x hm hgx => ?_⟩, hstay⟩
  · refine (h.sl.ents (fun k x hP hk => ?_)).congr hlv
    simp only [List.getElem?_set]
    by_cases hk2 : q = k
    · subst hk2
      rw [hx] at hk
      obtain rfl := Option.some.inj hk
      exact ⟨{ t.E[q] with val := val }, by simp [hq], rfl⟩
    · exact ⟨x, by simp [hk2, hk], rfl⟩
  · show t.live = _
    rw [hstay, h.liv]; simp [putL]
  · show (stay (t.E.set q { t.E[q] with val := val })).length ≤ _
    rw [hstay]
    simpa [putL] using h.most
  · show Asc (t.E.set q { t.E[q] with val := val })
    rw [e, Asc, List.pairwise_map]
    refine h.asc.imp fun {a b} hab => ?_
    split <;> split <;> exact hab
  · obtain ⟨y, hy, -, h2, -⟩ := hmem x hm
    rw [h2]; exact h.sers y hy
  · obtain ⟨y, hy, h1, -⟩ := hmem x hm
    rw [h1]; exact h.keys y hy
  · obtain ⟨y, hy, h1, -, h3⟩ := hmem x hm
    rw [h1]; exact h.nnul y hy (by rw [← h3]; exact hgx)
theorem ok_put {t : Tb} (h : t.ok) (hs : t.ser ≤ 1073741824) {key : V} (val : V) (h0 : key.k ≠ 0) (hk : key.t.size ≤ 140737488351232) (hno : ∀ x ∈ stay t.E, x.key ≠ key) (hl : (stay t.E).length < 1048576) (hp : 4 * (t.used + 1) ≤ 3 * (t.S.length : Int)) :
    (putT t key val).ok ∧ stay (putT t key val).E = stay t.E ++ [⟨key, val, t.ser + 1, false⟩] ∧ (putT t key val).ser = t.ser + 1 := by
  have hno' : ∀ q x, liveAt t.E q → t.E[q]? = Option.some x → x.key ≠ key := fun q x hP hx => by
    obtain ⟨y, hy, hg⟩ := hP
    rw [hx] at hy
    obtain rfl := Option.some.inj hy
    exact hno x (mem_stay.2 ⟨List.mem_of_getElem? hx, hg⟩)
  have hc : t.S.countP (fun s => decide (s ≠ 0)) < t.S.length := by have := h.usd; have : 0 ≤ t.used := by omega
                                                                    omega
  have hg := h.sl.free (h.safe hs) hno' (zero_in hc)
  have hil : (findT t key).1 < t.S.length := findT_lt (by omega)
  have hstay : stay (t.E ++ [⟨key, val, t.ser + 1, false⟩]) = stay t.E ++ [⟨key, val, t.ser + 1, false⟩] := by rw [stay_append]; rfl
  have hlast : (t.E ++ [(⟨key, val, t.ser + 1, false⟩ : Ent)])[t.E.length]? = Option.some ⟨key, val, t.ser + 1, false⟩ := by simp
  have hold : ∀ q x, liveAt t.E q → t.E[q]? = Option.some x → ∃ y, (t.E ++ [(⟨key, val, t.ser + 1, false⟩ : Ent)])[q]? = Option.some y ∧ y.key = x.key := fun q x _ hx => ⟨x, by rw [List.getElem?_append_left (List.getElem?_eq_some_iff.1 hx).1]; exact hx, rfl⟩
  have hlv : ∀ k, (liveAt t.E k ∨ k = t.E.length) ↔ liveAt (t.E ++ [(⟨key, val, t.ser + 1, false⟩ : Ent)]) k := fun k => by
    simp only [liveAt]
    by_cases hk : k < t.E.length
    · rw [List.getElem?_append_left hk]
      constructor
      · rintro (h | h)
        · exact h
        · omega
      · exact .inl
    · by_cases hk2 : k = t.E.length
      · subst hk2
        simp
      · rw [List.getElem?_eq_none (by omega : t.E.length ≤ k), List.getElem?_eq_none (by simp; omega)]
        simp [hk2]
  refine ⟨⟨by show (t.S.set _ _).length = 0 ∨ ∃ m, m ≤ 30 ∧ (t.S.set _ _).length = 2 ^ m; rw [List.length_set]; exact h.two, ?_, ?_, ?_, ?_, ?_, ?_, fun x hm => ?_, by show 0 ≤ t.ser + 1; have := h.ser0; omega, fun x hm => ?_, fun x hm hgx => ?_⟩, hstay, rfl⟩
  · refine ((h.sl.ents hold).place hlast (fun q' x' hP hx' => ?_) hg).congr hlv
    obtain ⟨y, hy, hgy⟩ := hP
    rw [List.getElem?_append_left (List.getElem?_eq_some_iff.1 hy).1] at hx'
    exact hno' q' x' ⟨y, hy, hgy⟩ hx'
  · show t.live + 1 = _
    simp only [putT]
    rw [hstay, h.liv]; simp
  · show (stay (t.E ++ [_])).length ≤ _
    rw [hstay]; simp; omega
  · show (if t.S.getD (findT t key).1 0 = (0 : Int) then t.used + 1 else t.used) = ((t.S.set (findT t key).1 ((t.E.length : Int) + 1)).countP _ : Nat)
    rw [count_set hil (by omega), h.usd]
    split <;> simp
  · show 4 * (if t.S.getD (findT t key).1 0 = (0 : Int) then t.used + 1 else t.used) ≤ 3 * ((t.S.set _ _).length : Int)
    rw [List.length_set]
    split <;> omega
  · show Asc (t.E ++ [_])
    refine List.pairwise_append.2 ⟨h.asc, List.pairwise_singleton .., fun a ha b hb => ?_⟩
    obtain rfl := List.mem_singleton.1 hb
    have := (h.sers a ha).2
    show a.ser < t.ser + 1
    omega
  · show 1 ≤ x.ser ∧ x.ser ≤ t.ser + 1
    rcases List.mem_append.1 hm with hm | hm
    · have := h.sers x hm; omega
    · obtain rfl := List.mem_singleton.1 hm
      have := h.ser0
      exact ⟨by show 1 ≤ t.ser + 1; omega, Int.le_refl _⟩
  · rcases List.mem_append.1 hm with hm | hm
    · exact h.keys x hm
    · obtain rfl := List.mem_singleton.1 hm
      exact hk
  · rcases List.mem_append.1 hm with hm | hm
    · exact h.nnul x hm hgx
    · obtain rfl := List.mem_singleton.1 hm
      exact h0
theorem fill_ok (L : List Ent) (m : Nat) (hm : m ≤ 30) (hn : L.length < 2 ^ m) (hd : L.Pairwise (fun a b => a.key ≠ b.key)) :
    ∀ j, j ≤ L.length → Slots L (fillT L j (List.replicate (2 ^ m) 0)) (fun k => k < j) ∧ (∀ (i : Nat) (s : Int), (fillT L j (List.replicate (2 ^ m) 0))[i]? = some s → s ≠ -1) ∧ (fillT L j (List.replicate (2 ^ m) 0)).countP (fun s => decide (s ≠ 0)) = j
  | 0, _ => by
    refine ⟨⟨fun i s h => .inl ?_, fun q h => absurd h (by omega), fun q q' x x' h => absurd h (by omega), fun i j q h => ?_⟩, fun i s h => ?_, ?_⟩
    · simp only [fillT, List.getElem?_replicate] at h
      split at h
      · exact (Option.some.inj h).symm
      · cases h
    · simp only [fillT, List.getElem?_replicate] at h
      split at h
      · have := Option.some.inj h; omega
      · cases h
    · simp only [fillT, List.getElem?_replicate] at h
      split at h
      · have := Option.some.inj h; omega
      · cases h
    · simp [fillT, List.countP_replicate]
  | j + 1, hj => by
    obtain ⟨h1, h2, h3⟩ := fill_ok L m hm hn hd j (by omega)
    have hlen : (fillT L j (List.replicate (2 ^ m) 0)).length = 2 ^ m := by rw [fillT_length, List.length_replicate]
    have hpow : 2 ^ m ≤ 1073741824 := Nat.pow_le_pow_right (by decide) hm
    have hjl : j < L.length := by omega
    have hxj : L[j]? = some L[j] := List.getElem?_eq_getElem hjl
    have hsafe : (⟨L, fillT L j (List.replicate (2 ^ m) 0), 0, 0, 0⟩ : Tb).safe := ⟨.inr ⟨m, hm, hlen⟩, fun i s hi => by
      rcases h1.inP i s hi with e | e | ⟨q, e, hq⟩
      · exact .inl e
      · exact .inr (.inl e)
      · exact .inr (.inr ⟨by omega, by show s ≤ (L.length : Int); omega⟩), by show L.length ≤ _; omega⟩
    have hkey : (L.getD j (blank 0)).key = L[j].key := by rw [List.getD_eq_getElem?_getD, hxj]; rfl
    have hno : ∀ (q : Nat) (x : Ent), q < j → L[q]? = some x → x.key ≠ L[j].key := fun q x hq hx => by
      have := List.pairwise_iff_getElem.1 hd q j (by omega) hjl hq
      rw [List.getElem?_eq_getElem (by omega)] at hx
      obtain rfl := Option.some.inj hx
      exact this
    have hg := Slots.free (t := ⟨L, fillT L j (List.replicate (2 ^ m) 0), 0, 0, 0⟩) hsafe h1 hno (zero_in (by show List.countP _ (fillT L j (List.replicate (2 ^ m) 0)) < (fillT L j (List.replicate (2 ^ m) 0)).length; rw [h3, hlen]; omega))
    have hi : (findT ⟨L, fillT L j (List.replicate (2 ^ m) 0), 0, 0, 0⟩ L[j].key).1 < (fillT L j (List.replicate (2 ^ m) 0)).length := findT_lt (t := ⟨L, fillT L j (List.replicate (2 ^ m) 0), 0, 0, 0⟩) (by show 0 < (fillT L j (List.replicate (2 ^ m) 0)).length; rw [hlen]; exact Nat.two_pow_pos m)
    rw [fillT, hkey]
    obtain ⟨D, hD, hDi, hv, hw⟩ := id hg
    have hv0 : (fillT L j (List.replicate (2 ^ m) 0)).getD (findT ⟨L, fillT L j (List.replicate (2 ^ m) 0), 0, 0, 0⟩ L[j].key).1 0 = 0 := by
      rcases hv with hv | hv
      · exact hv
      · exact absurd hv (h2 _ _ (some_getD hi))
    refine ⟨(h1.place hxj hno hg).congr (fun k => by omega), fun i s hs => ?_, ?_⟩
    · rw [List.getElem?_set] at hs
      split at hs
      · have := Option.some.inj hs; omega
      · exact h2 i s hs
    · rw [count_set hi (by omega), hv0, h3]; simp
theorem ok_rehash {t : Tb} (h : t.ok) {m : Nat} (hm : m ≤ 30) (hp : 4 * ((stay t.E).length + 1) ≤ 2 * 2 ^ m) :
    (⟨stay t.E, fillT (stay t.E) (stay t.E).length (List.replicate (2 ^ m) 0), t.live, t.live, t.ser⟩ : Tb).ok := by
  have hlen : (fillT (stay t.E) (stay t.E).length (List.replicate (2 ^ m) 0)).length = 2 ^ m := by rw [fillT_length, List.length_replicate]
  obtain ⟨h1, h2, h3⟩ := fill_ok (stay t.E) m hm (by omega) h.keysne _ (Nat.le_refl _)
  have hss : stay (stay t.E) = stay t.E := by simp [stay]
  have hlv : ∀ k, k < (stay t.E).length ↔ liveAt (stay t.E) k := fun k => by
    constructor
    · intro hk
      exact ⟨(stay t.E)[k], List.getElem?_eq_getElem hk, (mem_stay.1 (List.getElem_mem hk)).2⟩
    · rintro ⟨x, hx, -⟩
      exact (List.getElem?_eq_some_iff.1 hx).1
  refine ⟨.inr ⟨m, hm, hlen⟩, h1.congr hlv, ?_, ?_, ?_, ?_, h.asc.filter _, fun x hx => h.sers x (mem_stay.1 hx).1, h.ser0, fun x hx => h.keys x (mem_stay.1 hx).1, fun x hx hg => h.nnul x (mem_stay.1 hx).1 hg⟩
  · show t.live = _
    rw [hss]; exact h.liv
  · show (stay (stay t.E)).length ≤ _
    rw [hss]; exact h.most
  · show t.live = _
    rw [h3, h.liv]
  · show 4 * t.live ≤ 3 * _
    rw [hlen, h.liv]
    have : ((2 ^ m : Nat) : Int) ≥ 0 := by omega
    omega
end Go.Proofs.Ytfdfjogoiagnkaa
namespace Go.Proofs.Ytfdfjogoiagnkaa
open Go.RowKit
set_option maxRecDepth 100000

def IsT (w : World) (F : Nat → Prop) (b : Nat) (L : List Ent) (s : Int) : Prop := ∃ t : Tb, IsTab w F b t ∧ t.ok ∧ stay t.E = L ∧ t.ser = s
theorem IsT.keeps {w w1 : World} {F S : Nat → Prop} {b : Nat} {L : List Ent} {s : Int} (h : IsT w F b L s) (hk : Keeps S w w1) (hn : Apart F S) : IsT w1 F b L s := by
  obtain ⟨t, h1, h2⟩ := h
  exact ⟨t, h1.keeps hk hn, h2⟩
theorem IsT.none {w w1 : World} {F : Nat → Prop} {b : Nat} {L : List Ent} {s : Int} (h : IsT w F b L s) (hk : Keeps (fun _ => False) w w1) : IsT w1 F b L s := h.keeps hk (Apart.no _)
theorem IsT.inw {w : World} {F : Nat → Prop} {b : Nat} {L : List Ent} {s : Int} (h : IsT w F b L s) : In F w := by obtain ⟨t, h1, _⟩ := h; exact h1.inw
structure Lok (L : List Ent) (s : Int) : Prop where
  asc : Asc L
  sers : ∀ x ∈ L, 1 ≤ x.ser ∧ x.ser ≤ s
  live : ∀ x ∈ L, x.gone = false
  kne : L.Pairwise (fun a b => a.key ≠ b.key)
  keys : ∀ x ∈ L, x.key.t.size ≤ 140737488351232
  nnul : ∀ x ∈ L, x.key.k ≠ 0
  most : L.length ≤ 1048576
  pos : 0 ≤ s
theorem IsT.lok {w : World} {F : Nat → Prop} {b : Nat} {L : List Ent} {s : Int} (h : IsT w F b L s) : Lok L s := by
  obtain ⟨t, _, ho, rfl, rfl⟩ := h
  exact ⟨ho.asc.filter _, fun x hx => ho.sers x (mem_stay.1 hx).1, fun x hx => (mem_stay.1 hx).2, ho.keysne, fun x hx => ho.keys x (mem_stay.1 hx).1, fun x hx => ho.nnul x (mem_stay.1 hx).1 (mem_stay.1 hx).2, ho.most, ho.ser0⟩
theorem t_New (w : World) : Calls Try.prog 28 #[] w fun e w' => ∃ b F, e = .returned (.pointer (some ⟨b, 0, none⟩)) ∧ IsT w' F b [] 0 ∧ Keeps (fun _ => False) w w' ∧ Fresh (fun _ => False) F w :=
  (table_New w).mono fun _ _ ⟨b, F, he, h, hk, hf⟩ => ⟨b, F, he, ⟨_, h, ok_clear 0 (by decide), rfl, rfl⟩, hk, hf⟩
section
variable {w : World} {F : Nat → Prop} {b : Nat} {L : List Ent} {s : Int}
theorem t_Get_some (h : IsT w F b L s) (hs : s < 1073741824) {x : Ent} (hx : x ∈ L) :
    Calls Try.prog 54 #[.pointer (some ⟨b, 0, none⟩), x.key.val] w fun e w' => e = .returned (.tuple #[x.val.val, .int .i64 0]) ∧ Keeps (fun _ => False) w w' := by
  obtain ⟨t, h1, ho, rfl, rfl⟩ := h
  obtain ⟨q, hq, e, hf, hS⟩ := ho.there (by omega) hx
  exact (table_Get_some w F b t x.key h1 (ho.safe (by omega)) (ho.keys x (mem_stay.1 hx).1) q hq hf hS).mono fun _ _ ⟨he, hw⟩ => ⟨by rw [he, e], hw⟩
theorem t_Get_none (h : IsT w F b L s) (hs : s < 1073741824) {key : V} (hk : key.t.size ≤ 140737488351232) (hx : ∀ x ∈ L, x.key ≠ key) :
    Calls Try.prog 54 #[.pointer (some ⟨b, 0, none⟩), key.val] w fun e w' => e = .returned (.tuple #[V.val V.null, .int .i64 3]) ∧ Keeps (fun _ => False) w w' := by
  obtain ⟨t, h1, ho, rfl, rfl⟩ := h
  exact table_Get_none w F b t key h1 (ho.safe (by omega)) hk (ho.absent (by omega) hx)
theorem t_Put_there (h : IsT w F b L s) (hs : s < 1073741824) {x : Ent} (hx : x ∈ L) (val : V) :
    Calls Try.prog 30 #[.pointer (some ⟨b, 0, none⟩), x.key.val, val.val] w fun e w' => e = .returned (.int .i64 0) ∧ IsT w' F b (putL L x.key val) s ∧ Keeps F w w' := by
  obtain ⟨t, h1, ho, rfl, rfl⟩ := h
  obtain ⟨q, hq, e, hf, hS⟩ := ho.there (by omega) hx
  have hg : t.E[q].gone = false := by rw [e]; exact (mem_stay.1 hx).2
  obtain ⟨k1, k2⟩ := ok_val ho hq hg val
  exact (table_Put_there w F b t x.key val h1 (ho.safe (by omega)) (ho.keys x (mem_stay.1 hx).1) (ho.nnul x (mem_stay.1 hx).1 (mem_stay.1 hx).2) q hq hf hS).mono fun _ _ ⟨he, ht, hw⟩ => ⟨he, ⟨_, ht, k1, by rw [← e]; exact k2, rfl⟩, hw⟩
theorem t_Put_new (h : IsT w F b L s) (hs : s < 1073741823) {key : V} (val : V) (h0 : key.k ≠ 0) (hk : key.t.size ≤ 140737488351232) (hx : ∀ x ∈ L, x.key ≠ key) (hl : L.length < 1048576) :
    Calls Try.prog 30 #[.pointer (some ⟨b, 0, none⟩), key.val, val.val] w fun e w' => ∃ F' : Nat → Prop, e = .returned (.int .i64 0) ∧ IsT w' F' b (L ++ [⟨key, val, s + 1, false⟩]) (s + 1) ∧ Keeps F w w' ∧ Fresh F F' w := by
  obtain ⟨t, h1, ho, rfl, rfl⟩ := h
  have hf := ho.absent (by omega) hx
  have hmany := ho.many
  have hu0 : 0 ≤ t.used := by rw [ho.usd]; omega
  have hroom : t.room := ⟨⟨ho.ser0, by omega⟩, ⟨hu0, by have := ho.load; omega⟩, ⟨by rw [ho.liv]; omega, by rw [ho.liv]; omega⟩, by omega⟩
  by_cases hp : 4 * (t.used + 1) ≤ 3 * (t.S.length : Int)
  · obtain ⟨k1, k2, k3⟩ := ok_put ho (by omega) val h0 hk hx hl hp
    exact (table_Put_plain w F b t key val h1 (ho.safe (by omega)) hk h0 hf hroom hp).mono fun _ _ ⟨F', he, ht, hw⟩ => ⟨F', he, ⟨_, ht, k1, k2, k3⟩, hw⟩
  · refine (table_Put_more w F b t key val h1 (ho.safe (by omega)) hk h0 hf hroom (by omega) ho.liv ho.keys ho.len).mono fun _ _ ⟨F', m, he, hm2, hm30, hp2, ht, hw⟩ => ⟨F', he, ?_, hw⟩
    have k0 := ok_rehash ho hm30 hp2
    have hss : stay (stay t.E) = stay t.E := by simp [stay]
    have hlen : (fillT (stay t.E) (stay t.E).length (List.replicate (2 ^ m) 0)).length = 2 ^ m := by rw [fillT_length, List.length_replicate]
    obtain ⟨k1, k2, k3⟩ := ok_put k0 (by show t.ser ≤ _; omega) val h0 hk (by show ∀ x ∈ stay (stay t.E), _; rw [hss]; exact hx) (by show (stay (stay t.E)).length < _; rw [hss]; exact hl) (by
      show 4 * (t.live + 1) ≤ 3 * ((fillT (stay t.E) (stay t.E).length (List.replicate (2 ^ m) 0)).length : Int)
      rw [hlen, ho.liv]
      omega)
    exact ⟨_, ht, k1, by rw [k2]; show stay (stay t.E) ++ _ = _; rw [hss], k3⟩
theorem t_Set_none (h : IsT w F b L s) (hs : s < 1073741824) {key : V} (val : V) (hk : key.t.size ≤ 140737488351232) (hx : ∀ x ∈ L, x.key ≠ key) :
    Calls Try.prog 66 #[.pointer (some ⟨b, 0, none⟩), key.val, val.val] w fun e w' => e = .returned (.int .i64 3) ∧ Keeps (fun _ => False) w w' := by
  obtain ⟨t, h1, ho, rfl, rfl⟩ := h
  exact table_Set_none w F b t key val h1 (ho.safe (by omega)) hk (ho.absent (by omega) hx)
theorem t_Set_there (h : IsT w F b L s) (hs : s < 1073741824) {x : Ent} (hx : x ∈ L) (val : V) :
    Calls Try.prog 66 #[.pointer (some ⟨b, 0, none⟩), x.key.val, val.val] w fun e w' => e = .returned (.int .i64 0) ∧ IsT w' F b (putL L x.key val) s ∧ Keeps F w w' := by
  obtain ⟨t, h1, ho, rfl, rfl⟩ := h
  obtain ⟨q, hq, e, hf, hS⟩ := ho.there (by omega) hx
  have hg : t.E[q].gone = false := by rw [e]; exact (mem_stay.1 hx).2
  obtain ⟨k1, k2⟩ := ok_val ho hq hg val
  exact (table_Set_there w F b t x.key val h1 (ho.safe (by omega)) (ho.keys x (mem_stay.1 hx).1) (ho.nnul x (mem_stay.1 hx).1 (mem_stay.1 hx).2) q hq hf hS).mono fun _ _ ⟨he, ht, hw⟩ => ⟨he, ⟨_, ht, k1, by rw [← e]; exact k2, rfl⟩, hw⟩
theorem t_Delete_none (h : IsT w F b L s) (hs : s < 1073741824) {key : V} (hk : key.t.size ≤ 140737488351232) (hx : ∀ x ∈ L, x.key ≠ key) :
    Calls Try.prog 67 #[.pointer (some ⟨b, 0, none⟩), key.val] w fun e w' => e = .returned (.tuple #[V.val V.null, .int .i64 3]) ∧ Keeps (fun _ => False) w w' := by
  obtain ⟨t, h1, ho, rfl, rfl⟩ := h
  exact table_Delete_none w F b t key h1 (ho.safe (by omega)) hk (ho.absent (by omega) hx)
theorem nextT_stay (E : List Ent) (c : Int) : nextT E c = nextT (stay E) c := by
  induction E with
  | nil => rfl
  | cons x xs ih =>
    simp only [nextT] at ih ⊢
    cases hg : x.gone with
    | true => rw [stay_gone hg, List.find?_cons, hg]; simpa using ih
    | false => rw [stay_live hg, List.find?_cons, List.find?_cons, hg]; split <;> simp_all
theorem t_Next (h : IsT w F b L s) (hs : s < 1073741824) (c : Int) :
    Calls Try.prog 55 #[.pointer (some ⟨b, 0, none⟩), .int .i64 c] w fun e w' => e = .returned (nextAns L c) ∧ Keeps (fun _ => False) w w' := by
  obtain ⟨t, h1, ho, rfl, rfl⟩ := h
  have hmany := ho.many
  exact (table_Next w F b t c h1 (by omega) (fun i j hij hj => List.pairwise_iff_getElem.1 ho.asc i j (by omega) hj hij)).mono fun _ _ ⟨he, hw⟩ => ⟨by rw [he, nextAns, nextAns, nextT_stay], hw⟩
end
end Go.Proofs.Ytfdfjogoiagnkaa
namespace Go.Proofs.Ytfdfjogoiagnkaa
open Go.RowKit Go.Shelf
set_option maxRecDepth 100000
attribute [local go_sem] Oper.semAt_some

theorem Keeps.grownBy {w w' : World} (h : Keeps (fun _ => False) w w') : w.grownBy w' none := ⟨h.os, h.tape, h.output, h.size, fun k hk _ => h.block k hk (fun x => x)⟩
theorem Ents.below {w w1 : World} {n : Nat} {A : Option Addr} {E : List Ent} (h : Ents w A E) (hb : Below n w w1) (hn : 0 < E.length → ∀ b o, A = some ⟨b, o, none⟩ → b < n) : Ents w1 A E :=
  h.keeps (Keeps.of_below hb) (fun hl b o e hle => by have := hn hl b o e; omega)
end Go.Proofs.Ytfdfjogoiagnkaa
namespace Go.Proofs.Ytfdfjogoiagnkaa
open Go.RowKit Go.Shelf
set_option maxRecDepth 100000
attribute [local go_sem] Oper.semAt_some

def putE (L : List Ent) (s : Int) (key val : V) : List Ent × Int := if hasL L key then (putL L key val, s) else (L ++ [⟨key, val, s + 1, false⟩], s + 1)
theorem hasL_iff {L : List Ent} {key : V} : hasL L key = true ↔ ∃ x ∈ L, x.key = key := by simp [hasL]
theorem t_Put {w : World} {F : Nat → Prop} {b : Nat} {L : List Ent} {s : Int} (h : IsT w F b L s) (hs : s < 1073741823) {key : V} (val : V) (h0 : key.k ≠ 0) (hk : key.t.size ≤ 140737488351232) (hl : L.length < 1048576) :
    Calls Try.prog 30 #[.pointer (some ⟨b, 0, none⟩), key.val, val.val] w fun e w' => ∃ F' : Nat → Prop, e = .returned (.int .i64 0) ∧ IsT w' F' b (putE L s key val).1 (putE L s key val).2 ∧ Keeps F w w' ∧ Fresh F F' w := by
  unfold putE
  by_cases hh : hasL L key = true
  · rw [if_pos hh]
    obtain ⟨x, hx, rfl⟩ := hasL_iff.1 hh
    exact (t_Put_there h (by omega) hx val).mono fun _ _ ⟨he, ht, hw⟩ => ⟨F, he, ht, hw, Fresh.refl _ _⟩
  · rw [if_neg hh]
    exact t_Put_new h hs val h0 hk (fun x hx e => hh (hasL_iff.2 ⟨x, hx, e⟩)) hl
theorem putE_len (L : List Ent) (s : Int) (key val : V) : (putE L s key val).1.length ≤ L.length + 1 ∧ (putE L s key val).2 ≤ s + 1 := by
  unfold putE
  split
  · simp [putL]; omega
  · simp
def Tight (w : World) (F : Nat → Prop) : Prop := ∀ k, F k → ∃ o : Obj, w.heap[k]? = some o ∧ o.isCells = true
theorem Tight.keeps {w w1 : World} {F S : Nat → Prop} (h : Tight w F) (hk : Keeps S w w1) (hn : Apart F S) : Tight w1 F := fun k hF => by
  obtain ⟨o, h1, h2⟩ := h k hF
  exact ⟨o, hk.heap h1 (hn k hF), h2⟩
end Go.Proofs.Ytfdfjogoiagnkaa
namespace Go.Proofs.Ytfdfjogoiagnkaa
open Go.RowKit
set_option maxRecDepth 100000
section
variable {w : World} {F : Nat → Prop} {b : Nat} {L : List Ent} {s : Int}
def cellsT (L : List Ent) : List Int := cellNums (L.map Ent.key) ++ cellNums (L.map Ent.val)
theorem intCells_append (a b : List Int) : intCells (a ++ b) = intCells a ++ intCells b := by simp [intCells]
end
end Go.Proofs.Ytfdfjogoiagnkaa
namespace Go.Proofs.Ytfdfjogoiagnkaa
open Go.RowKit

structure IsListAt (w : World) (F : Nat → Prop) (b : Nat) (v : Value) (xs : List V) : Prop where
  blk : w.heap[b]? = some (.cells #[v] 112 (0, 0))
  here : F b
  row : Row w F 26 3 v xs.length (flat xs)
  inw : In F w
def IsList (w : World) (F : Nat → Prop) (b : Nat) (xs : List V) : Prop := ∃ v, IsListAt w F b v xs
theorem IsList.inw {w : World} {F : Nat → Prop} {b : Nat} {xs : List V} (h : IsList w F b xs) : In F w := by obtain ⟨_, h⟩ := h; exact h.inw
theorem IsList.keeps {w w1 : World} {F S : Nat → Prop} {b : Nat} {xs : List V} (h : IsList w F b xs) (hk : Keeps S w w1) (hn : Apart F S) : IsList w1 F b xs := by
  obtain ⟨v, h⟩ := h
  exact ⟨v, hk.heap h.blk (hn _ h.here), h.here, h.row.keeps hk hn, h.inw.keeps hk⟩
theorem IsList.none {w w1 : World} {F : Nat → Prop} {b : Nat} {xs : List V} (h : IsList w F b xs) (hk : Keeps (fun _ => False) w w1) : IsList w1 F b xs := h.keeps hk (Apart.no _)
theorem IsListAt.put {wr w1 w2 : World} {F : Nat → Prop} {b m n : Nat} {v v1 : Value} {xs ys : List V} {cs : List Value} (h : IsListAt wr F b v xs) (hn : n = ys.length) (hc : cs = flat ys)
    (hR : Row w1 (fun k => F k ∨ wr.heap.size ≤ k) 26 3 v1 n cs) (hk : Keeps (fun k => v.ownBlock = some k) (wr.drewN m) w1) (h2 : SameBut b w1 w2) (hb : w2.heap[b]? = some (.cells #[v1] 112 (0, 0))) :
    ∃ F2, IsListAt w2 F2 b v1 ys ∧ Keeps F wr w2 ∧ Fresh F F2 wr := by
  subst hn hc
  have hne : ∀ k, v1.ownBlock = some k → k ≠ b := hR.ne (hk.heap (k := b) h.blk (fun e => h.row.ne h.blk (by decide) b e rfl)) (by decide)
  obtain ⟨F2, h3, h4, h5, h6, h7⟩ := upd_end h.inw h.here h.row hR hk hne h2
  exact ⟨F2, ⟨hb, h4, h3, h5⟩, h6, h7⟩

theorem slices_Clone (w : World) (A : Option Addr) (c : Nat) (xs : List V) (h : Vals w A xs) (hl : xs.length * 32 ≤ 140737488355328) (hnil : A = none → xs = []) :
    Calls Try.prog 52 #[.slice A xs.length c] w fun e w' => ∃ A' c' F, e = .returned (.slice A' xs.length c') ∧ Row w' F 26 3 (.slice A' xs.length c') xs.length (flat xs) ∧ In F w' ∧ Keeps (fun _ => False) w w' ∧ Fresh (fun _ => False) F w := by
  have H := hidden h
  clear h
  refine post_gen fun R hR => ?_
  cases A with
  | none =>
    obtain rfl := hnil rfl
    have hrun := fun W => Lib.run_eql_slice_nil (P := Try.prog) W 36 26 none 0 c 0 0 Try.underlying36
    go_enter Try.func52, Try.ntmps52
    go_wp2
    exact hR.out _ _ ⟨_, _, fun _ => False, rfl, Row.nil _ _ _ _, fun _ h => h.elim, Keeps.refl _ _, fun _ h => h.elim⟩
  | some a =>
    have hrun := fun W => Lib.run_eql_slice_nil (P := Try.prog) W 36 26 (some a) xs.length c 0 0 Try.underlying36
    go_enter Try.func52, Try.ntmps52
    go_wp2_with (at_builtin; refine app_list rfl (fun k => k = w.heap.size) _ _ _ _ _ _ 3 32 rfl Try.underlying36 info_val rfl (by decide) (.slice (some ⟨w.heap.size, 0, none⟩) 0 0) _ _ rfl (Row.made0 w _ 3) _ rfl _ _ ((H.out.below ((Below.refl _ w).alloc (Nat.le_refl _) _)).src Try.underlying36) (by omega) (by omega) ?_; intro A2 c2 w1 hR2 hK2; have HR2 := hidden hR2; have HK2 := hidden hK2; clear hR2 hK2)
    have g1 := HR2.out
    simp only [Nat.zero_add, List.nil_append] at g1
    have g2 := HK2.out.size
    simp at g2
    have hK : Keeps (fun _ => False) w w1 := ((Keeps.refl (fun _ => False) w).alloc _).trans HK2.out (fun i hi h => by simp [Value.ownBlock] at h; omega)
    refine hR.out _ _ ⟨A2, c2, fun k => w.heap.size ≤ k ∧ k < w1.heap.size, by simp, ⟨g1.1, fun k hk => ⟨?_, g1.lt k hk⟩⟩, fun k hk => hk.2, hK, fun k hk => .inr hk.1⟩
    have := g1.2 k hk
    simp at this
    omega

theorem list_New (w : World) (A : Option Addr) (c : Nat) (xs : List V) (h : Vals w A xs) (hl : xs.length * 32 ≤ 140737488355328) (hnil : A = none → xs = []) :
    Calls Try.prog 29 #[.slice A xs.length c] w fun e w' => ∃ b F, e = .returned (.pointer (some ⟨b, 0, none⟩)) ∧ IsList w' F b xs ∧ Keeps (fun _ => False) w w' ∧ Fresh (fun _ => False) F w := by
  have key := hidden (slices_Clone w A c xs h hl hnil)
  clear h
  refine post_gen fun R hR => ?_
  go_enter Try.func29, Try.ntmps29
  go_wp2_with fail
  refine key.out.mono ?_
  rintro e w1 ⟨A', c', F, rfl, hRow, hin, hK, hF⟩
  have HRow := hidden hRow
  clear hRow key
  go_wp2
  refine hR.out _ _ ⟨w1.heap.size, fun k => F k ∨ k = w1.heap.size, rfl, ⟨_, blk_new _ _, .inr rfl, (HRow.out.alloc _).mono (fun k _ h => .inl h), fun k hk => ?_⟩, hK.alloc _, fun k hk => ?_⟩
  · rcases hk with hk | hk
    · have := hin k hk; simp; omega
    · simp [hk]
  · rcases hk with hk | hk
    · exact hF k hk
    · have := hK.size; exact .inr (by omega)

theorem list_place (w : World) (F : Nat → Prop) (b : Nat) (xs : List V) (at' : Int) (h : IsList w F b xs) :
    Calls Try.prog 80 #[.pointer (some ⟨b, 0, none⟩), .int .i64 at'] w fun e w' => e = .returned (.int .i64 (if at' < 0 ∨ (xs.length : Int) ≤ at' then -1 else at')) ∧ w = w' := by
  obtain ⟨v, h⟩ := h
  obtain ⟨A, c, rfl⟩ := h.row.form
  have c0 : w.cell? ⟨b, 0, none⟩ = some (.slice A xs.length c) := blk_cell h.blk 0
  clear h
  refine post_gen fun R hR => ?_
  by_cases h1 : at' < 0
  · go_enter Try.func80, Try.ntmps80
    go_wp2
    exact hR.out _ _ ⟨by rw [if_pos (.inl h1)]; try rfl, rfl⟩
  by_cases h2 : (xs.length : Int) ≤ at'
  · go_enter Try.func80, Try.ntmps80
    go_wp2
    exact hR.out _ _ ⟨by rw [if_pos (.inr h2)]; try rfl, rfl⟩
  · go_enter Try.func80, Try.ntmps80
    go_wp2
    exact hR.out _ _ ⟨by rw [if_neg (by omega)]; try rfl, rfl⟩

theorem list_Get_none (w : World) (F : Nat → Prop) (b : Nat) (xs : List V) (at' : Int) (h : IsList w F b xs) (hat : at' < 0 ∨ (xs.length : Int) ≤ at') :
    Calls Try.prog 69 #[.pointer (some ⟨b, 0, none⟩), .int .i64 at'] w fun e w' => e = .returned (.tuple #[V.val V.null, .int .i64 1]) ∧ Keeps (fun _ => False) w w' := by
  have key := hidden (fun W (h : IsList W F b xs) => list_place W F b xs at' h)
  have H := hidden h
  rw [if_pos hat] at key
  clear h hat
  refine post_gen fun R hR => ?_
  go_enter Try.func69, Try.ntmps69
  go_wp2_with fail
  refine (key.out _ (H.out.none ((Keeps.refl _ _).alloc _))).mono ?_
  rintro e _ ⟨rfl, rfl⟩
  go_wp2_with fail
  refine (value_Null _).mono ?_
  rintro e w1 ⟨rfl, hK⟩
  have HV := hidden ((IsVar.new w V.null).keeps hK (fun h => h))
  obtain ⟨c0, c1, c2, f0, f1, f2⟩ := HV.out.cells
  simp only [V.null] at c0 c1 c2
  unfold V.val V.null
  go_wp2
  obtain ⟨d0, d1, d2, _⟩ := (HV.out.set V.null).cells
  simp only [V.null] at d0 d1 d2
  exact bodyPost_ret (v := .tuple #[V.val V.null, .int .i64 1]) (by simp [results, Try.results69, go_sem, d0, d1, d2, V.val, V.null]) rfl (hR.out _ _ ⟨rfl, (((Keeps.refl _ w).alloc _).trans hK (fun _ _ h => h)).var (fun h => by omega) _ _ _⟩)

theorem list_Get_some (w : World) (F : Nat → Prop) (b : Nat) (xs : List V) (i : Nat) (x : V) (h : IsList w F b xs) (hx : xs[i]? = some x) :
    Calls Try.prog 69 #[.pointer (some ⟨b, 0, none⟩), .int .i64 i] w fun e w' => e = .returned (.tuple #[V.val x, .int .i64 0]) ∧ Keeps (fun _ => False) w w' := by
  have hi := (List.getElem?_eq_some_iff.1 hx).1
  have key := hidden (fun W (h : IsList W F b xs) => list_place W F b xs i h)
  rw [if_neg (by omega)] at key
  have H := hidden h
  obtain ⟨v, hL⟩ := h.none ((Keeps.refl _ w).alloc (.cells #[.int .i64 0, .int .i64 0, .string ⟨#[]⟩] 26))
  obtain ⟨A, c, rfl⟩ := hL.row.form
  obtain ⟨rb, ro, rfl, h0, h1, h2⟩ := Vals.own hL.row.1 i x hx
  have l0 := blk_cell hL.blk 0
  simp only [List.getElem?_toArray, List.getElem?_cons_zero] at l0
  have HV := hidden (IsVar.new w V.null)
  obtain ⟨c0, c1, c2, f0, f1, f2⟩ := HV.out.cells
  simp only [V.null] at c0 c1 c2 f0 f1 f2
  have hneg : ¬ ((i : Int) < 0) := by omega
  have HX := hidden hx
  clear h hx hL
  refine post_gen fun R hR => ?_
  go_enter Try.func69, Try.ntmps69
  go_wp2_with fail
  refine (key.out _ (H.out.none ((Keeps.refl _ _).alloc _))).mono ?_
  rintro e _ ⟨rfl, rfl⟩
  go_wp2
  exact bodyPost_ret (v := .tuple #[V.val x, .int .i64 0]) (by simp [results, Try.results69, go_sem, V.val]) rfl (hR.out _ _ ⟨rfl, (Keeps.refl _ w).alloc _⟩)

end Go.Proofs.Ytfdfjogoiagnkaa
namespace Go.Proofs.Ytfdfjogoiagnkaa
open Go.RowKit
set_option linter.unusedVariables false

theorem IsListAt.turn {w : World} {F : Nat → Prop} {b n : Nat} {v v1 : Value} {xs ys : List V} {cs : List Value} (h : IsListAt w F b v xs) (hn : n = ys.length) (hc : cs = flat ys) (hR : Row w F 26 3 v1 n cs) :
    IsListAt (w.setCell ⟨b, 0, none⟩ v1) F b v1 ys ∧ Keeps F w (w.setCell ⟨b, 0, none⟩ v1) := by
  subst hn hc
  have hk : Keeps F w (w.setCell ⟨b, 0, none⟩ v1) := (Keeps.refl F w).setCell (fun _ => h.here) _
  exact ⟨⟨blk_set h.blk 0 v1, h.here, hR.set (hR.ne h.blk (by decide)) _, h.inw.keeps hk⟩, hk⟩
theorem IsList.at {w : World} {F : Nat → Prop} {b : Nat} {v : Value} {xs : List V} (h : IsListAt w F b v xs) : IsList w F b xs := ⟨v, h⟩
theorem list_Set_none (w : World) (F : Nat → Prop) (b : Nat) (xs : List V) (at' : Int) (y : V) (h : IsList w F b xs) (hat : at' < 0 ∨ (xs.length : Int) ≤ at') :
    Calls Try.prog 65 #[.pointer (some ⟨b, 0, none⟩), .int .i64 at', y.val] w fun e w' => e = .returned (.int .i64 1) ∧ Keeps (fun _ => False) w w' := by
  have key := hidden (fun W (h : IsList W F b xs) => list_place W F b xs at' h)
  have H := hidden h
  rw [if_pos hat] at key
  clear h hat
  obtain ⟨k, n, t⟩ := y
  unfold V.val
  refine post_gen fun R hR => ?_
  go_enter Try.func65, Try.ntmps65
  go_wp2_with fail
  refine (key.out _ (H.out.none ((Keeps.refl _ _).alloc _))).mono ?_
  rintro e _ ⟨rfl, rfl⟩
  go_wp2
  exact hR.out _ _ ⟨rfl, (Keeps.refl _ _).alloc _⟩
theorem flat_set (xs : List V) (y : V) : ∀ i, i < xs.length → (((flat xs).set (i * 3) (.int .i64 y.k)).set (i * 3 + 1) (.int .i64 y.n)).set (i * 3 + 2) (.string y.t) = flat (xs.set i y) := by
  induction xs with
  | nil => intro i h; simp at h
  | cons x xs ih =>
    intro i h
    have e : flat (x :: xs) = x.cells ++ flat xs := by simp [flat]
    cases i with
    | zero => simp [flat, V.cells]
    | succ i =>
      have := ih i (by simpa using h)
      have e2 : flat ((x :: xs).set (i + 1) y) = x.cells ++ flat (xs.set i y) := by simp [flat]
      rw [e, e2, ← this]
      simp [V.cells, Nat.succ_mul]
theorem Row.open3 {w : World} {F : Nat → Prop} {n c : Nat} {A : Option Addr} {xs : List V} (h : Row w F 26 3 (.slice A n c) n (flat xs)) {i : Nat} (hi : i < xs.length) : ∃ g, A = some ⟨g, 0, none⟩ ∧ F g ∧ g < w.heap.size ∧
    w.cell? ⟨g, i * 3, none⟩ = some (.int .i64 xs[i].k) ∧ w.cell? ⟨g, i * 3 + 1, none⟩ = some (.int .i64 xs[i].n) ∧ w.cell? ⟨g, i * 3 + 2, none⟩ = some (.string xs[i].t) ∧
    w.frozen? ⟨g, i * 3, none⟩ = false ∧ w.frozen? ⟨g, i * 3 + 1, none⟩ = false ∧ w.frozen? ⟨g, i * 3 + 2, none⟩ = false := by
  obtain ⟨b, o, rfl, h0, h1, h2⟩ := Vals.own h.1 i xs[i] (by simp [hi])
  have ho : o = 0 := by
    rcases h.1.2 with ⟨he, _⟩ | ⟨g, cap, cur, he, _⟩
    · simp at he
    · simp at he; exact he.1.2
  subst ho
  simp only [Nat.zero_add] at h0 h1 h2
  exact ⟨b, rfl, h.2 b rfl, World.block_lt_of_cell? w _ h0, h0, h1, h2, h.1.frozenAt _, h.1.frozenAt _, h.1.frozenAt _⟩
def put3 (w : World) (g i : Nat) (y : V) : World := ((w.setCell ⟨g, i * 3, none⟩ (.int .i64 y.k)).setCell ⟨g, i * 3 + 1, none⟩ (.int .i64 y.n)).setCell ⟨g, i * 3 + 2, none⟩ (.string y.t)
theorem Row.put3 {w : World} {F : Nat → Prop} {n c g : Nat} {xs : List V} (h : Row w F 26 3 (.slice (some ⟨g, 0, none⟩) n c) n (flat xs)) {i : Nat} (hi : i < xs.length) (y : V) :
    Row (put3 w g i y) F 26 3 (.slice (some ⟨g, 0, none⟩) n c) n (flat (xs.set i y)) := by
  have h3 := ((h.1.stored (i * 3) (.int .i64 y.k)).1.stored (i * 3 + 1) (.int .i64 y.n)).1.stored (i * 3 + 2) (.string y.t)
  rw [flat_set xs y i hi] at h3
  exact ⟨h3.1, h.2⟩
theorem SameBut.put3 {b : Nat} {w1 w2 : World} (h : SameBut b w1 w2) (i : Nat) (y : V) : SameBut b w1 (put3 w2 b i y) := ((h.set _ _).set _ _).set _ _
theorem IsListAt.put3 {w : World} {F : Nat → Prop} {b n c g : Nat} {xs : List V} (h : IsListAt w F b (.slice (some ⟨g, 0, none⟩) n c) xs) {i : Nat} (hi : i < xs.length) (y : V) :
    IsListAt (put3 w g i y) F b (.slice (some ⟨g, 0, none⟩) n c) (xs.set i y) ∧ Keeps F w (put3 w g i y) := by
  have hrow := h.row
  obtain ⟨A', c', e⟩ := hrow.form
  simp at e
  obtain ⟨-, rfl, -⟩ := e
  have hs := (SameBut.refl g w).put3 i y
  have hk : Keeps F w (Go.Proofs.Ytfdfjogoiagnkaa.put3 w g i y) := hs.keeps.mono (fun k _ e => e ▸ h.row.2 g rfl)
  have hne : b ≠ g := fun e => h.row.ne h.blk (by decide) g rfl e.symm
  refine ⟨⟨(hs.block b hne).trans h.blk, h.here, ?_, h.inw.keeps hk⟩, hk⟩
  have := hrow.put3 hi y
  simpa using this
theorem list_Set_some (w : World) (F : Nat → Prop) (b : Nat) (xs : List V) (i : Nat) (y : V) (h : IsList w F b xs) (hi : i < xs.length) :
    Calls Try.prog 65 #[.pointer (some ⟨b, 0, none⟩), .int .i64 i, y.val] w fun e w' => e = .returned (.int .i64 0) ∧ IsList w' F b (xs.set i y) ∧ Keeps F w w' := by
  have key := hidden (fun W (h : IsList W F b xs) => list_place W F b xs i h)
  have H := hidden h
  rw [if_neg (by omega)] at key
  obtain ⟨v, hL⟩ := h
  obtain ⟨A, c, rfl⟩ := hL.row.form
  obtain ⟨g, rfl, hg, hgw, h0, h1, h2, f0, f1, f2⟩ := hL.row.open3 hi
  have l0 := blk_cell hL.blk 0
  simp only [List.getElem?_toArray, List.getElem?_cons_zero] at l0
  have hb := blk_lt hL.blk
  have hneg : ¬ ((i : Int) < 0) := by omega
  have HT := hidden (hL.put3 hi y)
  clear hL
  unfold V.val
  refine post_gen fun R hR => ?_
  go_enter Try.func65, Try.ntmps65
  go_wp2_with fail
  refine (key.out _ (H.out.none ((Keeps.refl _ _).alloc _))).mono ?_
  rintro e _ ⟨rfl, rfl⟩
  go_wp2
  go_region
  go_wp2
  exact hR.out _ _ ⟨rfl, (IsList.at HT.out.1).none ((Keeps.refl _ _).alloc _).drew, (HT.out.2.alloc _).drew⟩
end Go.Proofs.Ytfdfjogoiagnkaa
namespace Go.Proofs.Ytfdfjogoiagnkaa
open Go.RowKit
set_option maxRecDepth 100000

theorem Vals.sub {w : World} {A : Option Addr} {xs : List V} (h : Vals w A xs) (i m : Nat) : Vals w (A.map fun x => x.add (i * 3)) ((xs.drop i).take m) := fun j x hj => by
  have hj' : xs[i + j]? = some x := by
    rw [List.getElem?_take] at hj
    split at hj
    · rwa [List.getElem?_drop] at hj
    · simp at hj
  obtain ⟨b, o, rfl, h0, h1, h2⟩ := h (i + j) x hj'
  refine ⟨b, o + i * 3, by simp [add_at3], ?_, ?_, ?_⟩
  · rw [← h0]; congr 2; omega
  · rw [← h1]; congr 2; omega
  · rw [← h2]; congr 2; omega
end Go.Proofs.Ytfdfjogoiagnkaa
namespace Go.Proofs.Ytfdfjogoiagnkaa
open Go.RowKit

theorem V.one (y : V) : ∀ v ∈ y.cells, v.oneCell' = true := by
  intro v hv
  simp [V.cells] at hv
  rcases hv with rfl | rfl | rfl <;> rfl
end Go.Proofs.Ytfdfjogoiagnkaa
namespace Go.Proofs.Ytfdfjogoiagnkaa
open Go.RowKit
set_option maxRecDepth 100000

structure Cl where
  kind : Int
  vals : List V
  list : Option (Nat × List V)
  tab : Option (Nat × List Ent × Int)
  nums : List Int
  text : ByteArray
structure Cl.small (c : Cl) : Prop where
  vals : c.vals.length ≤ 1048576
  nums : c.nums.length ≤ 1048576
  list : ∀ b xs, c.list = some (b, xs) → xs.length ≤ 1048576
  tab : ∀ b L s, c.tab = some (b, L, s) → s < 1073741000
def ListOf (w : World) (F : Nat → Prop) (p : Option Addr) : Option (Nat × List V) → Prop
  | none => p = none
  | some (b, xs) => p = some ⟨b, 0, none⟩ ∧ IsList w F b xs
def TabOf (w : World) (F : Nat → Prop) (p : Option Addr) : Option (Nat × List Ent × Int) → Prop
  | none => p = none
  | some (b, L, s) => p = some ⟨b, 0, none⟩ ∧ IsT w F b L s
theorem ListOf.keeps {w w1 : World} {F S : Nat → Prop} {p : Option Addr} {l : Option (Nat × List V)} (h : ListOf w F p l) (hk : Keeps S w w1) (hn : Apart F S) : ListOf w1 F p l := by
  cases l with
  | none => exact h
  | some xs => obtain ⟨e, h⟩ := h; exact ⟨e, h.keeps hk hn⟩
theorem TabOf.keeps {w w1 : World} {F S : Nat → Prop} {p : Option Addr} {l : Option (Nat × List Ent × Int)} (h : TabOf w F p l) (hk : Keeps S w w1) (hn : Apart F S) : TabOf w1 F p l := by
  cases l with
  | none => exact h
  | some xs => obtain ⟨e, h⟩ := h; exact ⟨e, h.keeps hk hn⟩
structure CellX (w : World) (p : Nat) (F : Nat → Prop) (c : Cl) (G : Nat → Nat → Prop) (vv vn : Value) (lp tp : Option Addr) : Prop where
  blk : w.heap[p]? = some (.cells #[.int .i64 c.kind, vv, .pointer lp, .pointer tp, vn, .string c.text] 41 (0, 0))
  here : F p
  sub : ∀ i k, G i k → F k
  off : ∀ i, ¬ G i p
  ap : ∀ i j, i ≠ j → Apart (G i) (G j)
  vals : Row w (G 0) 26 3 vv c.vals.length (flat c.vals)
  list : ListOf w (G 1) lp c.list
  tab : TabOf w (G 2) tp c.tab
  nums : Row w (G 3) 2 1 vn c.nums.length (intCells c.nums)
  inw : In F w
  small : c.small
def IsCell (w : World) (p : Nat) (F : Nat → Prop) (c : Cl) : Prop := ∃ G vv vn lp tp, CellX w p F c G vv vn lp tp
theorem CellX.keeps {w w1 : World} {p : Nat} {F S : Nat → Prop} {c : Cl} {G : Nat → Nat → Prop} {vv vn : Value} {lp tp : Option Addr} (h : CellX w p F c G vv vn lp tp) (hk : Keeps S w w1) (hn : Apart F S) : CellX w1 p F c G vv vn lp tp :=
  have ha : ∀ i, Apart (G i) S := fun i k hg hs => hn k (h.sub i k hg) hs
  ⟨hk.heap h.blk (hn p h.here), h.here, h.sub, h.off, h.ap, h.vals.keeps hk (ha 0), h.list.keeps hk (ha 1), h.tab.keeps hk (ha 2), h.nums.keeps hk (ha 3), h.inw.keeps hk, h.small⟩
theorem IsCell.keeps {w w1 : World} {p : Nat} {F S : Nat → Prop} {c : Cl} (h : IsCell w p F c) (hk : Keeps S w w1) (hn : Apart F S) : IsCell w1 p F c := by
  obtain ⟨G, vv, vn, lp, tp, h⟩ := h
  exact ⟨G, vv, vn, lp, tp, h.keeps hk hn⟩
theorem IsCell.small {w : World} {p : Nat} {F : Nat → Prop} {c : Cl} (h : IsCell w p F c) : c.small := by
  obtain ⟨G, vv, vn, lp, tp, h⟩ := h
  exact h.small
theorem IsCell.inw {w : World} {p : Nat} {F : Nat → Prop} {c : Cl} (h : IsCell w p F c) : In F w := by
  obtain ⟨G, vv, vn, lp, tp, h⟩ := h
  exact h.inw
noncomputable def famSet (G : Nat → Nat → Prop) (i : Nat) (F' : Nat → Prop) : Nat → Nat → Prop := fun j => if j = i then F' else G j
theorem famSet_at (G : Nat → Nat → Prop) (i : Nat) (F' : Nat → Prop) : famSet G i F' i = F' := if_pos rfl
theorem famSet_ne (G : Nat → Nat → Prop) {i j : Nat} (F' : Nat → Prop) (h : j ≠ i) : famSet G i F' j = G j := if_neg h
theorem famSet_ap {w : World} {G : Nat → Nat → Prop} {i : Nat} {F' : Nat → Prop} (h : ∀ a b, a ≠ b → Apart (G a) (G b)) (hf : Fresh (G i) F' w) (hin : ∀ j, In (G j) w) : ∀ a b, a ≠ b → Apart (famSet G i F' a) (famSet G i F' b) := fun a b hab => by
  by_cases ha : a = i
  · subst ha
    rw [famSet_at, famSet_ne G F' (fun e => hab e.symm)]
    exact (h a b hab).fresh hf (hin b)
  · by_cases hb : b = i
    · subst hb
      rw [famSet_at, famSet_ne G F' ha]
      exact ((h b a (fun e => hab e.symm)).fresh hf (hin a)).symm
    · rw [famSet_ne G F' ha, famSet_ne G F' hb]
      exact h a b hab
theorem CellX.setList {w w1 : World} {p b : Nat} {F F' : Nat → Prop} {c : Cl} {G : Nat → Nat → Prop} {vv vn : Value} {tp : Option Addr} {xs ys : List V} (h : CellX w p F c G vv vn (some ⟨b, 0, none⟩) tp) (hk : Keeps (G 1) w w1) (hl : IsList w1 F' b ys) (hf : Fresh (G 1) F' w) (hy : ys.length ≤ 1048576) :
    IsCell w1 p (fun k => F k ∨ F' k) { c with list := some (b, ys) } ∧ Keeps F w w1 ∧ Fresh F (fun k => F k ∨ F' k) w := by
  have hin : ∀ j, In (G j) w := fun j k hk => h.inw k (h.sub j k hk)
  have hap := famSet_ap h.ap hf hin
  refine ⟨⟨famSet G 1 F', vv, vn, some ⟨b, 0, none⟩, tp, hk.heap h.blk (h.off 1), .inl h.here, fun i k hik => ?_, fun i hi => ?_, hap, ?_, ?_, ?_, ?_, fun k hk2 => ?_, ⟨h.small.vals, h.small.nums, fun b xs e => by cases e; exact hy, h.small.tab⟩⟩, hk.mono (fun k _ hg => h.sub 1 k hg), fun k hk2 => ?_⟩
  · by_cases e : i = 1
    · subst e; rw [famSet_at] at hik; exact .inr hik
    · rw [famSet_ne G F' e] at hik; exact .inl (h.sub i k hik)
  · by_cases e : i = 1
    · subst e
      rw [famSet_at] at hi
      rcases hf p hi with h1 | h1
      · exact h.off 1 h1
      · have := h.inw p h.here; omega
    · rw [famSet_ne G F' e] at hi; exact h.off i hi
  · rw [famSet_ne G F' (by decide)]; exact h.vals.keeps hk (h.ap 0 1 (by decide))
  · rw [famSet_at]; exact ⟨rfl, hl⟩
  · rw [famSet_ne G F' (by decide)]; exact h.tab.keeps hk (h.ap 2 1 (by decide))
  · rw [famSet_ne G F' (by decide)]; exact h.nums.keeps hk (h.ap 3 1 (by decide))
  · rcases hk2 with hk2 | hk2
    · exact Nat.lt_of_lt_of_le (h.inw k hk2) hk.size
    · exact hl.inw k hk2
  · rcases hk2 with hk2 | hk2
    · exact .inl hk2
    · exact (hf k hk2).imp (h.sub 1 k) id
theorem CellX.setTab {w w1 : World} {p b : Nat} {F F' : Nat → Prop} {c : Cl} {G : Nat → Nat → Prop} {vv vn : Value} {lp : Option Addr} {L : List Ent} {s : Int} (h : CellX w p F c G vv vn lp (some ⟨b, 0, none⟩)) (hk : Keeps (G 2) w w1) (hl : IsT w1 F' b L s) (hf : Fresh (G 2) F' w) (hs : s < 1073741000) :
    IsCell w1 p (fun k => F k ∨ F' k) { c with tab := some (b, L, s) } ∧ Keeps F w w1 ∧ Fresh F (fun k => F k ∨ F' k) w := by
  have hin : ∀ j, In (G j) w := fun j k hk => h.inw k (h.sub j k hk)
  have hap := famSet_ap h.ap hf hin
  refine ⟨⟨famSet G 2 F', vv, vn, lp, some ⟨b, 0, none⟩, hk.heap h.blk (h.off 2), .inl h.here, fun i k hik => ?_, fun i hi => ?_, hap, ?_, ?_, ?_, ?_, fun k hk2 => ?_, ⟨h.small.vals, h.small.nums, h.small.list, fun b' L s e => by cases e; exact hs⟩⟩, hk.mono (fun k _ hg => h.sub 2 k hg), fun k hk2 => ?_⟩
  · by_cases e : i = 2
    · subst e; rw [famSet_at] at hik; exact .inr hik
    · rw [famSet_ne G F' e] at hik; exact .inl (h.sub i k hik)
  · by_cases e : i = 2
    · subst e
      rw [famSet_at] at hi
      rcases hf p hi with h1 | h1
      · exact h.off 2 h1
      · have := h.inw p h.here; omega
    · rw [famSet_ne G F' e] at hi; exact h.off i hi
  · rw [famSet_ne G F' (by decide)]; exact h.vals.keeps hk (h.ap 0 2 (by decide))
  · rw [famSet_ne G F' (by decide)]; exact h.list.keeps hk (h.ap 1 2 (by decide))
  · rw [famSet_at]; exact ⟨rfl, hl⟩
  · rw [famSet_ne G F' (by decide)]; exact h.nums.keeps hk (h.ap 3 2 (by decide))
  · rcases hk2 with hk2 | hk2
    · exact Nat.lt_of_lt_of_le (h.inw k hk2) hk.size
    · exact hl.inw k hk2
  · rcases hk2 with hk2 | hk2
    · exact .inl hk2
    · exact (hf k hk2).imp (h.sub 2 k) id

structure HSt where
  fr : List Int
  live : Int
  limit : Int
  freed : Int
  runs : Int
def ptr : Option (Nat × Cl) → Value
  | none => .pointer none
  | some (p, _) => .pointer (some ⟨p, 0, none⟩)
structure HeapX (w : World) (F : Nat → Prop) (hb : Nat) (H : List (Option (Nat × Cl))) (s : HSt) (Fam : Nat → Nat → Prop) (vc vf : Value) : Prop where
  blk : w.heap[hb]? = some (.cells #[vc, vf, .int .i64 s.live, .int .i64 s.limit, .int .i64 s.freed, .int .i64 s.runs] 99 (0, 0))
  here : Fam 0 hb
  sub : ∀ i k, Fam i k → F k
  ap : ∀ i j, i ≠ j → Apart (Fam i) (Fam j)
  cells : Row w (Fam 1) 59 1 vc H.length (H.map ptr)
  free : Row w (Fam 2) 3 1 vf s.fr.length (intCells s.fr)
  each : ∀ i p c, H[i]? = some (some (p, c)) → IsCell w p (Fam (i + 3)) c
  inw : In F w
def IsHeap (w : World) (F : Nat → Prop) (hb : Nat) (H : List (Option (Nat × Cl))) (s : HSt) : Prop := ∃ Fam vc vf, HeapX w F hb H s Fam vc vf
section
variable {w w1 : World} {F S : Nat → Prop} {hb : Nat} {H : List (Option (Nat × Cl))} {s : HSt} {Fam : Nat → Nat → Prop} {vc vf : Value}
theorem HeapX.keeps (h : HeapX w F hb H s Fam vc vf) (hk : Keeps S w w1) (hn : Apart F S) : HeapX w1 F hb H s Fam vc vf :=
  have ha : ∀ i, Apart (Fam i) S := fun i k hg hs => hn k (h.sub i k hg) hs
  ⟨hk.heap h.blk (ha 0 hb h.here), h.here, h.sub, h.ap, h.cells.keeps hk (ha 1), h.free.keeps hk (ha 2), fun i p c e => (h.each i p c e).keeps hk (ha _), h.inw.keeps hk⟩
theorem IsHeap.keeps (h : IsHeap w F hb H s) (hk : Keeps S w w1) (hn : Apart F S) : IsHeap w1 F hb H s := by
  obtain ⟨Fam, vc, vf, h⟩ := h
  exact ⟨Fam, vc, vf, h.keeps hk hn⟩
theorem IsHeap.calm (h : IsHeap w F hb H s) (hk : Keeps (fun _ => False) w w1) : IsHeap w1 F hb H s := h.keeps hk (Apart.no _)
theorem IsHeap.inw (h : IsHeap w F hb H s) : In F w := by obtain ⟨Fam, vc, vf, h⟩ := h; exact h.inw
theorem HeapX.setCell {i p : Nat} {c c' : Cl} {F' : Nat → Prop} (h : HeapX w F hb H s Fam vc vf) (hi : H[i]? = some (some (p, c))) (hk : Keeps (Fam (i + 3)) w w1) (hc : IsCell w1 p F' c') (hf : Fresh (Fam (i + 3)) F' w) :
    HeapX w1 (fun k => F k ∨ F' k) hb (H.set i (some (p, c'))) s (famSet Fam (i + 3) F') vc vf ∧ Keeps F w w1 ∧ Fresh F (fun k => F k ∨ F' k) w := by
  have hin : ∀ j, In (Fam j) w := fun j k hk => h.inw k (h.sub j k hk)
  have hil := (List.getElem?_eq_some_iff.1 hi).1
  have hpt : (H.set i (some (p, c'))).map ptr = H.map ptr := by
    rw [List.map_set]
    refine List.ext_getElem? fun j => ?_
    rw [List.getElem?_set]
    split
    · rename_i e; subst e
      rw [List.getElem?_map, hi]
      simp [hil, ptr]
    · rfl
  refine ⟨⟨hk.heap h.blk (h.ap 0 (i + 3) (by omega) hb h.here), ?_, fun j k hjk => ?_, famSet_ap h.ap hf hin, ?_, ?_, fun j q d hj => ?_, fun k hk2 => ?_⟩, hk.mono (fun k _ hg => h.sub _ k hg), fun k hk2 => ?_⟩
  · rw [famSet_ne Fam F' (by omega)]; exact h.here
  · by_cases e : j = i + 3
    · subst e; rw [famSet_at] at hjk; exact .inr hjk
    · rw [famSet_ne Fam F' e] at hjk; exact .inl (h.sub j k hjk)
  · rw [famSet_ne Fam F' (by omega), List.length_set, hpt]; exact h.cells.keeps hk (h.ap 1 (i + 3) (by omega))
  · rw [famSet_ne Fam F' (by omega)]; exact h.free.keeps hk (h.ap 2 (i + 3) (by omega))
  · rw [List.getElem?_set] at hj
    by_cases e : i = j
    · subst e
      simp [hil] at hj
      obtain ⟨rfl, rfl⟩ := hj
      rw [famSet_at]
      exact hc
    · rw [if_neg e] at hj
      rw [famSet_ne Fam F' (by omega)]
      exact (h.each j q d hj).keeps hk (h.ap _ _ (by omega))
  · rcases hk2 with hk2 | hk2
    · exact Nat.lt_of_lt_of_le (h.inw k hk2) hk.size
    · exact hc.inw k hk2
  · rcases hk2 with hk2 | hk2
    · exact .inl hk2
    · exact (hf k hk2).imp (h.sub _ k) id
end
structure HOk (H : List (Option (Nat × Cl))) (s : HSt) : Prop where
  lim : 0 ≤ s.limit ∧ s.limit ≤ 1048576
  live : s.live = ((H.countP (·.isSome) : Nat) : Int)
  full : s.live ≤ s.limit
  len : (H.length : Int) ≤ s.limit
  nodup : s.fr.Nodup
  free : ∀ i : Int, i ∈ s.fr ↔ ∃ n : Nat, i = n ∧ H[n]? = some none
def Cl.strong (c : Cl) : List Int := cellNums c.vals ++ (match c.list with | none => [] | some (_, xs) => cellNums xs) ++ (match c.tab with | none => [] | some (_, L, _) => cellsT L)
end Go.Proofs.Ytfdfjogoiagnkaa
namespace Go.Proofs.Ytfdfjogoiagnkaa
open Go.RowKit
set_option maxRecDepth 100000

theorem row1_cell {w : World} {F : Nat → Prop} {e n c : Nat} {A : Option Addr} {xs : List Value} (h : Row w F e 1 (.slice A n c) n xs) {i : Nat} {v : Value} (hi : xs[i]? = some v) : ∃ g, A = some ⟨g, 0, none⟩ ∧ F g ∧ g < w.heap.size ∧ w.cell? ⟨g, i, none⟩ = some v ∧ w.frozen? ⟨g, i, none⟩ = false := by
  have hn : 0 < n := by
    have := (List.getElem?_eq_some_iff.1 hi).1
    have := h.1.1
    omega
  obtain ⟨g, cur, rfl, hF, hg, -⟩ := h.blk hn
  have := h.1.cells (g := g) rfl i v hi
  rw [add_at3, Nat.zero_add] at this
  exact ⟨g, rfl, hF, World.block_lt_of_cell? w _ this, this, h.1.frozenAt _⟩
theorem heap_New (w : World) (limit : Int) :
    Calls Try.prog 11 #[.int .i64 limit] w fun e w' => ∃ hb F, e = .returned (.pointer (some ⟨hb, 0, none⟩)) ∧ IsHeap w' F hb [] ⟨[], 0, min (max limit 0) 1048576, 0, 0⟩ ∧ Keeps (fun _ => False) w w' ∧ Fresh (fun _ => False) F w := by
  refine post_gen fun R hR => ?_
  have fin : Hid (∀ l : Int, l = min (max limit 0) 1048576 → R (.returned (.pointer (some ⟨w.heap.size, 0, none⟩))) (w.alloc (.cells #[.slice none 0 0, .slice none 0 0, .int .i64 0, .int .i64 l, .int .i64 0, .int .i64 0] 99))) := hidden (by
    intro l hl
    subst hl
    refine hR.out _ _ ⟨w.heap.size, fun k => k = w.heap.size, rfl, ⟨fun i k => i = 0 ∧ k = w.heap.size, _, _, blk_new w _, ⟨rfl, rfl⟩, fun i k h => h.2, fun i j hij k h1 h2 => hij (h1.1.trans h2.1.symm), Row.nil _ _ _ _, Row.nil _ _ _ _, fun i p c h => by simp at h, fun k hk => by rw [hk]; simp⟩, (Keeps.refl _ w).alloc _, fun k hk => .inr (by rw [hk]; exact Nat.le_refl _)⟩)
  clear hR
  rcases (show limit < 0 ∨ (0 ≤ limit ∧ limit ≤ 1048576) ∨ 1048576 < limit by omega) with h | ⟨h1, h2⟩ | h
  · have e1 : max limit 0 = 0 := by omega
    have E := hidden (fin.out 0 (by rw [e1]; decide))
    go_enter Try.func11, Try.ntmps11
    go_wp2_with fail
    exact E.out
  · have e1 : max limit 0 = limit := by omega
    have e2 : min limit 1048576 = limit := by omega
    have E := hidden (fin.out limit (by rw [e1, e2]))
    go_enter Try.func11, Try.ntmps11
    go_wp2_with fail
    exact E.out
  · have e1 : max limit 0 = limit := by omega
    have e2 : min limit 1048576 = 1048576 := by omega
    have E := hidden (fin.out 1048576 (by rw [e1, e2]))
    go_enter Try.func11, Try.ntmps11
    go_wp2_with fail
    exact E.out
section
variable {w : World} {F : Nat → Prop} {hb : Nat} {H : List (Option (Nat × Cl))} {s : HSt}
theorem heap_Get_ok (h : IsHeap w F hb H s) {i p : Nat} {c : Cl} (hi : H[i]? = some (some (p, c))) :
    Calls Try.prog 56 #[.pointer (some ⟨hb, 0, none⟩), .int .i64 i] w fun e w' => e = .returned (.tuple #[.pointer (some ⟨p, 0, none⟩), .int .i64 0]) ∧ w = w' := by
  obtain ⟨Fam, vc, vf, hX⟩ := h
  obtain ⟨A, c0, rfl⟩ := hX.cells.form
  have b0 := blk_cell hX.blk 0
  simp only [List.getElem?_toArray, List.getElem?_cons_zero] at b0
  have hbz := blk_lt hX.blk
  have hil := (List.getElem?_eq_some_iff.1 hi).1
  obtain ⟨g, rfl, -, hgz, hc, -⟩ := row1_cell hX.cells (i := i) (v := .pointer (some ⟨p, 0, none⟩)) (by rw [List.getElem?_map, hi]; rfl)
  have hcap := hX.cells.cap
  have i1 : (i : Int) < (H.length : Int) := by omega
  have i2 : decide ((H.length : Int) ≤ (i : Int)) = false := by simp; omega
  clear hX hi
  refine post_gen fun R hR => ?_
  go_enter Try.func56, Try.ntmps56
  go_wp2_with fail
  exact hR.out _ _ ⟨rfl, rfl⟩
theorem heap_Get_freed (h : IsHeap w F hb H s) {i : Nat} (hi : H[i]? = some none) :
    Calls Try.prog 56 #[.pointer (some ⟨hb, 0, none⟩), .int .i64 i] w fun e w' => e = .returned (.tuple #[.pointer none, .int .i64 41]) ∧ w = w' := by
  obtain ⟨Fam, vc, vf, hX⟩ := h
  obtain ⟨A, c0, rfl⟩ := hX.cells.form
  have b0 := blk_cell hX.blk 0
  simp only [List.getElem?_toArray, List.getElem?_cons_zero] at b0
  have hbz := blk_lt hX.blk
  have hil := (List.getElem?_eq_some_iff.1 hi).1
  obtain ⟨g, rfl, -, hgz, hc, -⟩ := row1_cell hX.cells (i := i) (v := .pointer none) (by rw [List.getElem?_map, hi]; rfl)
  have hcap := hX.cells.cap
  have i1 : (i : Int) < (H.length : Int) := by omega
  have i2 : decide ((H.length : Int) ≤ (i : Int)) = false := by simp; omega
  clear hX hi
  refine post_gen fun R hR => ?_
  go_enter Try.func56, Try.ntmps56
  go_wp2_with fail
  exact hR.out _ _ ⟨rfl, rfl⟩
theorem heap_Get_range (h : IsHeap w F hb H s) {i : Int} (hi : i < 0 ∨ (H.length : Int) ≤ i) :
    Calls Try.prog 56 #[.pointer (some ⟨hb, 0, none⟩), .int .i64 i] w fun e w' => e = .returned (.tuple #[.pointer none, .int .i64 1]) ∧ w = w' := by
  obtain ⟨Fam, vc, vf, hX⟩ := h
  obtain ⟨A, c0, rfl⟩ := hX.cells.form
  have b0 := blk_cell hX.blk 0
  simp only [List.getElem?_toArray, List.getElem?_cons_zero] at b0
  have hbz := blk_lt hX.blk
  clear hX
  refine post_gen fun R hR => ?_
  rcases hi with hi | hi
  · go_enter Try.func56, Try.ntmps56
    go_wp2_with fail
    exact hR.out _ _ ⟨rfl, rfl⟩
  · have i3 : 0 ≤ i := by omega
    have i2 : decide ((H.length : Int) ≤ i) = true := by simpa using hi
    go_enter Try.func56, Try.ntmps56
    go_wp2_with fail
    exact hR.out _ _ ⟨rfl, rfl⟩
theorem heap_Of_type (w : World) (hb : Nat) (v : V) (kind : Int) (hk : v.k ≠ 4) :
    Calls Try.prog 24 #[.pointer (some ⟨hb, 0, none⟩), v.val, .int .i64 kind] w fun e w' => e = .returned (.tuple #[.pointer none, .int .i64 30]) ∧ Keeps (fun _ => False) w w' := by
  refine post_gen fun R hR => ?_
  have j : (v.k != 4) = true := by simpa using hk
  unfold V.val
  go_enter Try.func24, Try.ntmps24
  go_wp2_with fail
  exact hR.out _ _ ⟨rfl, (Keeps.refl _ _).alloc _⟩
theorem heap_Of_ok (h : IsHeap w F hb H s) {i p : Nat} {c : Cl} (hi : H[i]? = some (some (p, c))) (kind : Int) (t : ByteArray) (hk : kind = 0 ∨ c.kind = kind) :
    Calls Try.prog 24 #[.pointer (some ⟨hb, 0, none⟩), V.val ⟨4, i, t⟩, .int .i64 kind] w fun e w' => e = .returned (.tuple #[.pointer (some ⟨p, 0, none⟩), .int .i64 0]) ∧ Keeps (fun _ => False) w w' := by
  have HG := hidden (fun (W : World) (hk : Keeps (fun _ => False) w W) => heap_Get_ok (h.calm hk) hi)
  have HH := hidden h
  obtain ⟨Fam, vc, vf, hX⟩ := h
  obtain ⟨G, vv, vn, lp, tp, hC⟩ := hX.each i p c hi
  have c0 := blk_cell hC.blk 0
  simp only [List.getElem?_toArray, List.getElem?_cons_zero] at c0
  have hpz := blk_lt hC.blk
  clear hX hC
  refine post_gen fun R hR => ?_
  unfold V.val
  rcases hk with rfl | rfl
  · go_enter Try.func24, Try.ntmps24
    go_wp2_with (go_at_call 56; refine (HG.out _ ((Keeps.refl _ w).alloc _)).mono ?_; rintro e _ ⟨rfl, rfl⟩)
    exact hR.out _ _ ⟨rfl, (Keeps.refl _ _).alloc _⟩
  · by_cases h0 : c.kind = 0
    · have H0 := hidden h0
      rw [h0] at c0
      rw [h0]
      clear h0
      go_enter Try.func24, Try.ntmps24
      go_wp2_with (go_at_call 56; refine (HG.out _ ((Keeps.refl _ w).alloc _)).mono ?_; rintro e _ ⟨rfl, rfl⟩)
      exact hR.out _ _ ⟨rfl, (Keeps.refl _ _).alloc _⟩
    · have j : (c.kind != 0) = true := by simpa using h0
      clear h0
      go_enter Try.func24, Try.ntmps24
      go_wp2_with (go_at_call 56; refine (HG.out _ ((Keeps.refl _ w).alloc _)).mono ?_; rintro e _ ⟨rfl, rfl⟩)
      exact hR.out _ _ ⟨rfl, (Keeps.refl _ _).alloc _⟩
theorem heap_Of_kind (h : IsHeap w F hb H s) {i p : Nat} {c : Cl} (hi : H[i]? = some (some (p, c))) (kind : Int) (t : ByteArray) (h0 : kind ≠ 0) (hk : c.kind ≠ kind) :
    Calls Try.prog 24 #[.pointer (some ⟨hb, 0, none⟩), V.val ⟨4, i, t⟩, .int .i64 kind] w fun e w' => e = .returned (.tuple #[.pointer none, .int .i64 30]) ∧ Keeps (fun _ => False) w w' := by
  have HG := hidden (fun (W : World) (hk : Keeps (fun _ => False) w W) => heap_Get_ok (h.calm hk) hi)
  obtain ⟨Fam, vc, vf, hX⟩ := h
  obtain ⟨G, vv, vn, lp, tp, hC⟩ := hX.each i p c hi
  have c0 := blk_cell hC.blk 0
  simp only [List.getElem?_toArray, List.getElem?_cons_zero] at c0
  have hpz := blk_lt hC.blk
  clear hX hC
  refine post_gen fun R hR => ?_
  unfold V.val
  have j : (kind != 0) = true := by simpa using h0
  have j2 : (c.kind != kind) = true := by simpa using hk
  clear h0 hk
  go_enter Try.func24, Try.ntmps24
  go_wp2_with (go_at_call 56; refine (HG.out _ ((Keeps.refl _ w).alloc _)).mono ?_; rintro e _ ⟨rfl, rfl⟩)
  exact hR.out _ _ ⟨rfl, (Keeps.refl _ _).alloc _⟩
theorem heap_Of_none (h : IsHeap w F hb H s) {n : Int} (kind : Int) (t : ByteArray) (hn : n < 0 ∨ (H.length : Int) ≤ n) :
    Calls Try.prog 24 #[.pointer (some ⟨hb, 0, none⟩), V.val ⟨4, n, t⟩, .int .i64 kind] w fun e w' => e = .returned (.tuple #[.pointer none, .int .i64 1]) ∧ Keeps (fun _ => False) w w' := by
  have HG := hidden (fun (W : World) (hk : Keeps (fun _ => False) w W) => heap_Get_range (h.calm hk) hn)
  clear h hn
  refine post_gen fun R hR => ?_
  unfold V.val
  go_enter Try.func24, Try.ntmps24
  go_wp2_with (go_at_call 56; refine (HG.out _ ((Keeps.refl _ w).alloc _)).mono ?_; rintro e _ ⟨rfl, rfl⟩)
  exact hR.out _ _ ⟨rfl, (Keeps.refl _ _).alloc _⟩
theorem heap_Of_freed (h : IsHeap w F hb H s) {i : Nat} (kind : Int) (t : ByteArray) (hi : H[i]? = some none) :
    Calls Try.prog 24 #[.pointer (some ⟨hb, 0, none⟩), V.val ⟨4, i, t⟩, .int .i64 kind] w fun e w' => e = .returned (.tuple #[.pointer none, .int .i64 41]) ∧ Keeps (fun _ => False) w w' := by
  have HG := hidden (fun (W : World) (hk : Keeps (fun _ => False) w W) => heap_Get_freed (h.calm hk) hi)
  clear h hi
  refine post_gen fun R hR => ?_
  unfold V.val
  go_enter Try.func24, Try.ntmps24
  go_wp2_with (go_at_call 56; refine (HG.out _ ((Keeps.refl _ w).alloc _)).mono ?_; rintro e _ ⟨rfl, rfl⟩)
  exact hR.out _ _ ⟨rfl, (Keeps.refl _ _).alloc _⟩
end
end Go.Proofs.Ytfdfjogoiagnkaa
namespace Go.Proofs.Ytfdfjogoiagnkaa
open Go.RowKit
set_option maxRecDepth 100000

theorem info_i64 : (Try.prog.info? 2).map (fun i => (i.zero, i.size, i.bytes)) = some (some (.int .i64 0), 1, 8) := by kernel_rfl
theorem info_ptr : (Try.prog.info? 59).map (fun i => (i.zero, i.size, i.bytes)) = some (some (.pointer none), 1, 8) := by kernel_rfl
theorem Ints.src {P : Program} {w : World} {A : Option Addr} {c : Nat} {xs : List Int} {t e' : TypeId} (h : Ints w A xs) (hu : P.underlying t = some (.slice e')) : Src P 1 t (.slice A xs.length c) xs.length (intCells xs) w := by
  cases xs with
  | nil =>
    cases A with
    | none => exact Src.ofNil w hu c
    | some a => exact Src.ofSlice w hu a 0 c [] (by simp) (fun j u hj => by simp at hj) (fun u hu => by simp at hu)
  | cons x l =>
    obtain ⟨b, o, rfl, -⟩ := h 0 x rfl
    refine Src.ofSlice w hu _ _ c _ (by simp [intCells]) (fun j u hj => ?_) (fun u hu => by simp [intCells] at hu; rcases hu with rfl | ⟨a, _, rfl⟩ <;> rfl)
    rw [add_at3]
    simp only [intCells, List.getElem?_map] at hj
    cases hx : (x :: l)[j]? with
    | none => rw [hx] at hj; cases hj
    | some y =>
      rw [hx] at hj
      obtain rfl : Value.int .i64 y = u := by simpa using hj
      obtain ⟨b2, o2, e, hc⟩ := h j y hx
      simp at e
      obtain ⟨rfl, rfl⟩ := e
      exact hc
theorem slices_CloneI (w : World) (A : Option Addr) (c : Nat) (xs : List Int) (h : Ints w A xs) (hl : xs.length ≤ 1099511627776) (hnil : A = none → xs = []) :
    Calls Try.prog 53 #[.slice A xs.length c] w fun e w' => ∃ A' c' F, e = .returned (.slice A' xs.length c') ∧ Row w' F 2 1 (.slice A' xs.length c') xs.length (intCells xs) ∧ In F w' ∧ Keeps (fun _ => False) w w' ∧ Fresh (fun _ => False) F w := by
  have H := hidden h
  clear h
  refine post_gen fun R hR => ?_
  cases A with
  | none =>
    obtain rfl := hnil rfl
    have hrun := fun W => Lib.run_eql_slice_nil (P := Try.prog) W 39 2 none 0 c 0 0 Try.underlying39
    go_enter Try.func53, Try.ntmps53
    go_wp2
    exact hR.out _ _ ⟨_, _, fun _ => False, rfl, Row.nil _ _ _ _, fun _ h => h.elim, Keeps.refl _ _, fun _ h => h.elim⟩
  | some a =>
    have hrun := fun W => Lib.run_eql_slice_nil (P := Try.prog) W 39 2 (some a) xs.length c 0 0 Try.underlying39
    go_enter Try.func53, Try.ntmps53
    go_wp2_with (at_builtin; refine app_list rfl (fun k => k = w.heap.size) _ _ _ _ _ _ 1 8 rfl Try.underlying39 info_i64 rfl (by decide) (.slice (some ⟨w.heap.size, 0, none⟩) 0 0) _ _ rfl (Row.made0 w _ 1) _ rfl _ _ ((H.out.keeps ((Keeps.refl (fun _ => False) w).alloc _) (fun _ _ _ _ h => h)).src Try.underlying39) (by omega) (by omega) ?_; intro A2 c2 w1 hR2 hK2; have HR2 := hidden hR2; have HK2 := hidden hK2; clear hR2 hK2)
    have g1 := HR2.out
    simp only [Nat.zero_add, List.nil_append] at g1
    have g2 := HK2.out.size
    simp at g2
    have hK : Keeps (fun _ => False) w w1 := ((Keeps.refl (fun _ => False) w).alloc _).trans HK2.out (fun i hi h => by simp [Value.ownBlock] at h; omega)
    refine hR.out _ _ ⟨A2, c2, fun k => w.heap.size ≤ k ∧ k < w1.heap.size, by simp, ⟨g1.1, fun k hk => ⟨?_, g1.lt k hk⟩⟩, fun k hk => hk.2, hK, fun k hk => .inr hk.1⟩
    have := g1.2 k hk
    simp at this
    omega
theorem famSet_ap2 {G : Nat → Nat → Prop} {i : Nat} {F' : Nat → Prop} (h : ∀ a b, a ≠ b → Apart (G a) (G b)) (hf : ∀ j, j ≠ i → Apart F' (G j)) : ∀ a b, a ≠ b → Apart (famSet G i F' a) (famSet G i F' b) := fun a b hab => by
  by_cases ha : a = i
  · subst ha
    rw [famSet_at, famSet_ne G F' (fun e => hab e.symm)]
    exact hf b (fun e => hab e.symm)
  · by_cases hb : b = i
    · subst hb
      rw [famSet_at, famSet_ne G F' ha]
      exact (hf a ha).symm
    · rw [famSet_ne G F' ha, famSet_ne G F' hb]
      exact h a b hab
section
variable {w w1 : World} {F S : Nat → Prop} {hb : Nat} {H : List (Option (Nat × Cl))} {s : HSt} {Fam : Nat → Nat → Prop} {vc vf : Value}
theorem HeapX.ne (h : HeapX w F hb H s Fam vc vf) : (∀ k, vc.ownBlock = some k → k ≠ hb) ∧ (∀ k, vf.ownBlock = some k → k ≠ hb) :=
  ⟨h.cells.ne h.blk (by decide), h.free.ne h.blk (by decide)⟩
theorem HeapX.put {p i : Nat} {c : Cl} {Fc : Nat → Prop} {s' : HSt} {Fam1 Fam2 : Nat → Prop} {vc' vf' : Value} {H' : List (Option (Nat × Cl))} (h : HeapX w F hb H s Fam vc vf)
    (hblk : w1.heap[hb]? = some (.cells #[vc', vf', .int .i64 s'.live, .int .i64 s'.limit, .int .i64 s'.freed, .int .i64 s'.runs] 99 (0, 0)))
    (hk : Keeps (fun k => k = hb ∨ Fam 1 k ∨ Fam 2 k) w w1) (hc : IsCell w1 p Fc c) (hFc : Apart F Fc)
    (h1 : Row w1 Fam1 59 1 vc' H'.length (H'.map ptr)) (f1 : Fresh (Fam 1) Fam1 w) (i1 : In Fam1 w1) (hF1 : Apart Fc Fam1)
    (h2 : Row w1 Fam2 3 1 vf' s'.fr.length (intCells s'.fr)) (f2 : ∀ k, Fam2 k → Fam 2 k)
    (hH : ∀ j, j ≠ i → ∀ q d, H'[j]? = some (some (q, d)) → H[j]? = some (some (q, d))) (hi : ∀ q d, H'[i]? = some (some (q, d)) → q = p ∧ d = c) :
    HeapX w1 (fun k => (F k ∨ Fc k) ∨ Fam1 k) hb H' s' (famSet (famSet (famSet Fam 1 Fam1) 2 Fam2) (i + 3) Fc) vc' vf' := by
  have hin : ∀ j, In (Fam j) w := fun j k hk => h.inw k (h.sub j k hk)
  have ap1 := famSet_ap h.ap f1 hin
  have ap2 : ∀ a b, a ≠ b → Apart (famSet (famSet Fam 1 Fam1) 2 Fam2 a) (famSet (famSet Fam 1 Fam1) 2 Fam2 b) := famSet_ap2 ap1 (fun j hj k h1 h2 => by
    by_cases e : j = 1
    · subst e
      rw [famSet_at] at h2
      rcases f1 k h2 with x | x
      · exact h.ap 1 2 (by decide) k x (f2 k h1)
      · have := hin 2 k (f2 k h1); omega
    · rw [famSet_ne Fam Fam1 e] at h2
      exact h.ap 2 j (fun e => hj e.symm) k (f2 k h1) h2)
  have ap3 := famSet_ap2 (i := i + 3) (F' := Fc) ap2 (fun j hj k hk1 hk2 => by
    by_cases e2 : j = 2
    · subst e2
      rw [famSet_at] at hk2
      exact hFc k (h.sub 2 k (f2 k hk2)) hk1
    · rw [famSet_ne _ _ e2] at hk2
      by_cases e1 : j = 1
      · subst e1
        rw [famSet_at] at hk2
        exact hF1 k hk1 hk2
      · rw [famSet_ne _ _ e1] at hk2
        exact hFc k (h.sub j k hk2) hk1)
  refine ⟨hblk, ?_, fun j k hjk => ?_, ap3, ?_, ?_, fun j q d hj => ?_, fun k hk2 => ?_⟩
  · rw [famSet_ne _ _ (by omega), famSet_ne _ _ (by omega), famSet_ne _ _ (by omega)]; exact h.here
  · by_cases e3 : j = i + 3
    · subst e3; rw [famSet_at] at hjk; exact .inl (.inr hjk)
    · rw [famSet_ne _ _ e3] at hjk
      by_cases e2 : j = 2
      · subst e2; rw [famSet_at] at hjk; exact .inl (.inl (h.sub 2 k (f2 k hjk)))
      · rw [famSet_ne _ _ e2] at hjk
        by_cases e1 : j = 1
        · subst e1; rw [famSet_at] at hjk; exact .inr hjk
        · rw [famSet_ne _ _ e1] at hjk; exact .inl (.inl (h.sub j k hjk))
  · rw [famSet_ne _ _ (by omega), famSet_ne _ _ (by omega), famSet_at]; exact h1
  · rw [famSet_ne _ _ (by omega), famSet_at]; exact h2
  · by_cases e : j = i
    · subst e
      obtain ⟨rfl, rfl⟩ := hi q d hj
      rw [famSet_at]; exact hc
    · rw [famSet_ne _ _ (by omega), famSet_ne _ _ (by omega), famSet_ne _ _ (by omega)]
      refine (h.each j q d (hH j e q d hj)).keeps hk (fun k a b => ?_)
      rcases b with rfl | b | b
      · exact h.ap 0 (j + 3) (by omega) k h.here a
      · exact h.ap 1 (j + 3) (by omega) k b a
      · exact h.ap 2 (j + 3) (by omega) k b a
  · rcases hk2 with (hk2 | hk2) | hk2
    · exact Nat.lt_of_lt_of_le (h.inw k hk2) hk.size
    · exact hc.inw k hk2
    · exact i1 k hk2
end
def famOf (F0 F1 F2 F3 : Nat → Prop) : Nat → Nat → Prop
  | 0 => F0
  | 1 => F1
  | 2 => F2
  | 3 => F3
  | _ => fun _ => False
theorem cell_made {w w1 : World} {p : Nat} {c : Cl} {Fl Ft F5 F6 : Nat → Prop} {v5 v6 : Value} {lp tp : Option Addr}
    (hblk : w1.heap[p]? = some (.cells #[.int .i64 c.kind, v5, .pointer lp, .pointer tp, v6, .string c.text] 41 (0, 0)))
    (h5 : Row w1 F5 26 3 v5 c.vals.length (flat c.vals)) (h6 : Row w1 F6 2 1 v6 c.nums.length (intCells c.nums)) (hl : ListOf w1 Fl lp c.list) (ht : TabOf w1 Ft tp c.tab)
    (i5 : In F5 w1) (i6 : In F6 w1) (il : In Fl w) (it : In Ft w) (n5 : ∀ k, F5 k → w.heap.size ≤ k ∧ k ≠ p) (n6 : ∀ k, F6 k → w.heap.size ≤ k ∧ k ≠ p) (a56 : Apart F5 F6) (alt : Apart Fl Ft) (hp : w.heap.size ≤ p) (hsz : w.heap.size ≤ w1.heap.size) (hs : c.small) :
    IsCell w1 p (fun k => k = p ∨ F5 k ∨ Fl k ∨ Ft k ∨ F6 k) c := by
  have key : ∀ i k, famOf F5 Fl Ft F6 i k → (i = 0 ∧ F5 k) ∨ (i = 1 ∧ Fl k) ∨ (i = 2 ∧ Ft k) ∨ (i = 3 ∧ F6 k) := fun i k h => by
    match i, h with
    | 0, h => exact .inl ⟨rfl, h⟩
    | 1, h => exact .inr (.inl ⟨rfl, h⟩)
    | 2, h => exact .inr (.inr (.inl ⟨rfl, h⟩))
    | 3, h => exact .inr (.inr (.inr ⟨rfl, h⟩))
    | n + 4, h => exact h.elim
  refine ⟨famOf F5 Fl Ft F6, v5, v6, lp, tp, hblk, .inl rfl, fun i k h => ?_, fun i h => ?_, fun i j hij k h1 h2 => ?_, h5, hl, ht, h6, fun k h => ?_, hs⟩
  · rcases key i k h with ⟨_, h⟩ | ⟨_, h⟩ | ⟨_, h⟩ | ⟨_, h⟩
    · exact .inr (.inl h)
    · exact .inr (.inr (.inl h))
    · exact .inr (.inr (.inr (.inl h)))
    · exact .inr (.inr (.inr (.inr h)))
  · rcases key i p h with ⟨_, h⟩ | ⟨_, h⟩ | ⟨_, h⟩ | ⟨_, h⟩
    · exact (n5 _ h).2 rfl
    · have := il _ h; omega
    · have := it _ h; omega
    · exact (n6 _ h).2 rfl
  · rcases key i k h1 with ⟨e1, h1⟩ | ⟨e1, h1⟩ | ⟨e1, h1⟩ | ⟨e1, h1⟩ <;> rcases key j k h2 with ⟨e2, h2⟩ | ⟨e2, h2⟩ | ⟨e2, h2⟩ | ⟨e2, h2⟩ <;> first | exact hij (e1.trans e2.symm) | exact a56 k h1 h2 | exact a56 k h2 h1 | exact alt k h1 h2 | exact alt k h2 h1 | (have := (n5 k h1).1; have := il k h2; omega) | (have := (n5 k h1).1; have := it k h2; omega) | (have := (n5 k h2).1; have := il k h1; omega) | (have := (n5 k h2).1; have := it k h1; omega) | (have := (n6 k h1).1; have := il k h2; omega) | (have := (n6 k h1).1; have := it k h2; omega) | (have := (n6 k h2).1; have := il k h1; omega) | (have := (n6 k h2).1; have := it k h1; omega)
  · rcases h with rfl | h | h | h | h
    · exact blk_lt hblk
    · exact i5 k h
    · exact Nat.lt_of_lt_of_le (il k h) hsz
    · exact Nat.lt_of_lt_of_le (it k h) hsz
    · exact i6 k h
end Go.Proofs.Ytfdfjogoiagnkaa
namespace Go.Proofs.Ytfdfjogoiagnkaa
open Go.RowKit
set_option maxRecDepth 100000

structure Given (w : World) (F Fl Ft : Nat → Prop) (c : Cl) (Av An lp tp : Option Addr) : Prop where
  vals : Vals w Av c.vals
  nv : Av = none → c.vals = []
  nums : Ints w An c.nums
  nn : An = none → c.nums = []
  list : ListOf w Fl lp c.list
  tab : TabOf w Ft tp c.tab
  fl : Apart F Fl
  ft : Apart F Ft
  lt : Apart Fl Ft
  il : In Fl w
  it : In Ft w
  small : c.small
theorem ptr_lit (w : World) (p : Nat) {m : Nat} (hm : m = w.heap.size) : Src Try.prog 1 97 (.slice (some ⟨m, 0, none⟩) 1 1) 1 [.pointer (some ⟨p, 0, none⟩)] (w.alloc (.cells #[.pointer (some ⟨p, 0, none⟩)] 59)) :=
  hm ▸ Src.ofSlice _ Try.underlying97 _ _ 1 _ rfl (fun j u hj => by
    rw [add_at3, blk_cell (blk_new w _)]
    cases j with
    | zero => simpa using hj
    | succ j => simp at hj) (fun u hu => by simp at hu; subst hu; rfl)
set_option maxHeartbeats 8000000 in
theorem heap_Alloc_end (w : World) (F : Nat → Prop) (hb : Nat) (H : List (Option (Nat × Cl))) (s : HSt) (c : Cl) (Av An lp tp : Option Addr) (cv cn : Nat) (Fl Ft : Nat → Prop) (h : IsHeap w F hb H s) (hg : Given w F Fl Ft c Av An lp tp) (hk : 1 ≤ c.kind ∧ c.kind < 11) (hf : s.live < s.limit) (hlim : 0 ≤ s.live ∧ s.limit ≤ 1048576) (hlen : H.length ≤ 1048576) (hfr : s.fr = []) :
    Calls Try.prog 15 #[.pointer (some ⟨hb, 0, none⟩), .agg #[.int .i64 c.kind, .slice Av c.vals.length cv, .pointer lp, .pointer tp, .slice An c.nums.length cn, .string c.text]] w fun e w' => ∃ p F', e = .returned (.tuple #[.int .i64 (H.length : Int), .int .i64 0]) ∧ IsHeap w' F' hb (H ++ [some (p, c)]) ⟨[], s.live + 1, s.limit, s.freed, s.runs⟩ ∧ Keeps F w w' ∧ Fresh (fun k => F k ∨ Fl k ∨ Ft k) F' w := by
  obtain ⟨Fam, vc, vf, hX⟩ := h
  obtain ⟨Ac, cc, rfl⟩ := hX.cells.form
  obtain ⟨Af, cf, rfl⟩ := hX.free.form
  have HX := hidden hX
  have HG := hidden hg
  have b2 := blk_cell hX.blk 2
  have b3 := blk_cell hX.blk 3
  simp only [List.getElem?_toArray, List.getElem?_cons_zero, List.getElem?_cons_succ] at b2 b3
  have hbz := blk_lt hX.blk
  have hFb : ∀ k, F k → k < w.heap.size := hX.inw
  have hbF : F hb := hX.sub 0 hb hX.here
  have j : decide (c.kind < 1) = false := by simp; omega
  have j2 : decide ((11 : Int) ≤ c.kind) = false := by simp; omega
  have j3 : decide (s.limit ≤ s.live) = false := by simp; omega
  have HFB := hidden hFb
  have HBF := hidden hbF
  have hsv := hg.small.vals
  have hsn := hg.small.nums
  clear hX hg hFb hbF
  refine post_gen fun R hR => ?_
  go_enter Try.func15, Try.ntmps15
  go_wp2_with fail
  go_quiet (fail)
  go_upto_region 6 with fail
  have K1 := hidden (show Keeps (fun _ => False) w (((w.alloc (.cells #[.int .i64 c.kind, .slice Av c.vals.length cv, .pointer lp, .pointer tp, .slice An c.nums.length cn, .string c.text] 41)).drewN nq).alloc (.cells #[.int .i64 c.kind, .slice Av c.vals.length cv, .pointer lp, .pointer tp, .slice An c.nums.length cn, .string c.text] 41)) from (((Keeps.refl _ w).alloc _).drewN _).alloc _)
  have CB := hidden (show (((w.alloc (.cells #[.int .i64 c.kind, .slice Av c.vals.length cv, .pointer lp, .pointer tp, .slice An c.nums.length cn, .string c.text] 41)).drewN nq).alloc (.cells #[.int .i64 c.kind, .slice Av c.vals.length cv, .pointer lp, .pointer tp, .slice An c.nums.length cn, .string c.text] 41)).heap[w.heap.size]? = some (.cells #[.int .i64 c.kind, .slice Av c.vals.length cv, .pointer lp, .pointer tp, .slice An c.nums.length cn, .string c.text] 41 (0, 0)) from blk_alloc (w := (w.alloc (.cells #[.int .i64 c.kind, .slice Av c.vals.length cv, .pointer lp, .pointer tp, .slice An c.nums.length cn, .string c.text] 41)).drewN nq) (blk_new w _) _)
  have OB := hidden (show (((w.alloc (.cells #[.int .i64 c.kind, .slice Av c.vals.length cv, .pointer lp, .pointer tp, .slice An c.nums.length cn, .string c.text] 41)).drewN nq).alloc (.cells #[.int .i64 c.kind, .slice Av c.vals.length cv, .pointer lp, .pointer tp, .slice An c.nums.length cn, .string c.text] 41)).heap[w.heap.size + 1]? = some (.cells #[.int .i64 c.kind, .slice Av c.vals.length cv, .pointer lp, .pointer tp, .slice An c.nums.length cn, .string c.text] 41 (0, 0)) from by
    have := blk_new ((w.alloc (.cells #[.int .i64 c.kind, .slice Av c.vals.length cv, .pointer lp, .pointer tp, .slice An c.nums.length cn, .string c.text] 41)).drewN nq) (.cells #[.int .i64 c.kind, .slice Av c.vals.length cv, .pointer lp, .pointer tp, .slice An c.nums.length cn, .string c.text] 41)
    rwa [show ((w.alloc (.cells #[.int .i64 c.kind, .slice Av c.vals.length cv, .pointer lp, .pointer tp, .slice An c.nums.length cn, .string c.text] 41)).drewN nq).heap.size = w.heap.size + 1 by simp] at this)
  have hWs : (((w.alloc (.cells #[.int .i64 c.kind, .slice Av c.vals.length cv, .pointer lp, .pointer tp, .slice An c.nums.length cn, .string c.text] 41)).drewN nq).alloc (.cells #[.int .i64 c.kind, .slice Av c.vals.length cv, .pointer lp, .pointer tp, .slice An c.nums.length cn, .string c.text] 41)).heap.size = w.heap.size + 2 := by simp
  have hsz1 : ((w.alloc (.cells #[.int .i64 c.kind, .slice Av c.vals.length cv, .pointer lp, .pointer tp, .slice An c.nums.length cn, .string c.text] 41)).drewN nq).heap.size = w.heap.size + 1 := by simp
  try rw [hsz1]
  clear b2 b3 hbz
  generalize ((w.alloc (.cells #[.int .i64 c.kind, .slice Av c.vals.length cv, .pointer lp, .pointer tp, .slice An c.nums.length cn, .string c.text] 41)).drewN nq).alloc (.cells #[.int .i64 c.kind, .slice Av c.vals.length cv, .pointer lp, .pointer tp, .slice An c.nums.length cn, .string c.text] 41) = W at *
  clear hsz1
  have c1 := blk_cell CB.out 1
  have c4 := blk_cell CB.out 4
  simp only [List.getElem?_toArray, List.getElem?_cons_zero, List.getElem?_cons_succ] at c1 c4
  have hcz := blk_lt CB.out
  have hoz := blk_lt OB.out
  have of1 := blk_frozen OB.out 1
  have of4 := blk_frozen OB.out 4
  obtain ⟨o1v, ho1⟩ : ∃ v, W.cell? ⟨w.heap.size + 1, 1, none⟩ = some v := ⟨_, blk_cell OB.out 1⟩
  obtain ⟨o4v, ho4⟩ : ∃ v, W.cell? ⟨w.heap.size + 1, 4, none⟩ = some v := ⟨_, blk_cell OB.out 4⟩
  have CLV := hidden (fun (W' : World) (hk : Keeps (fun _ => False) W W') => slices_Clone W' Av cv c.vals (HG.out.vals.keeps (K1.out.trans hk (fun _ _ h => h)) (fun _ _ _ _ h => h)) (by omega) HG.out.nv)
  have CLN := hidden (fun (W' : World) (hk : Keeps (fun _ => False) W W') => slices_CloneI W' An cn c.nums (HG.out.nums.keeps (K1.out.trans hk (fun _ _ h => h)) (fun _ _ _ _ h => h)) (by omega) HG.out.nn)
  have SK := hidden (fun (W' : World) (hk : Keeps (fun _ => False) W W') => show W'.cell? ⟨w.heap.size, 1, none⟩ = some (.slice Av c.vals.length cv) ∧ W'.cell? ⟨w.heap.size, 4, none⟩ = some (.slice An c.nums.length cn) from ⟨hk.cell c1 (fun h => h), hk.cell c4 (fun h => h)⟩)
  go_region_held3 (fun W' => W'.cell? ⟨w.heap.size, 1, none⟩ = some (.slice Av c.vals.length cv) ∧ W'.cell? ⟨w.heap.size, 4, none⟩ = some (.slice An c.nums.length cn)) (first | exact SK.out _ (Keeps.refl _ _) | exact SK.out _ ((Keeps.refl _ W).drewN _) | exact SK.out _ K6.out | exact SK.out _ K5.out | exact ⟨setcell_keep (SK.out _ K6.out).1 (by simp), setcell_keep (SK.out _ K6.out).2 (by simp)⟩ | exact ⟨setcell_keep (setcell_keep (SK.out _ K6.out).1 (by simp)) (by simp), setcell_keep (setcell_keep (SK.out _ K6.out).2 (by simp)) (by simp)⟩) (first | (go_at_call 52; refine (CLV.out _ ((Keeps.refl _ W).drewN _)).mono ?_; rintro e w5 ⟨A5, c5, F5, rfl, h1, h2, h3, h4⟩; have R5 := hidden h1; have I5 := hidden h2; have K5 := hidden (((Keeps.refl (fun _ => False) W).drewN _).trans h3 (fun _ _ h => h)); have F5f := hidden h4; clear h1 h2 h3 h4) | (go_at_call 53; refine (CLN.out _ K5.out).mono ?_; rintro e w6 ⟨A6, c6, F6, rfl, h1, h2, h3, h4⟩; have R6 := hidden h1; have I6 := hidden h2; have K56 := hidden h3; have K6 := hidden (K5.out.trans h3 (fun _ _ h => h)); have F6f := hidden h4; have o1 := K6.out.heap OB.out (fun h => h); have o1c := blk_cell o1 1; have o4c := blk_cell o1 4; have o1f := blk_frozen o1 1; have o4f := blk_frozen o1 4; simp only [List.getElem?_toArray, List.getElem?_cons_zero, List.getElem?_cons_succ] at o1c o4c; have hoz6 := blk_lt o1; clear h1 h2 h3 h4 o1))
  have HOZ := hidden (show w.heap.size + 1 < w6.heap.size from hoz6)
  have PB := hidden (show ((w6.setCell ⟨w.heap.size + 1, 1, none⟩ (.slice A5 c.vals.length c5)).setCell ⟨w.heap.size + 1, 4, none⟩ (.slice A6 c.nums.length c6)).heap[w.heap.size + 1]? = some (.cells #[.int .i64 c.kind, .slice A5 c.vals.length c5, .pointer lp, .pointer tp, .slice A6 c.nums.length c6, .string c.text] 41 (0, 0)) from blk_set (blk_set (K6.out.heap OB.out (fun h => h)) 1 _) 4 _)
  have K7 := hidden (show Keeps (fun k => k = w.heap.size + 1) w6 ((w6.setCell ⟨w.heap.size + 1, 1, none⟩ (.slice A5 c.vals.length c5)).setCell ⟨w.heap.size + 1, 4, none⟩ (.slice A6 c.nums.length c6)) from (((SameBut.refl (w.heap.size + 1) w6).set 1 _).set 4 _).keeps)
  clear c1 c4 hcz hoz of1 of4 ho1 ho4 CLV CLN SK OB CB o1c o4c o1f o4f hoz6
  generalize (w6.setCell ⟨w.heap.size + 1, 1, none⟩ (.slice A5 c.vals.length c5)).setCell ⟨w.heap.size + 1, 4, none⟩ (.slice A6 c.nums.length c6) = w7 at *
  have K17 := hidden (show Keeps (fun _ => False) w w7 from (((K1.out.trans K6.out (fun _ _ h => h)).mono (T := fun k => k = w.heap.size + 1) (fun _ _ h => h.elim)).trans K7.out (fun _ _ h => h)).mono (fun i hi h => by omega))
  have hf5 : ∀ k, F5 k → w.heap.size + 2 ≤ k := fun k h => (F5f.out k h).elim (fun h => h.elim) (fun h => by simp at h; omega)
  have hf6 : ∀ k, F6 k → w.heap.size + 2 ≤ k := fun k h => (F6f.out k h).elim (fun h => h.elim) (fun h => by have := K5.out.size; omega)
  have R57 := hidden ((R5.out.keeps K56.out (Apart.no _)).keeps K7.out (fun k h e => by have := hf5 k h; omega))
  have R67 := hidden (R6.out.keeps K7.out (fun k h e => by have := hf6 k h; omega))
  have hz7 := K7.out.size
  have hz6 := K56.out.size
  have hz1 := K17.out.size
  have ap56 : Apart F5 F6 := fun k h1 h2 => (F6f.out k h2).elim (fun h => h.elim) (fun h => by have := I5.out k h1; omega)
  obtain ⟨Fc, hFcd⟩ : ∃ Fc : Nat → Prop, Fc = fun k => k = w.heap.size + 1 ∨ F5 k ∨ Fl k ∨ Ft k ∨ F6 k := ⟨_, rfl⟩
  have HC := hidden (show IsCell w7 (w.heap.size + 1) Fc c from hFcd ▸ cell_made (w := w) (c := c) (lp := lp) (tp := tp) PB.out R57.out R67.out (HG.out.list.keeps K17.out (Apart.no _)) (HG.out.tab.keeps K17.out (Apart.no _)) (fun k h => by have := I5.out k h; omega) (fun k h => by have := I6.out k h; omega) HG.out.il HG.out.it (fun k h => ⟨by have := hf5 k h; omega, by have := hf5 k h; omega⟩) (fun k h => ⟨by have := hf6 k h; omega, by have := hf6 k h; omega⟩) ap56 HG.out.lt (by omega) (by omega) HG.out.small)
  have HFC := hidden (show Apart F Fc from fun k h1 h2 => by
    rw [hFcd] at h2
    have h0 := HFB.out k h1
    rcases h2 with h2 | h2 | h2 | h2 | h2
    · omega
    · have := hf5 k h2; omega
    · exact HG.out.fl k h1 h2
    · exact HG.out.ft k h1 h2
    · have := hf6 k h2; omega)
  have HFCf := hidden (show ∀ k, Fc k → (F k ∨ Fl k ∨ Ft k) ∨ w.heap.size ≤ k from fun k h => by
    rw [hFcd] at h
    rcases h with h | h | h | h | h
    · exact .inr (by omega)
    · have := hf5 k h; exact .inr (by omega)
    · exact .inl (.inr (.inl h))
    · exact .inl (.inr (.inr h))
    · have := hf6 k h; exact .inr (by omega))
  have HX7 := hidden (HX.out.keeps K17.out (Apart.no _))
  have HPB := hidden (blk_lt PB.out)
  generalize hob : w.heap.size + 1 = ob at *
  clear hFcd HX HG R5 R6 R57 R67 I5 I6 K5 K6 K56 K7 K1 F5f F6f hf5 hf6 ap56 PB hWs HOZ hz7 hz6
  have b0 := blk_cell HX7.out.blk 0
  have b1 := blk_cell HX7.out.blk 1
  have b2 := blk_cell HX7.out.blk 2
  have b0f := blk_frozen HX7.out.blk 0
  have b1f := blk_frozen HX7.out.blk 1
  have b2f := blk_frozen HX7.out.blk 2
  simp only [List.getElem?_toArray, List.getElem?_cons_zero, List.getElem?_cons_succ] at b0 b1 b2
  have hbz := blk_lt HX7.out.blk
  have hw1 : IntKind.i64.wrap (s.live + 1) = s.live + 1 := by rw [IntKind.wrap_i64]; omega
  have HFR := hidden hfr
  rw [hfr] at b1
  have hcap := HX7.out.cells.cap
  clear hfr
  go_wp2_with (at_builtin; refine app_list rfl (Fam 1) _ _ _ _ _ _ 1 8 rfl Try.underlying97 info_ptr rfl (by decide) _ _ _ rfl ((HX7.out.cells.set (p := ⟨hb, 2, none⟩) HX7.out.ne.1 _).alloc _) _ rfl 1 _ (ptr_lit _ ob (by first | rfl | simp [World.setCell])) (by omega) (by omega) ?_; intro A9 c9 w9 hR9 hK9; have HR9 := hidden hR9; have HK9 := hidden hK9; have KX := hidden (show Keeps (fun k => Fam 1 k ∨ k = hb) w7 w9 from ((((Keeps.refl (fun k => Fam 1 k ∨ k = hb) w7).setCell (p := ⟨hb, 2, none⟩) (fun _ => .inr rfl) (.int .i64 (s.live + 1))).alloc _).trans hK9 (fun k _ e => .inl (HX7.out.cells.2 k e)))); have B9 := hidden (hK9.heap (blk_alloc (blk_set HX7.out.blk 2 (.int .i64 (s.live + 1))) _) (fun e => HX7.out.ne.1 hb e rfl)); have b0 := blk_cell B9.out 0; have b0f := blk_frozen B9.out 0; have hbz := blk_lt B9.out; clear hR9 hK9)
  have hbl : Apart Fc (fun k => k = hb ∨ Fam 1 k ∨ Fam 2 k) := fun k h1 h2 => by
    rcases h2 with rfl | h2 | h2
    · exact HFC.out _ HBF.out h1
    · exact HFC.out k (HX7.out.sub 1 k h2) h1
    · exact HFC.out k (HX7.out.sub 2 k h2) h1
  have hkE : Keeps (fun k => k = hb ∨ Fam 1 k ∨ Fam 2 k) w7 (w9.setCell ⟨hb, 0, none⟩ (.slice A9 (H.length + 1) c9)) := (KX.out.mono (fun k _ h => h.elim (fun h => .inr (.inl h)) .inl)).setCell (p := ⟨hb, 0, none⟩) (fun _ => .inl rfl) _
  have hr9 := HR9.out.set (p := ⟨hb, 0, none⟩) (HR9.out.ne B9.out (by decide)) (.slice A9 (H.length + 1) c9)
  have hs9 := KX.out.size
  have hput := HX7.out.put (p := ob) (i := H.length) (c := c) (Fc := Fc) (s' := ⟨[], s.live + 1, s.limit, s.freed, s.runs⟩) (Fam1 := fun k => (Fam 1 k ∨ w7.heap.size ≤ k) ∧ k < w9.heap.size) (Fam2 := Fam 2) (H' := H ++ [some (ob, c)]) (blk_set B9.out 0 (.slice A9 (H.length + 1) c9)) hkE (HC.out.keeps hkE hbl) HFC.out
    (by
      rw [List.length_append, List.map_append]
      exact hr9.mono (fun k hlt h => ⟨h.imp id (fun h => by simp [World.setCell] at h; omega), by simpa [World.setCell] using hlt⟩)) (fun k h => h.1) (fun k h => by simpa [World.setCell] using h.2)
    (fun k h1 h2 => by
      rcases h2.1 with h | h
      · exact HFC.out k (HX7.out.sub 1 k h) h1
      · have := HC.out.inw k h1; omega)
    (by
      have hf := (HX7.out.free.keeps KX.out (fun k h1 h2 => by
        rcases h2 with h2 | rfl
        · exact HX7.out.ap 1 2 (by decide) k h2 h1
        · exact HX7.out.ap 0 2 (by decide) _ HX7.out.here h1)).set (p := ⟨hb, 0, none⟩) (fun k hk => HX7.out.ne.2 k hk) (.slice A9 (H.length + 1) c9)
      rw [HFR.out] at hf ⊢
      exact hf) (fun k h => h)
    (fun j hj q d h => by
      rcases Nat.lt_or_ge j H.length with hl | hl
      · rwa [List.getElem?_append_left hl] at h
      · rw [List.getElem?_append_right hl] at h
        have : j - H.length ≠ 0 := by omega
        cases hjj : j - H.length with
        | zero => exact absurd hjj this
        | succ m => rw [hjj] at h; simp at h)
    (fun q d h => by
      rw [List.getElem?_append_right (Nat.le_refl _), Nat.sub_self] at h
      simp at h
      exact ⟨h.1.symm, h.2.symm⟩)
  refine hR.out _ _ ⟨ob, _, rfl, ⟨_, _, _, hput⟩, (K17.out.mono (T := F) (fun _ _ h => h.elim)).trans (hkE.mono (T := F) (fun k _ h => ?_)) (fun _ _ h => h), fun k h => ?_⟩
  · rcases h with rfl | h | h
    · exact HBF.out
    · exact HX7.out.sub 1 k h
    · exact HX7.out.sub 2 k h
  · rcases h with (h | h) | h
    · exact .inl (.inl h)
    · exact HFCf.out k h
    · rcases h.1 with h | h
      · exact .inl (.inl (HX7.out.sub 1 k h))
      · exact .inr (by omega)
set_option maxHeartbeats 8000000 in
theorem heap_Alloc_free (w : World) (F : Nat → Prop) (hb : Nat) (H : List (Option (Nat × Cl))) (s : HSt) (c : Cl) (Av An lp tp : Option Addr) (cv cn : Nat) (Fl Ft : Nat → Prop) (h : IsHeap w F hb H s) (hg : Given w F Fl Ft c Av An lp tp) (hk : 1 ≤ c.kind ∧ c.kind < 11) (hf : s.live < s.limit) (hlim : 0 ≤ s.live ∧ s.limit ≤ 1048576) (hlen : H.length ≤ 1048576) (fs : List Int) (i : Nat) (hfr : s.fr = fs ++ [(i : Int)]) (hi : i < H.length) (hfs : fs.length ≤ 1048576) :
    Calls Try.prog 15 #[.pointer (some ⟨hb, 0, none⟩), .agg #[.int .i64 c.kind, .slice Av c.vals.length cv, .pointer lp, .pointer tp, .slice An c.nums.length cn, .string c.text]] w fun e w' => ∃ p F', e = .returned (.tuple #[.int .i64 (i : Int), .int .i64 0]) ∧ IsHeap w' F' hb (H.set i (some (p, c))) ⟨fs, s.live + 1, s.limit, s.freed, s.runs⟩ ∧ Keeps F w w' ∧ Fresh (fun k => F k ∨ Fl k ∨ Ft k) F' w := by
  obtain ⟨Fam, vc, vf, hX⟩ := h
  obtain ⟨Ac, cc, rfl⟩ := hX.cells.form
  obtain ⟨Af, cf, rfl⟩ := hX.free.form
  have HX := hidden hX
  have HG := hidden hg
  have b2 := blk_cell hX.blk 2
  have b3 := blk_cell hX.blk 3
  simp only [List.getElem?_toArray, List.getElem?_cons_zero, List.getElem?_cons_succ] at b2 b3
  have hbz := blk_lt hX.blk
  have hFb : ∀ k, F k → k < w.heap.size := hX.inw
  have hbF : F hb := hX.sub 0 hb hX.here
  have j : decide (c.kind < 1) = false := by simp; omega
  have j2 : decide ((11 : Int) ≤ c.kind) = false := by simp; omega
  have j3 : decide (s.limit ≤ s.live) = false := by simp; omega
  have HFB := hidden hFb
  have HBF := hidden hbF
  have hsv := hg.small.vals
  have hsn := hg.small.nums
  clear hX hg hFb hbF
  refine post_gen fun R hR => ?_
  go_enter Try.func15, Try.ntmps15
  go_wp2_with fail
  go_quiet (fail)
  go_upto_region 6 with fail
  have K1 := hidden (show Keeps (fun _ => False) w (((w.alloc (.cells #[.int .i64 c.kind, .slice Av c.vals.length cv, .pointer lp, .pointer tp, .slice An c.nums.length cn, .string c.text] 41)).drewN nq).alloc (.cells #[.int .i64 c.kind, .slice Av c.vals.length cv, .pointer lp, .pointer tp, .slice An c.nums.length cn, .string c.text] 41)) from (((Keeps.refl _ w).alloc _).drewN _).alloc _)
  have CB := hidden (show (((w.alloc (.cells #[.int .i64 c.kind, .slice Av c.vals.length cv, .pointer lp, .pointer tp, .slice An c.nums.length cn, .string c.text] 41)).drewN nq).alloc (.cells #[.int .i64 c.kind, .slice Av c.vals.length cv, .pointer lp, .pointer tp, .slice An c.nums.length cn, .string c.text] 41)).heap[w.heap.size]? = some (.cells #[.int .i64 c.kind, .slice Av c.vals.length cv, .pointer lp, .pointer tp, .slice An c.nums.length cn, .string c.text] 41 (0, 0)) from blk_alloc (w := (w.alloc (.cells #[.int .i64 c.kind, .slice Av c.vals.length cv, .pointer lp, .pointer tp, .slice An c.nums.length cn, .string c.text] 41)).drewN nq) (blk_new w _) _)
  have OB := hidden (show (((w.alloc (.cells #[.int .i64 c.kind, .slice Av c.vals.length cv, .pointer lp, .pointer tp, .slice An c.nums.length cn, .string c.text] 41)).drewN nq).alloc (.cells #[.int .i64 c.kind, .slice Av c.vals.length cv, .pointer lp, .pointer tp, .slice An c.nums.length cn, .string c.text] 41)).heap[w.heap.size + 1]? = some (.cells #[.int .i64 c.kind, .slice Av c.vals.length cv, .pointer lp, .pointer tp, .slice An c.nums.length cn, .string c.text] 41 (0, 0)) from by
    have := blk_new ((w.alloc (.cells #[.int .i64 c.kind, .slice Av c.vals.length cv, .pointer lp, .pointer tp, .slice An c.nums.length cn, .string c.text] 41)).drewN nq) (.cells #[.int .i64 c.kind, .slice Av c.vals.length cv, .pointer lp, .pointer tp, .slice An c.nums.length cn, .string c.text] 41)
    rwa [show ((w.alloc (.cells #[.int .i64 c.kind, .slice Av c.vals.length cv, .pointer lp, .pointer tp, .slice An c.nums.length cn, .string c.text] 41)).drewN nq).heap.size = w.heap.size + 1 by simp] at this)
  have hWs : (((w.alloc (.cells #[.int .i64 c.kind, .slice Av c.vals.length cv, .pointer lp, .pointer tp, .slice An c.nums.length cn, .string c.text] 41)).drewN nq).alloc (.cells #[.int .i64 c.kind, .slice Av c.vals.length cv, .pointer lp, .pointer tp, .slice An c.nums.length cn, .string c.text] 41)).heap.size = w.heap.size + 2 := by simp
  have hsz1 : ((w.alloc (.cells #[.int .i64 c.kind, .slice Av c.vals.length cv, .pointer lp, .pointer tp, .slice An c.nums.length cn, .string c.text] 41)).drewN nq).heap.size = w.heap.size + 1 := by simp
  try rw [hsz1]
  clear b2 b3 hbz
  generalize ((w.alloc (.cells #[.int .i64 c.kind, .slice Av c.vals.length cv, .pointer lp, .pointer tp, .slice An c.nums.length cn, .string c.text] 41)).drewN nq).alloc (.cells #[.int .i64 c.kind, .slice Av c.vals.length cv, .pointer lp, .pointer tp, .slice An c.nums.length cn, .string c.text] 41) = W at *
  clear hsz1
  have c1 := blk_cell CB.out 1
  have c4 := blk_cell CB.out 4
  simp only [List.getElem?_toArray, List.getElem?_cons_zero, List.getElem?_cons_succ] at c1 c4
  have hcz := blk_lt CB.out
  have hoz := blk_lt OB.out
  have of1 := blk_frozen OB.out 1
  have of4 := blk_frozen OB.out 4
  obtain ⟨o1v, ho1⟩ : ∃ v, W.cell? ⟨w.heap.size + 1, 1, none⟩ = some v := ⟨_, blk_cell OB.out 1⟩
  obtain ⟨o4v, ho4⟩ : ∃ v, W.cell? ⟨w.heap.size + 1, 4, none⟩ = some v := ⟨_, blk_cell OB.out 4⟩
  have CLV := hidden (fun (W' : World) (hk : Keeps (fun _ => False) W W') => slices_Clone W' Av cv c.vals (HG.out.vals.keeps (K1.out.trans hk (fun _ _ h => h)) (fun _ _ _ _ h => h)) (by omega) HG.out.nv)
  have CLN := hidden (fun (W' : World) (hk : Keeps (fun _ => False) W W') => slices_CloneI W' An cn c.nums (HG.out.nums.keeps (K1.out.trans hk (fun _ _ h => h)) (fun _ _ _ _ h => h)) (by omega) HG.out.nn)
  have SK := hidden (fun (W' : World) (hk : Keeps (fun _ => False) W W') => show W'.cell? ⟨w.heap.size, 1, none⟩ = some (.slice Av c.vals.length cv) ∧ W'.cell? ⟨w.heap.size, 4, none⟩ = some (.slice An c.nums.length cn) from ⟨hk.cell c1 (fun h => h), hk.cell c4 (fun h => h)⟩)
  go_region_held3 (fun W' => W'.cell? ⟨w.heap.size, 1, none⟩ = some (.slice Av c.vals.length cv) ∧ W'.cell? ⟨w.heap.size, 4, none⟩ = some (.slice An c.nums.length cn)) (first | exact SK.out _ (Keeps.refl _ _) | exact SK.out _ ((Keeps.refl _ W).drewN _) | exact SK.out _ K6.out | exact SK.out _ K5.out | exact ⟨setcell_keep (SK.out _ K6.out).1 (by simp), setcell_keep (SK.out _ K6.out).2 (by simp)⟩ | exact ⟨setcell_keep (setcell_keep (SK.out _ K6.out).1 (by simp)) (by simp), setcell_keep (setcell_keep (SK.out _ K6.out).2 (by simp)) (by simp)⟩) (first | (go_at_call 52; refine (CLV.out _ ((Keeps.refl _ W).drewN _)).mono ?_; rintro e w5 ⟨A5, c5, F5, rfl, h1, h2, h3, h4⟩; have R5 := hidden h1; have I5 := hidden h2; have K5 := hidden (((Keeps.refl (fun _ => False) W).drewN _).trans h3 (fun _ _ h => h)); have F5f := hidden h4; clear h1 h2 h3 h4) | (go_at_call 53; refine (CLN.out _ K5.out).mono ?_; rintro e w6 ⟨A6, c6, F6, rfl, h1, h2, h3, h4⟩; have R6 := hidden h1; have I6 := hidden h2; have K56 := hidden h3; have K6 := hidden (K5.out.trans h3 (fun _ _ h => h)); have F6f := hidden h4; have o1 := K6.out.heap OB.out (fun h => h); have o1c := blk_cell o1 1; have o4c := blk_cell o1 4; have o1f := blk_frozen o1 1; have o4f := blk_frozen o1 4; simp only [List.getElem?_toArray, List.getElem?_cons_zero, List.getElem?_cons_succ] at o1c o4c; have hoz6 := blk_lt o1; clear h1 h2 h3 h4 o1))
  have HOZ := hidden (show w.heap.size + 1 < w6.heap.size from hoz6)
  have PB := hidden (show ((w6.setCell ⟨w.heap.size + 1, 1, none⟩ (.slice A5 c.vals.length c5)).setCell ⟨w.heap.size + 1, 4, none⟩ (.slice A6 c.nums.length c6)).heap[w.heap.size + 1]? = some (.cells #[.int .i64 c.kind, .slice A5 c.vals.length c5, .pointer lp, .pointer tp, .slice A6 c.nums.length c6, .string c.text] 41 (0, 0)) from blk_set (blk_set (K6.out.heap OB.out (fun h => h)) 1 _) 4 _)
  have K7 := hidden (show Keeps (fun k => k = w.heap.size + 1) w6 ((w6.setCell ⟨w.heap.size + 1, 1, none⟩ (.slice A5 c.vals.length c5)).setCell ⟨w.heap.size + 1, 4, none⟩ (.slice A6 c.nums.length c6)) from (((SameBut.refl (w.heap.size + 1) w6).set 1 _).set 4 _).keeps)
  clear c1 c4 hcz hoz of1 of4 ho1 ho4 CLV CLN SK OB CB o1c o4c o1f o4f hoz6
  generalize (w6.setCell ⟨w.heap.size + 1, 1, none⟩ (.slice A5 c.vals.length c5)).setCell ⟨w.heap.size + 1, 4, none⟩ (.slice A6 c.nums.length c6) = w7 at *
  have K17 := hidden (show Keeps (fun _ => False) w w7 from (((K1.out.trans K6.out (fun _ _ h => h)).mono (T := fun k => k = w.heap.size + 1) (fun _ _ h => h.elim)).trans K7.out (fun _ _ h => h)).mono (fun i hi h => by omega))
  have hf5 : ∀ k, F5 k → w.heap.size + 2 ≤ k := fun k h => (F5f.out k h).elim (fun h => h.elim) (fun h => by simp at h; omega)
  have hf6 : ∀ k, F6 k → w.heap.size + 2 ≤ k := fun k h => (F6f.out k h).elim (fun h => h.elim) (fun h => by have := K5.out.size; omega)
  have R57 := hidden ((R5.out.keeps K56.out (Apart.no _)).keeps K7.out (fun k h e => by have := hf5 k h; omega))
  have R67 := hidden (R6.out.keeps K7.out (fun k h e => by have := hf6 k h; omega))
  have hz7 := K7.out.size
  have hz6 := K56.out.size
  have hz1 := K17.out.size
  have ap56 : Apart F5 F6 := fun k h1 h2 => (F6f.out k h2).elim (fun h => h.elim) (fun h => by have := I5.out k h1; omega)
  obtain ⟨Fc, hFcd⟩ : ∃ Fc : Nat → Prop, Fc = fun k => k = w.heap.size + 1 ∨ F5 k ∨ Fl k ∨ Ft k ∨ F6 k := ⟨_, rfl⟩
  have HC := hidden (show IsCell w7 (w.heap.size + 1) Fc c from hFcd ▸ cell_made (w := w) (c := c) (lp := lp) (tp := tp) PB.out R57.out R67.out (HG.out.list.keeps K17.out (Apart.no _)) (HG.out.tab.keeps K17.out (Apart.no _)) (fun k h => by have := I5.out k h; omega) (fun k h => by have := I6.out k h; omega) HG.out.il HG.out.it (fun k h => ⟨by have := hf5 k h; omega, by have := hf5 k h; omega⟩) (fun k h => ⟨by have := hf6 k h; omega, by have := hf6 k h; omega⟩) ap56 HG.out.lt (by omega) (by omega) HG.out.small)
  have HFC := hidden (show Apart F Fc from fun k h1 h2 => by
    rw [hFcd] at h2
    have h0 := HFB.out k h1
    rcases h2 with h2 | h2 | h2 | h2 | h2
    · omega
    · have := hf5 k h2; omega
    · exact HG.out.fl k h1 h2
    · exact HG.out.ft k h1 h2
    · have := hf6 k h2; omega)
  have HFCf := hidden (show ∀ k, Fc k → (F k ∨ Fl k ∨ Ft k) ∨ w.heap.size ≤ k from fun k h => by
    rw [hFcd] at h
    rcases h with h | h | h | h | h
    · exact .inr (by omega)
    · have := hf5 k h; exact .inr (by omega)
    · exact .inl (.inr (.inl h))
    · exact .inl (.inr (.inr h))
    · have := hf6 k h; exact .inr (by omega))
  have HX7 := hidden (HX.out.keeps K17.out (Apart.no _))
  have HPB := hidden (blk_lt PB.out)
  generalize hob : w.heap.size + 1 = ob at *
  clear hFcd HX HG R5 R6 R57 R67 I5 I6 K5 K6 K56 K7 K1 F5f F6f hf5 hf6 ap56 PB hWs HOZ hz7 hz6
  have b0 := blk_cell HX7.out.blk 0
  have b1 := blk_cell HX7.out.blk 1
  have b2 := blk_cell HX7.out.blk 2
  have b0f := blk_frozen HX7.out.blk 0
  have b1f := blk_frozen HX7.out.blk 1
  have b2f := blk_frozen HX7.out.blk 2
  simp only [List.getElem?_toArray, List.getElem?_cons_zero, List.getElem?_cons_succ] at b0 b1 b2
  have hbz := blk_lt HX7.out.blk
  have hw1 : IntKind.i64.wrap (s.live + 1) = s.live + 1 := by rw [IntKind.wrap_i64]; omega
  have HFR := hidden hfr
  have hfl : s.fr.length = fs.length + 1 := by rw [hfr]; simp
  have HFL := hidden hfl
  rw [hfl] at b1
  have hw2 : IntKind.i64.wrap ((fs.length : Int) + 1 - 1) = fs.length := by rw [IntKind.wrap_i64]; have := hfs; omega
  obtain ⟨gf, rfl, -, hgfz, fc, -⟩ := row1_cell HX7.out.free (i := fs.length) (v := .int .i64 i) (by rw [hfr]; simp [intCells])
  obtain ⟨gc, rfl, hgc1, hgcz, pc, pcf⟩ := row1_cell HX7.out.cells (i := i) (v := ptr H[i]) (by rw [List.getElem?_map, List.getElem?_eq_getElem hi]; rfl)
  have hcap := HX7.out.cells.cap
  have hfcap := HX7.out.free.cap
  rw [hfl] at hfcap
  have n1 : gc ≠ hb := HX7.out.ne.1 gc rfl
  have n2 : gf ≠ hb := HX7.out.ne.2 gf rfl
  have hHi := hidden hi
  generalize hpv : ptr H[i] = pv at *
  clear hfr hfl hpv
  go_wp2_with fail
  have hbl : Apart Fc (fun k => k = hb ∨ Fam 1 k ∨ Fam 2 k) := fun k h1 h2 => by
    rcases h2 with rfl | h2 | h2
    · exact HFC.out _ HBF.out h1
    · exact HFC.out k (HX7.out.sub 1 k h2) h1
    · exact HFC.out k (HX7.out.sub 2 k h2) h1
  have hkE : Keeps (fun k => k = hb ∨ Fam 1 k ∨ Fam 2 k) w7 (((w7.setCell ⟨hb, 2, none⟩ (.int .i64 (s.live + 1))).setCell ⟨hb, 1, none⟩ (.slice (some ⟨gf, 0, none⟩) fs.length cf)).setCell ⟨gc, i, none⟩ (.pointer (some ⟨ob, 0, none⟩))) := (((Keeps.refl _ w7).setCell (p := ⟨hb, 2, none⟩) (fun _ => .inl rfl) _).setCell (p := ⟨hb, 1, none⟩) (fun _ => .inl rfl) _).setCell (p := ⟨gc, i, none⟩) (fun _ => .inr (.inl hgc1)) _
  have hr1 := ((HX7.out.cells.set (p := ⟨hb, 2, none⟩) HX7.out.ne.1 (.int .i64 (s.live + 1))).set (p := ⟨hb, 1, none⟩) HX7.out.ne.1 (.slice (some ⟨gf, 0, none⟩) fs.length cf))
  have hr2 := hr1.1.stored i (.pointer (some ⟨ob, 0, none⟩))
  have hput := HX7.out.put (p := ob) (i := i) (c := c) (Fc := Fc) (s' := ⟨fs, s.live + 1, s.limit, s.freed, s.runs⟩) (Fam1 := Fam 1) (Fam2 := Fam 2) (H' := H.set i (some (ob, c))) (blk_far (p := ⟨gc, i, none⟩) (blk_set (blk_set HX7.out.blk 2 (.int .i64 (s.live + 1))) 1 (.slice (some ⟨gf, 0, none⟩) fs.length cf)) (fun e => n1 e.symm) (.pointer (some ⟨ob, 0, none⟩))) hkE (HC.out.keeps hkE hbl) HFC.out
    (by
      rw [List.length_set, List.map_set]
      exact ⟨hr2.1, hr1.2⟩) (Fresh.refl _ _) (fun k h => Nat.lt_of_lt_of_le (HX7.out.inw k (HX7.out.sub 1 k h)) hkE.size)
    (fun k h1 h2 => HFC.out k (HX7.out.sub 1 k h2) h1)
    (by
      have hf := ((HX7.out.free.set (p := ⟨hb, 2, none⟩) HX7.out.ne.2 (.int .i64 (s.live + 1))).set (p := ⟨hb, 1, none⟩) HX7.out.ne.2 (.slice (some ⟨gf, 0, none⟩) fs.length cf)).set (p := ⟨gc, i, none⟩) (fun k hk e => HX7.out.ap 1 2 (by decide) gc hgc1 (by have := HX7.out.free.2 k hk; rw [e] at this; exact this)) (.pointer (some ⟨ob, 0, none⟩))
      have hf2 := hf.take (m := fs.length) (by rw [HFL.out]; omega)
      have e : (intCells s.fr).take (fs.length * 1) = intCells fs := by rw [HFR.out, Nat.mul_one, intCells_append]; exact List.take_left' (by simp [intCells])
      rw [e] at hf2
      exact hf2) (fun k h => h)
    (fun j hj q d h => by rwa [List.getElem?_set_ne (fun e => hj e.symm)] at h)
    (fun q d h => by
      rw [List.getElem?_set_self hHi.out] at h
      simp at h
      exact ⟨h.1.symm, h.2.symm⟩)
  refine hR.out _ _ ⟨ob, _, rfl, ⟨_, _, _, hput⟩, (K17.out.mono (T := F) (fun _ _ h => h.elim)).trans (hkE.mono (T := F) (fun k _ h => ?_)) (fun _ _ h => h), fun k h => ?_⟩
  · rcases h with rfl | h | h
    · exact HBF.out
    · exact HX7.out.sub 1 k h
    · exact HX7.out.sub 2 k h
  · rcases h with (h | h) | h
    · exact .inl (.inl h)
    · exact HFCf.out k h
    · exact .inl (.inl (HX7.out.sub 1 k h))
end Go.Proofs.Ytfdfjogoiagnkaa
namespace Go.Proofs.Ytfdfjogoiagnkaa
open Go.RowKit
set_option maxRecDepth 100000

def atH (H : List (Option (Nat × Cl))) (j : Nat) : Option (Nat × Cl) := (H[j]?).join
theorem atH_some {H : List (Option (Nat × Cl))} {j : Nat} {x : Nat × Cl} : atH H j = some x ↔ H[j]? = some (some x) := by
  unfold atH
  cases H[j]? with
  | none => simp
  | some o => simp
theorem HOk.new (limit : Int) : HOk [] ⟨[], 0, min (max limit 0) 1048576, 0, 0⟩ :=
  ⟨by simp only; omega, rfl, by simp only; omega, by simp only [List.length_nil]; omega, List.nodup_nil, fun i => by simp⟩
structure NewAt (H H' : List (Option (Nat × Cl))) (i : Nat) (x : Nat × Cl) : Prop where
  here : atH H' i = some x
  was : atH H i = none
  else_ : ∀ j, j ≠ i → atH H' j = atH H j
  len : H.length ≤ H'.length
theorem nodup_len : ∀ (n : Nat) (l : List Int), l.Nodup → (∀ x ∈ l, ∃ k : Nat, x = k ∧ k < n) → l.length ≤ n
  | 0, l, _, h => by
    cases l with
    | nil => exact Nat.le_refl _
    | cons x l => obtain ⟨k, _, hk⟩ := h x (List.mem_cons_self ..); omega
  | n + 1, l, hn, h => by
    by_cases hm : (n : Int) ∈ l
    · have h1 := nodup_len n (l.erase n) (hn.erase _) (fun x hx => by
        obtain ⟨k, rfl, hk⟩ := h x (List.mem_of_mem_erase hx)
        refine ⟨k, rfl, ?_⟩
        have : k ≠ n := by
          rintro rfl
          exact ((List.Nodup.mem_erase_iff hn).1 hx).1 rfl
        omega)
      have h2 := List.length_erase_of_mem hm
      omega
    · have h1 := nodup_len n l hn (fun x hx => by
        obtain ⟨k, rfl, hk⟩ := h x hx
        refine ⟨k, rfl, ?_⟩
        have : k ≠ n := by rintro rfl; exact hm hx
        omega)
      omega
theorem HOk.fr_len {H : List (Option (Nat × Cl))} {s : HSt} (h : HOk H s) : s.fr.length ≤ H.length := by
  exact nodup_len _ _ h.nodup (fun x hx => by
    obtain ⟨n, rfl, hn⟩ := (h.free x).1 hx
    exact ⟨n, rfl, (List.getElem?_eq_some_iff.1 hn).1⟩)
theorem HOk.end_ {H : List (Option (Nat × Cl))} {s : HSt} (h : HOk H s) (hf : s.fr = []) (hl : s.live < s.limit) (x : Nat × Cl) : HOk (H ++ [some x]) ⟨[], s.live + 1, s.limit, s.freed, s.runs⟩ ∧ NewAt H (H ++ [some x]) H.length x := by
  have hall : ∀ n : Nat, H[n]? ≠ some none := fun n hn => by
    have := (h.free n).2 ⟨n, rfl, hn⟩
    rw [hf] at this; simp at this
  have hc : H.countP (·.isSome) = H.length := by
    rw [List.countP_eq_length]
    intro a ha
    obtain ⟨n, hn, rfl⟩ := List.mem_iff_getElem.1 ha
    have := hall n
    rw [List.getElem?_eq_getElem hn] at this
    cases hh : H[n] with
    | none => exact absurd (by rw [hh]) this
    | some y => rfl
  have hlv := h.live
  rw [hc] at hlv
  refine ⟨⟨h.lim, ?_, by show s.live + 1 ≤ s.limit; omega, by show ((H ++ [some x]).length : Int) ≤ s.limit; rw [List.length_append, List.length_singleton]; omega, List.nodup_nil, fun i => ?_⟩, ?_, ?_, fun j hj => ?_, by simp⟩
  · show s.live + 1 = _
    rw [List.countP_append, hc, h.live, hc]; rfl
  · simp only [List.not_mem_nil, false_iff]
    rintro ⟨n, -, hn⟩
    rcases Nat.lt_trichotomy n H.length with h1 | h1 | h1
    · rw [List.getElem?_append_left h1] at hn; exact hall n hn
    · subst h1; rw [List.getElem?_append_right (Nat.le_refl _), Nat.sub_self] at hn; simp at hn
    · rw [List.getElem?_eq_none (by simp; omega)] at hn; cases hn
  · rw [atH_some, List.getElem?_append_right (Nat.le_refl _), Nat.sub_self]; rfl
  · unfold atH; rw [List.getElem?_eq_none (Nat.le_refl _)]; rfl
  · unfold atH
    rcases Nat.lt_or_ge j H.length with h1 | h1
    · rw [List.getElem?_append_left h1]
    · rw [List.getElem?_eq_none (by simp; omega), List.getElem?_eq_none h1]
theorem HOk.put {H : List (Option (Nat × Cl))} {s : HSt} (h : HOk H s) {fs : List Int} {i : Nat} (hf : s.fr = fs ++ [(i : Int)]) (hl : s.live < s.limit) (x : Nat × Cl) : i < H.length ∧ HOk (H.set i (some x)) ⟨fs, s.live + 1, s.limit, s.freed, s.runs⟩ ∧ NewAt H (H.set i (some x)) i x := by
  obtain ⟨n, hn, hi⟩ := (h.free i).1 (by rw [hf]; simp)
  obtain rfl : i = n := by omega
  have hil := (List.getElem?_eq_some_iff.1 hi).1
  have hie : H[i] = none := (List.getElem?_eq_some_iff.1 hi).2
  have hnd := h.nodup
  rw [hf, List.nodup_append] at hnd
  obtain ⟨nd1, -, nd3⟩ := hnd
  have hni : (i : Int) ∉ fs := fun hm => nd3 _ hm _ (List.mem_singleton.2 rfl) rfl
  refine ⟨hil, ⟨h.lim, ?_, by show s.live + 1 ≤ s.limit; omega, by show ((H.set i _).length : Int) ≤ s.limit; rw [List.length_set]; exact h.len, nd1, fun k => ?_⟩, ?_, ?_, fun j hj => ?_, by simp⟩
  · show s.live + 1 = _
    rw [List.countP_set hil, hie, h.live]
    simp
  · constructor
    · intro hk
      obtain ⟨m, rfl, hm⟩ := (h.free k).1 (by rw [hf]; exact List.mem_append_left _ hk)
      refine ⟨m, rfl, ?_⟩
      rw [List.getElem?_set_ne (fun e => hni (by rw [e]; exact hk))]
      exact hm
    · rintro ⟨m, rfl, hm⟩
      by_cases e : i = m
      · subst e; rw [List.getElem?_set_self hil] at hm; simp at hm
      · rw [List.getElem?_set_ne e] at hm
        have := (h.free m).2 ⟨m, rfl, hm⟩
        rw [hf] at this
        rcases List.mem_append.1 this with h1 | h1
        · exact h1
        · simp at h1; omega
  · rw [atH_some, List.getElem?_set_self hil]
  · unfold atH; rw [hi]; rfl
  · unfold atH; rw [List.getElem?_set_ne (fun e => hj e.symm)]
theorem heap_Alloc (w : World) (F : Nat → Prop) (hb : Nat) (H : List (Option (Nat × Cl))) (s : HSt) (c : Cl) (Av An lp tp : Option Addr) (cv cn : Nat) (Fl Ft : Nat → Prop) (h : IsHeap w F hb H s) (ho : HOk H s) (hg : Given w F Fl Ft c Av An lp tp) (hk : 1 ≤ c.kind ∧ c.kind < 11) (hf : s.live < s.limit) :
    Calls Try.prog 15 #[.pointer (some ⟨hb, 0, none⟩), .agg #[.int .i64 c.kind, .slice Av c.vals.length cv, .pointer lp, .pointer tp, .slice An c.nums.length cn, .string c.text]] w fun e w' => ∃ (i p : Nat) (F' : Nat → Prop) (H' : List (Option (Nat × Cl))) (s' : HSt), e = .returned (.tuple #[.int .i64 i, .int .i64 0]) ∧ IsHeap w' F' hb H' s' ∧ HOk H' s' ∧ NewAt H H' i (p, c) ∧ s'.live = s.live + 1 ∧ s'.limit = s.limit ∧ s'.freed = s.freed ∧ s'.runs = s.runs ∧ i < 1048576 ∧ Keeps F w w' ∧ Fresh (fun k => F k ∨ Fl k ∨ Ft k) F' w := by
  have hlv := ho.live
  have hli := ho.lim
  have hle := ho.len
  rcases List.eq_nil_or_concat s.fr with hfr | ⟨fs, x, hfr⟩
  · refine (heap_Alloc_end w F hb H s c Av An lp tp cv cn Fl Ft h hg hk hf ⟨by omega, hli.2⟩ (by omega) hfr).mono ?_
    rintro e w' ⟨p, F', rfl, h1, h2, h3⟩
    obtain ⟨g1, g2⟩ := ho.end_ hfr hf (p, c)
    have hl2 := g1.len
    simp only [List.length_append, List.length_singleton] at hl2
    exact ⟨H.length, p, F', _, _, rfl, h1, g1, g2, rfl, rfl, rfl, rfl, by omega, h2, h3⟩
  · rw [List.concat_eq_append] at hfr
    obtain ⟨i, rfl, -⟩ := (ho.free x).1 (by rw [hfr]; simp)
    have hfl := ho.fr_len
    rw [hfr, List.length_append, List.length_singleton] at hfl
    obtain ⟨hi, -⟩ := ho.put hfr hf (0, c)
    refine (heap_Alloc_free w F hb H s c Av An lp tp cv cn Fl Ft h hg hk hf ⟨by omega, hli.2⟩ (by omega) fs i hfr hi (by omega)).mono ?_
    rintro e w' ⟨p, F', rfl, h1, h2, h3⟩
    obtain ⟨-, g1, g2⟩ := ho.put hfr hf (p, c)
    exact ⟨i, p, F', _, _, rfl, h1, g1, g2, rfl, rfl, rfl, rfl, by omega, h2, h3⟩
end Go.Proofs.Ytfdfjogoiagnkaa
namespace Go.Proofs.Ytfdfjogoiagnkaa
open Go.RowKit
set_option maxRecDepth 100000

theorem heap_Ref (n : Int) (w : World) : Calls Try.prog 18 #[.int .i64 n] w fun e w' => e = .returned (V.val ⟨4, n, ⟨#[]⟩⟩) ∧ Keeps (fun _ => False) w w' := by
  refine post_gen fun R hR => ?_
  go_enter Try.func18, Try.ntmps18
  go_wp2
  exact bodyPost_ret (v := V.val ⟨4, n, ⟨#[]⟩⟩) (by simp [results, Try.results18, go_sem, V.val]) rfl (hR.out _ _ ⟨rfl, (Keeps.refl _ _).alloc _⟩)
theorem Given.none {w w1 : World} {F Fl Ft : Nat → Prop} {c : Cl} {Av An lp tp : Option Addr} (h : Given w F Fl Ft c Av An lp tp) (hk : Keeps (fun _ => False) w w1) : Given w1 F Fl Ft c Av An lp tp :=
  ⟨h.vals.keeps hk (fun _ _ _ _ h => h), h.nv, h.nums.keeps hk (fun _ _ _ _ h => h), h.nn, h.list.keeps hk (Apart.no _), h.tab.keeps hk (Apart.no _), h.fl, h.ft, h.lt, h.il.keeps hk, h.it.keeps hk, h.small⟩
structure Made (w w' : World) (F F0 : Nat → Prop) (hb : Nat) (H : List (Option (Nat × Cl))) (s : HSt) (c : Cl) (i p : Nat) (F' : Nat → Prop) (H' : List (Option (Nat × Cl))) (s' : HSt) : Prop where
  heap : IsHeap w' F' hb H' s'
  ok : HOk H' s'
  new : NewAt H H' i (p, c)
  live : s'.live = s.live + 1
  limit : s'.limit = s.limit
  freed : s'.freed = s.freed
  runs : s'.runs = s.runs
  lt : i < 1048576
  keeps : Keeps F w w'
  fresh : Fresh (fun k => F k ∨ F0 k) F' w
section
variable {w w' w0 : World} {F F0 F1 : Nat → Prop} {hb : Nat} {H : List (Option (Nat × Cl))} {s : HSt} {c : Cl} {i p : Nat} {F' : Nat → Prop} {H' : List (Option (Nat × Cl))} {s' : HSt}
theorem Made.ahead (h : Made w w' F F0 hb H s c i p F' H' s') (hk : Keeps (fun _ => False) w0 w) (hf : ∀ k, F0 k → F1 k ∨ w0.heap.size ≤ k) : Made w0 w' F F1 hb H s c i p F' H' s' :=
  ⟨h.heap, h.ok, h.new, h.live, h.limit, h.freed, h.runs, h.lt, (hk.mono (T := F) (fun _ _ h => h.elim)).trans h.keeps (fun _ _ h => h), fun k hk' => by
    rcases h.fresh k hk' with (h | h) | h
    · exact .inl (.inl h)
    · exact (hf k h).imp .inr id
    · exact .inr (Nat.le_trans hk.size h)⟩
theorem Made.behind {S : Nat → Prop} {w1 : World} (h : Made w w' F F0 hb H s c i p F' H' s') (hk : Keeps S w' w1) (hS : ∀ k, S k → ¬ F' k ∧ w.heap.size ≤ k) : Made w w1 F F0 hb H s c i p F' H' s' :=
  ⟨h.heap.keeps hk (fun k h1 h2 => (hS k h2).1 h1), h.ok, h.new, h.live, h.limit, h.freed, h.runs, h.lt, h.keeps.trans hk (fun k hi h2 => by have := (hS k h2).2; omega), h.fresh⟩
theorem heap_Alloc_made (h : IsHeap w F hb H s) (ho : HOk H s) {Av An lp tp : Option Addr} {cv cn : Nat} {Fl Ft : Nat → Prop} (hg : Given w F Fl Ft c Av An lp tp) (hk : 1 ≤ c.kind ∧ c.kind < 11) (hf : s.live < s.limit) :
    Calls Try.prog 15 #[.pointer (some ⟨hb, 0, none⟩), .agg #[.int .i64 c.kind, .slice Av c.vals.length cv, .pointer lp, .pointer tp, .slice An c.nums.length cn, .string c.text]] w fun e w' => ∃ i p F' H' s', e = .returned (.tuple #[.int .i64 (i : Nat), .int .i64 0]) ∧ Made w w' F (fun k => Fl k ∨ Ft k) hb H s c i p F' H' s' := by
  refine (heap_Alloc w F hb H s c Av An lp tp cv cn Fl Ft h ho hg hk hf).mono ?_
  rintro e w' ⟨i, p, F', H', s', rfl, h1, h2, h3, h4, h5, h6, h7, h8, h9, h10⟩
  exact ⟨i, p, F', H', s', rfl, h1, h2, h3, h4, h5, h6, h7, h8, h9, h10⟩
end
theorem heap_value_ok (w : World) (F : Nat → Prop) (hb : Nat) (H : List (Option (Nat × Cl))) (s : HSt) (c : Cl) (Av An lp tp : Option Addr) (cv cn : Nat) (Fl Ft : Nat → Prop) (h : IsHeap w F hb H s) (ho : HOk H s) (hg : Given w F Fl Ft c Av An lp tp) (hk : 1 ≤ c.kind ∧ c.kind < 11) (hf : s.live < s.limit) :
    Calls Try.prog 64 #[.pointer (some ⟨hb, 0, none⟩), .agg #[.int .i64 c.kind, .slice Av c.vals.length cv, .pointer lp, .pointer tp, .slice An c.nums.length cn, .string c.text]] w fun e w' => ∃ i p F' H' s', e = .returned (.tuple #[V.val ⟨4, (i : Nat), ⟨#[]⟩⟩, .int .i64 0]) ∧ Made w w' F (fun k => Fl k ∨ Ft k) hb H s c i p F' H' s' := by
  have HA := hidden (fun (W : World) (hK : Keeps (fun _ => False) w W) => heap_Alloc_made (cv := cv) (cn := cn) (h.calm hK) ho (hg.none hK) hk hf)
  have HRF := hidden (fun (W : World) (n : Int) => heap_Ref n W)
  unfold V.val at HRF
  have hin := hidden (h.inw)
  have hil := hidden hg.il
  have hit := hidden hg.it
  clear h ho hg hk hf
  refine post_gen fun R hR => ?_
  go_enter Try.func64, Try.ntmps64
  go_wp2_with fail
  refine (HA.out _ (((Keeps.refl _ w).alloc _).alloc _)).mono ?_
  rintro e w1 ⟨i, p, F', H', s', rfl, hM⟩
  have HV := hidden (show IsVar w1 (w.heap.size + 1) V.null from hM.keeps.heap (new2t w _ _) (fun h => by have := hin.out _ h; omega))
  have HM := hidden (hM.ahead (w0 := w) (F1 := fun k => Fl k ∨ Ft k) (((Keeps.refl _ w).alloc _).alloc _) (fun k h => .inl h))
  have hnf := hidden (show ¬ F' (w.heap.size + 1) from fun h => by
    rcases hM.fresh _ h with (h | h | h) | h
    · have := hin.out _ h; omega
    · have := hil.out _ h; omega
    · have := hit.out _ h; omega
    · simp at h; try omega)
  clear hM HA
  go_wp2_with fail
  refine (HRF.out _ _).mono ?_
  rintro e w2 ⟨rfl, hK⟩
  have HV2 := hidden (HV.out.keeps hK (fun h => h))
  have HM2 := hidden (HM.out.behind hK (fun k h => h.elim))
  clear hK HV HM
  obtain ⟨v0, v1, v2, v3, v4, v5⟩ := HV2.out.cells
  have hvz := blk_lt HV2.out
  simp only [V.null] at v0 v1 v2
  go_wp2_with fail
  obtain ⟨d0, d1, d2, _⟩ := (HV2.out.set ⟨4, i, ⟨#[]⟩⟩).cells
  simp only at d0 d1 d2
  exact bodyPost_ret (v := .tuple #[V.val ⟨4, i, ⟨#[]⟩⟩, .int .i64 0]) (by simp [results, Try.results64, go_sem, d0, d1, d2, V.val]) rfl (hR.out _ _ ⟨i, p, F', H', s', rfl, HM2.out.behind ((Keeps.refl (fun k => k = w.heap.size + 1) w2).var (r := w.heap.size + 1) (fun _ => rfl) _ _ _) (fun k h => by rw [h]; exact ⟨hnf.out, by omega⟩)⟩)
end Go.Proofs.Ytfdfjogoiagnkaa
namespace Go.Proofs.Ytfdfjogoiagnkaa
open Go.RowKit
set_option maxRecDepth 100000

def arrayCl (lb : Nat) (xs : List V) : Cl := ⟨1, [], some (lb, xs), none, [], ⟨#[]⟩⟩
def tableCl (b : Nat) (L : List Ent) (s : Int) : Cl := ⟨2, [V.null], none, some (b, L, s), [], ⟨#[]⟩⟩
theorem Made.off {w w' : World} {F F0 F' : Nat → Prop} {hb i p r : Nat} {H H' : List (Option (Nat × Cl))} {s s' : HSt} {c : Cl} (h : Made w w' F F0 hb H s c i p F' H' s') (hF : ¬ F r) (h0 : ¬ F0 r) (hr : r < w.heap.size) : ¬ F' r := fun hx => by
  rcases h.fresh r hx with (x | x) | x
  · exact hF x
  · exact h0 x
  · omega
theorem heap_NewArray_ok (w : World) (F : Nat → Prop) (hb : Nat) (H : List (Option (Nat × Cl))) (s : HSt) (A : Option Addr) (cA : Nat) (xs : List V) (h : IsHeap w F hb H s) (ho : HOk H s) (hx : Vals w A xs) (hxl : xs.length ≤ 1048576) (hnil : A = none → xs = []) (hf : s.live < s.limit) :
    Calls Try.prog 46 #[.pointer (some ⟨hb, 0, none⟩), .slice A xs.length cA] w fun e w' => ∃ i p lb F' H' s', e = .returned (.tuple #[V.val ⟨4, (i : Nat), ⟨#[]⟩⟩, .int .i64 0]) ∧ Made w w' F (fun _ => False) hb H s (arrayCl lb xs) i p F' H' s' := by
  have HN := hidden (fun (W : World) (hK : Keeps (fun _ => False) w W) => list_New W A cA xs (hx.keeps hK (fun _ _ _ _ h => h)) (by omega) hnil)
  have HVL := hidden (fun (W : World) (b : Nat) (F1 : Nat → Prop) (hK : Keeps (fun _ => False) w W) (hl : IsList W F1 b xs) (hF : ∀ k, F1 k → w.heap.size ≤ k) => heap_value_ok W F hb H s (arrayCl b xs) none none (some ⟨b, 0, none⟩) none 0 0 F1 (fun _ => False) (h.calm hK) ho
    ⟨Vals.nil _ _, fun _ => rfl, fun i x h => by simp [arrayCl] at h, fun _ => rfl, ⟨rfl, hl⟩, rfl, fun k h1 h2 => by have := h.inw k h1; have := hF k h2; omega, Apart.no _, Apart.no _, hl.inw, fun _ h => h.elim, ⟨by simp [arrayCl], by simp [arrayCl], fun b' ys e => by simp [arrayCl] at e; obtain ⟨-, rfl⟩ := e; exact hxl, fun b' L s e => by simp [arrayCl] at e⟩⟩ (by simp [arrayCl]) hf)
  have hin := hidden (h.inw)
  clear h ho hx hxl hnil hf
  unfold V.val at HVL
  refine post_gen fun R hR => ?_
  go_enter Try.func46, Try.ntmps46
  go_wp2_with fail
  refine (HN.out _ ((Keeps.refl _ w).alloc _)).mono ?_
  rintro e w1 ⟨b, F1, rfl, hL, hK, hF⟩
  have HV := hidden (show IsVar w1 w.heap.size V.null from hK.heap (IsVar.new w V.null) (fun h => h))
  have hKw := hidden (((Keeps.refl (fun _ => False) w).alloc _).trans hK (fun _ _ h => h))
  have hFw := hidden (show ∀ k, F1 k → w.heap.size + 1 ≤ k from fun k h => (hF k h).elim (fun h => h.elim) (fun h => by simp at h; omega))
  have HLi := hidden hL
  clear hK hF hL HN
  go_wp2_with fail
  refine (HVL.out _ b F1 hKw.out HLi.out (fun k h => by have := hFw.out k h; omega)).mono ?_
  rintro e w2 ⟨i, p, F', H', s', rfl, hM⟩
  have HV2 := hidden (HV.out.keeps hM.keeps (fun h => by have := hin.out _ h; omega))
  have hnf := hidden (show ¬ F' w.heap.size from fun h => by
    rcases hM.fresh _ h with (h | h | h) | h
    · have := hin.out _ h; omega
    · have := hFw.out _ h; omega
    · exact h
    · have := hKw.out.size; have := blk_lt HV.out; omega)
  have HM2 := hidden (hM.ahead (w0 := w) (F1 := fun _ => False) hKw.out (fun k h => h.elim (fun h => .inr (by have := hFw.out k h; omega)) (fun h => h.elim)))
  clear hM HVL
  obtain ⟨v0, v1, v2, v3, v4, v5⟩ := HV2.out.cells
  have hvz := blk_lt HV2.out
  simp only [V.null] at v0 v1 v2
  go_wp2_with fail
  obtain ⟨d0, d1, d2, _⟩ := (HV2.out.set ⟨4, i, ⟨#[]⟩⟩).cells
  simp only at d0 d1 d2
  exact bodyPost_ret (v := .tuple #[V.val ⟨4, i, ⟨#[]⟩⟩, .int .i64 0]) (by simp [results, Try.results46, go_sem, d0, d1, d2, V.val]) rfl (hR.out _ _ ⟨i, p, b, F', H', s', rfl, HM2.out.behind ((Keeps.refl (fun k => k = w.heap.size) w2).var (r := w.heap.size) (fun _ => rfl) _ _ _) (fun k h => by rw [h]; exact ⟨hnf.out, by omega⟩)⟩)
end Go.Proofs.Ytfdfjogoiagnkaa
namespace Go.Proofs.Ytfdfjogoiagnkaa
open Go.RowKit
set_option maxRecDepth 100000

structure Work where
  ms : List Bool
  ws : List Int
open Classical in
noncomputable def Work.add (H : List (Option (Nat × Cl))) (s : Work) (n : Int) : Work :=
  if 0 ≤ n ∧ s.ms[n.toNat]? = some false ∧ ∃ x, H[n.toNat]? = some (some x) then ⟨s.ms.set n.toNat true, s.ws ++ [n]⟩ else s
end Go.Proofs.Ytfdfjogoiagnkaa
namespace Go.Proofs.Ytfdfjogoiagnkaa
open Go.RowKit
set_option maxRecDepth 100000

abbrev Hp := List (Option (Nat × Cl))
def Hp.has (H : Hp) (i : Nat) : Prop := ∃ x, H[i]? = some (some x)
inductive Reach (H : Hp) (rs : List Int) : Nat → Prop
  | root {i : Nat} (hi : (i : Int) ∈ rs) (hx : Hp.has H i) : Reach H rs i
  | step {i j p : Nat} {c : Cl} (h : Reach H rs i) (hi : H[i]? = some (some (p, c))) (hj : (j : Int) ∈ c.strong) (hy : Hp.has H j) : Reach H rs j
theorem Reach.has {H : Hp} {rs : List Int} {i : Nat} (h : Reach H rs i) : Hp.has H i := by
  cases h with
  | root _ hx => exact hx
  | step _ _ _ hy => exact hy
structure Adds (H : Hp) (st st' : Work) (l : List Int) : Prop where
  len : st'.ms.length = st.ms.length
  stay : ∀ i : Nat, st.ms[i]? = some true → st'.ms[i]? = some true
  new : ∀ i : Nat, st'.ms[i]? = some true → st.ms[i]? = some true ∨ ((i : Int) ∈ l ∧ Hp.has H i ∧ (i : Int) ∈ st'.ws)
  all : ∀ i : Nat, (i : Int) ∈ l → Hp.has H i → i < st.ms.length → st'.ms[i]? = some true
  sub : ∀ n ∈ st.ws, n ∈ st'.ws
  ws : ∀ n ∈ st'.ws, n ∈ st.ws ∨ ∃ i : Nat, n = i ∧ st'.ms[i]? = some true
  sum : st'.ws.length + st'.ms.countP (! ·) = st.ws.length + st.ms.countP (! ·)
  le : st'.ms.countP (! ·) ≤ st.ms.countP (! ·)
theorem Adds.refl (H : Hp) (st : Work) : Adds H st st [] := ⟨rfl, fun _ h => h, fun _ h => .inl h, fun _ h => by simp at h, fun _ h => h, fun _ h => .inl h, rfl, Nat.le_refl _⟩
theorem Adds.trans {H : Hp} {a b c : Work} {l m : List Int} (h : Adds H a b l) (k : Adds H b c m) : Adds H a c (l ++ m) :=
  ⟨k.len.trans h.len, fun i hi => k.stay i (h.stay i hi), fun i hi => by
    rcases k.new i hi with h1 | ⟨h1, h2, h3⟩
    · rcases h.new i h1 with h4 | ⟨h4, h5, h6⟩
      · exact .inl h4
      · exact .inr ⟨List.mem_append_left _ h4, h5, k.sub _ h6⟩
    · exact .inr ⟨List.mem_append_right _ h1, h2, h3⟩, fun i hi hx hl => by
    rcases List.mem_append.1 hi with h1 | h1
    · exact k.stay i (h.all i h1 hx hl)
    · exact k.all i h1 hx (by rw [h.len]; exact hl), fun n hn => k.sub n (h.sub n hn), fun n hn => by
    rcases k.ws n hn with h1 | h1
    · rcases h.ws n h1 with h2 | ⟨i, h2, h3⟩
      · exact .inl h2
      · exact .inr ⟨i, h2, k.stay i h3⟩
    · exact .inr h1, k.sum.trans h.sum, Nat.le_trans k.le h.le⟩
structure RInv (H : Hp) (rs : List Int) (st : Work) : Prop where
  len : st.ms.length = H.length
  sound : ∀ i : Nat, st.ms[i]? = some true → Reach H rs i
  ws : ∀ n ∈ st.ws, ∃ i : Nat, n = i ∧ st.ms[i]? = some true
  closed : ∀ i : Nat, st.ms[i]? = some true → (i : Int) ∉ st.ws → ∀ p c, H[i]? = some (some (p, c)) → ∀ j : Nat, (j : Int) ∈ c.strong → Hp.has H j → st.ms[j]? = some true
  roots : ∀ i : Nat, (i : Int) ∈ rs → Hp.has H i → st.ms[i]? = some true
  sum : st.ws.length + st.ms.countP (! ·) ≤ H.length
def work0 (n : Nat) : Work := ⟨List.replicate n false, []⟩
theorem work0_none (n i : Nat) : (work0 n).ms[i]? ≠ some true := fun h => by
  obtain ⟨h1, h2⟩ := List.getElem?_eq_some_iff.1 h
  simp [work0] at h2
theorem Hp.has_lt {H : Hp} {i : Nat} (h : Hp.has H i) : i < H.length := by
  obtain ⟨x, hx⟩ := h
  exact (List.getElem?_eq_some_iff.1 hx).1
theorem RInv.start {H : Hp} {rs : List Int} {st : Work} (h : Adds H (work0 H.length) st rs) : RInv H rs st := by
  have hl : st.ms.length = H.length := by rw [h.len]; simp [work0]
  refine ⟨hl, fun i hi => ?_, fun n hn => ?_, fun i hi hni => ?_, fun i hi hx => h.all i hi hx (by simpa [work0] using Hp.has_lt hx), ?_⟩
  · rcases h.new i hi with h1 | ⟨h1, h2, -⟩
    · exact absurd h1 (work0_none _ _)
    · exact .root h1 h2
  · rcases h.ws n hn with h1 | h1
    · simp [work0] at h1
    · exact h1
  · rcases h.new i hi with h1 | ⟨-, -, h3⟩
    · exact absurd h1 (work0_none _ _)
    · exact absurd h3 hni
  · have := h.sum
    rw [this]
    simp [work0]
    exact Nat.le_trans List.countP_le_length (by simp)
theorem RInv.step {H : Hp} {rs : List Int} {st st' : Work} {i p : Nat} {c : Cl} {ws0 : List Int} (h : RInv H rs st) (hw : st.ws = ws0 ++ [(i : Int)]) (hi : H[i]? = some (some (p, c))) (ha : Adds H ⟨st.ms, ws0⟩ st' c.strong) : RInv H rs st' := by
  have him : st.ms[i]? = some true := by
    obtain ⟨k, hk, hm⟩ := h.ws i (by rw [hw]; simp)
    obtain rfl : i = k := by omega
    exact hm
  have hlen : st'.ms.length = H.length := ha.len.trans h.len
  refine ⟨hlen, fun k hk => ?_, fun n hn => ?_, fun k hk hkn q d hd j hj hy => ?_, fun k hk hx => ha.stay k (h.roots k hk hx), ?_⟩
  · rcases ha.new k hk with h1 | ⟨h1, h2, -⟩
    · exact h.sound k h1
    · exact .step (h.sound i him) hi h1 h2
  · rcases ha.ws n hn with h1 | h1
    · obtain ⟨k, e, hm⟩ := h.ws n (by rw [hw]; exact List.mem_append_left _ h1)
      exact ⟨k, e, ha.stay k hm⟩
    · exact h1
  · rcases ha.new k hk with h1 | ⟨-, -, h3⟩
    · by_cases e : k = i
      · subst e
        rw [hi] at hd
        simp at hd
        obtain ⟨-, rfl⟩ := hd
        exact ha.all j hj hy (by show j < st.ms.length; rw [h.len]; exact Hp.has_lt hy)
      · refine ha.stay j (h.closed k h1 (fun hm => ?_) q d hd j hj hy)
        rw [hw] at hm
        rcases List.mem_append.1 hm with h4 | h4
        · exact hkn (ha.sub _ h4)
        · have := List.mem_singleton.1 h4; omega
    · exact absurd h3 hkn
  · have h1 := ha.sum
    have h2 := h.sum
    rw [hw] at h2
    simp at h1 h2 ⊢
    omega
theorem RInv.done {H : Hp} {rs : List Int} {st : Work} (h : RInv H rs st) (hw : st.ws = []) (i : Nat) : st.ms[i]? = some true ↔ Reach H rs i := by
  refine ⟨h.sound i, fun hr => ?_⟩
  induction hr with
  | root hi hx => exact h.roots _ hi hx
  | step _ hi hj hy ih => exact h.closed _ ih (by rw [hw]; simp) _ _ hi _ hj hy
end Go.Proofs.Ytfdfjogoiagnkaa
namespace Go.Proofs.Ytfdfjogoiagnkaa
open Go.RowKit
set_option maxRecDepth 100000

theorem Ints.far {w wi : World} {A : Option Addr} {xs : List Int} (h : Ints w A xs) (hk : Keeps (fun k => w.heap.size ≤ k) w wi) : Ints wi A xs := h.keeps hk (fun h0 b o hA hS => by
  obtain ⟨b', o', e, hc⟩ := h 0 xs[0] (List.getElem?_eq_getElem h0)
  have := World.block_lt_of_cell? w _ hc
  rw [hA] at e
  simp at e
  obtain ⟨rfl, rfl⟩ := e
  simp at this
  omega)
end Go.Proofs.Ytfdfjogoiagnkaa
namespace Go.Proofs.Ytfdfjogoiagnkaa
open Go.RowKit
set_option maxRecDepth 100000

section
variable {w w1 : World} {F S : Nat → Prop} {hb : Nat} {H : List (Option (Nat × Cl))} {s : HSt} {Fam : Nat → Nat → Prop} {vc vf : Value}
theorem HeapX.turn {s' : HSt} {Fam2 : Nat → Prop} {vc' vf' : Value} {H' : List (Option (Nat × Cl))} (h : HeapX w F hb H s Fam vc vf)
    (hblk : w1.heap[hb]? = some (.cells #[vc', vf', .int .i64 s'.live, .int .i64 s'.limit, .int .i64 s'.freed, .int .i64 s'.runs] 99 (0, 0)))
    (hk : Keeps (fun k => k = hb ∨ Fam 1 k ∨ Fam 2 k) w w1)
    (h1 : Row w1 (Fam 1) 59 1 vc' H'.length (H'.map ptr))
    (h2 : Row w1 Fam2 3 1 vf' s'.fr.length (intCells s'.fr)) (f2 : Fresh (Fam 2) Fam2 w) (i2 : In Fam2 w1)
    (hH : ∀ (j q : Nat) (d : Cl), H'[j]? = some (some (q, d)) → H[j]? = some (some (q, d))) :
    HeapX w1 (fun k => F k ∨ Fam2 k) hb H' s' (famSet Fam 2 Fam2) vc' vf' := by
  have hin : ∀ j, In (Fam j) w := fun j k hk => h.inw k (h.sub j k hk)
  refine ⟨hblk, ?_, fun j k hjk => ?_, famSet_ap h.ap f2 hin, ?_, ?_, fun j q d hj => ?_, fun k hk2 => ?_⟩
  · rw [famSet_ne _ _ (by omega)]; exact h.here
  · by_cases e : j = 2
    · subst e; rw [famSet_at] at hjk; exact .inr hjk
    · rw [famSet_ne _ _ e] at hjk; exact .inl (h.sub j k hjk)
  · rw [famSet_ne _ _ (by omega)]; exact h1
  · rw [famSet_at]; exact h2
  · rw [famSet_ne _ _ (by omega)]
    refine (h.each j q d (hH j q d hj)).keeps hk (fun k a b => ?_)
    rcases b with rfl | b | b
    · exact h.ap 0 (j + 3) (by omega) k h.here a
    · exact h.ap 1 (j + 3) (by omega) k b a
    · exact h.ap 2 (j + 3) (by omega) k b a
  · rcases hk2 with hk2 | hk2
    · exact Nat.lt_of_lt_of_le (h.inw k hk2) hk.size
    · exact i2 k hk2
end
structure Swept (H : Hp) (ms : List Bool) (k : Nat) (Hk : Hp) (fr : List Int) : Prop where
  len : Hk.length = H.length
  gone : ∀ j, j < k → Hp.has H j → ms[j]? ≠ some true → Hk[j]? = some none
  stay : ∀ j, (k ≤ j ∨ ms[j]? = some true ∨ ¬ Hp.has H j) → Hk[j]? = H[j]?
  mem : ∀ n : Int, n ∈ fr ↔ ∃ j : Nat, n = j ∧ j < k ∧ Hp.has H j ∧ ms[j]? ≠ some true
  nodup : fr.Nodup
  cnt : Hk.countP (·.isSome) + fr.length = H.countP (·.isSome)
theorem Swept.start (H : Hp) (ms : List Bool) : Swept H ms 0 H [] := ⟨rfl, fun j h => by omega, fun _ _ => rfl, fun n => by simp, List.nodup_nil, rfl⟩
theorem Swept.skip {H : Hp} {ms : List Bool} {k : Nat} {Hk : Hp} {fr : List Int} (h : Swept H ms k Hk fr) (hs : ms[k]? = some true ∨ ¬ Hp.has H k) : Swept H ms (k + 1) Hk fr := by
  have key : ∀ j, Hp.has H j → ms[j]? ≠ some true → j < k + 1 → j < k := fun j h1 h2 h3 => by
    rcases Nat.lt_or_ge j k with h4 | h4
    · exact h4
    · obtain rfl : j = k := by omega
      rcases hs with h5 | h5
      · exact absurd h5 h2
      · exact absurd h1 h5
  refine ⟨h.len, fun j h1 h2 h3 => h.gone j (key j h2 h3 h1) h2 h3, fun j h1 => ?_, fun n => ?_, h.nodup, h.cnt⟩
  · rcases h1 with h1 | h1
    · exact h.stay j (.inl (by omega))
    · exact h.stay j (.inr h1)
  · rw [h.mem]
    constructor
    · rintro ⟨j, h1, h2, h3, h4⟩; exact ⟨j, h1, by omega, h3, h4⟩
    · rintro ⟨j, h1, h2, h3, h4⟩; exact ⟨j, h1, key j h3 h4 h2, h3, h4⟩
theorem Swept.free {H : Hp} {ms : List Bool} {k : Nat} {Hk : Hp} {fr : List Int} (h : Swept H ms k Hk fr) (hs : ms[k]? ≠ some true) (hh : Hp.has H k) : Swept H ms (k + 1) (Hk.set k none) (fr ++ [(k : Int)]) := by
  have hkl : k < Hk.length := by rw [h.len]; exact Hp.has_lt hh
  have hkk : Hk[k]? = H[k]? := h.stay k (.inl (Nat.le_refl _))
  refine ⟨by rw [List.length_set]; exact h.len, fun j h1 h2 h3 => ?_, fun j h1 => ?_, fun n => ?_, ?_, ?_⟩
  · by_cases e : k = j
    · subst e; exact List.getElem?_set_self hkl
    · rw [List.getElem?_set_ne e]; exact h.gone j (by omega) h2 h3
  · have e : k ≠ j := by
      rintro rfl
      rcases h1 with h1 | h1 | h1
      · omega
      · exact hs h1
      · exact h1 hh
    rw [List.getElem?_set_ne e]
    exact h.stay j (h1.imp (fun h => by omega) id)
  · rw [List.mem_append, h.mem, List.mem_singleton]
    constructor
    · rintro (⟨j, h1, h2, h3, h4⟩ | h1)
      · exact ⟨j, h1, by omega, h3, h4⟩
      · exact ⟨k, h1, by omega, hh, hs⟩
    · rintro ⟨j, h1, h2, h3, h4⟩
      by_cases e : j = k
      · subst e; exact .inr h1
      · exact .inl ⟨j, h1, by omega, h3, h4⟩
  · rw [List.nodup_append]
    refine ⟨h.nodup, by simp, fun a ha b hb e => ?_⟩
    have h1 := List.mem_singleton.1 hb
    obtain ⟨j, h2, h3, -⟩ := (h.mem a).1 ha
    omega
  · have h1 := List.countP_set (p := fun x : Option (Nat × Cl) => x.isSome) (a := none) hkl
    have h2 : Hk[k].isSome = true := by
      obtain ⟨x, hx⟩ := hh
      have := (List.getElem?_eq_some_iff.1 (hkk.trans hx)).2
      rw [this]; rfl
    have h3 : 0 < Hk.countP (·.isSome) := List.countP_pos_iff.2 ⟨_, List.getElem_mem hkl, h2⟩
    have h4 := h.cnt
    rw [h1, h2, List.length_append, List.length_singleton]
    simp
    omega
noncomputable def Cl.fix (ms : List Bool) (c : Cl) : Cl :=
  match c.nums with
  | [] => c
  | t :: l => if c.kind = 9 ∧ 0 ≤ t ∧ ms[t.toNat]? ≠ some true then { c with nums := (-1) :: l } else c
structure Fixed (H : Hp) (ms : List Bool) (k : Nat) (Hk : Hp) : Prop where
  len : Hk.length = H.length
  did : ∀ j, j < k → Hk[j]? = (H[j]?).map (Option.map fun x => (x.1, x.2.fix ms))
  stay : ∀ j, k ≤ j → Hk[j]? = H[j]?
theorem Fixed.start (H : Hp) (ms : List Bool) : Fixed H ms 0 H := ⟨rfl, fun j h => by omega, fun _ _ => rfl⟩
theorem Fixed.skip {H : Hp} {ms : List Bool} {k : Nat} {Hk : Hp} (h : Fixed H ms k Hk) (hs : H[k]? = (H[k]?).map (Option.map fun x => (x.1, x.2.fix ms))) : Fixed H ms (k + 1) Hk := by
  refine ⟨h.len, fun j h1 => ?_, fun j h1 => h.stay j (by omega)⟩
  by_cases e : j = k
  · subst e; rw [h.stay j (Nat.le_refl _)]; exact hs
  · exact h.did j (by omega)
theorem Fixed.set {H : Hp} {ms : List Bool} {k p : Nat} {c : Cl} {Hk : Hp} (h : Fixed H ms k Hk) (hs : H[k]? = some (some (p, c))) : Fixed H ms (k + 1) (Hk.set k (some (p, c.fix ms))) := by
  have hkl : k < Hk.length := by rw [h.len]; exact (List.getElem?_eq_some_iff.1 hs).1
  refine ⟨by rw [List.length_set]; exact h.len, fun j h1 => ?_, fun j h1 => ?_⟩
  · by_cases e : k = j
    · subst e; rw [List.getElem?_set_self hkl, hs]; rfl
    · rw [List.getElem?_set_ne e]; exact h.did j (by omega)
  · rw [List.getElem?_set_ne (by omega)]; exact h.stay j (by omega)
end Go.Proofs.Ytfdfjogoiagnkaa
namespace Go.Proofs.Ytfdfjogoiagnkaa
open Go.RowKit
set_option maxRecDepth 100000

structure Coll (H : Hp) (s : HSt) (rs : List Int) (H2 : Hp) (s2 : HSt) (fr : List Int) (ms : List Bool) : Prop where
  ok : HOk H2 s2
  len : H2.length = H.length
  mlen : ms.length = H.length
  mark : ∀ i : Nat, ms[i]? = some true ↔ Reach H rs i
  at_ : ∀ i, atH H2 i = if ms[i]? = some true then (atH H i).map (fun x => (x.1, x.2.fix ms)) else none
  live : s2.live = s.live - fr.length
  limit : s2.limit = s.limit
  freed : s2.freed = s.freed + fr.length
  runs : s2.runs = s.runs + 1
  mem : ∀ n : Int, n ∈ fr ↔ ∃ j : Nat, n = j ∧ Hp.has H j ∧ ms[j]? ≠ some true
  nodup : fr.Nodup
theorem Coll.of {H : Hp} {s : HSt} {rs : List Int} {H1 H2 : Hp} {fr : List Int} {ms : List Bool} (ho : HOk H s) (hl : ms.length = H.length) (hm : ∀ i : Nat, ms[i]? = some true ↔ Reach H rs i) (hs : Swept H ms H.length H1 fr) (hf : Fixed H1 ms H.length H2) :
    Coll H s rs H2 ⟨s.fr ++ fr, s.live - fr.length, s.limit, s.freed + fr.length, s.runs + 1⟩ fr ms := by
  have h12 : H2 = H1.map (Option.map fun x => (x.1, x.2.fix ms)) := by
    refine List.ext_getElem? fun j => ?_
    rw [List.getElem?_map]
    rcases Nat.lt_or_ge j H.length with h | h
    · exact hf.did j h
    · rw [List.getElem?_eq_none (by rw [hf.len, hs.len]; exact h), List.getElem?_eq_none (by rw [hs.len]; exact h)]; rfl
  have hcnt : H2.countP (·.isSome) = H1.countP (·.isSome) := by
    rw [h12, List.countP_map]
    congr 1
    funext x
    cases x <;> rfl
  have hlen : H2.length = H.length := hf.len.trans hs.len
  have hmem : ∀ n : Int, n ∈ fr ↔ ∃ j : Nat, n = j ∧ Hp.has H j ∧ ms[j]? ≠ some true := fun n => by
    rw [hs.mem]
    constructor
    · rintro ⟨j, h1, -, h3, h4⟩; exact ⟨j, h1, h3, h4⟩
    · rintro ⟨j, h1, h3, h4⟩; exact ⟨j, h1, Hp.has_lt h3, h3, h4⟩
  have hat : ∀ i, atH H2 i = if ms[i]? = some true then (atH H i).map (fun x => (x.1, x.2.fix ms)) else none := fun i => by
    have e2 : atH H2 i = (atH H1 i).map (fun x => (x.1, x.2.fix ms)) := by
      unfold atH
      rw [h12, List.getElem?_map]
      cases H1[i]? with
      | none => rfl
      | some x => cases x <;> rfl
    rw [e2]
    split
    · rename_i h
      unfold atH
      rw [hs.stay i (.inr (.inl h))]
    · rename_i h
      by_cases hh : Hp.has H i
      · unfold atH
        rw [hs.gone i (Hp.has_lt hh) hh h]; rfl
      · have e := hs.stay i (.inr (.inr hh))
        have : atH H1 i = none := by
          unfold atH
          rw [e]
          cases hx : H[i]? with
          | none => rfl
          | some x =>
            cases x with
            | none => rfl
            | some y => exact absurd ⟨y, hx⟩ hh
        rw [this]; rfl
  have hc := hs.cnt
  have hlv := ho.live
  refine ⟨⟨ho.lim, ?_, ?_, ?_, ?_, fun i => ?_⟩, hlen, hl, hm, hat, rfl, rfl, rfl, rfl, hmem, hs.nodup⟩
  · show s.live - fr.length = _
    rw [hcnt]; omega
  · show s.live - fr.length ≤ s.limit
    have := ho.full; omega
  · show (H2.length : Int) ≤ s.limit
    rw [hlen]; exact ho.len
  · show (s.fr ++ fr).Nodup
    rw [List.nodup_append]
    refine ⟨ho.nodup, hs.nodup, fun a ha b hb e => ?_⟩
    subst e
    obtain ⟨n, rfl, hn⟩ := (ho.free a).1 ha
    obtain ⟨j, h1, ⟨x, hx⟩, -⟩ := (hmem _).1 hb
    obtain rfl : n = j := by omega
    rw [hn] at hx; cases hx
  · show i ∈ s.fr ++ fr ↔ _
    rw [List.mem_append, ho.free, hmem]
    have key : ∀ n : Nat, H2[n]? = some none ↔ H1[n]? = some none := fun n => by
      rw [h12, List.getElem?_map]
      cases H1[n]? with
      | none => simp
      | some x => cases x <;> simp
    constructor
    · rintro (⟨n, rfl, hn⟩ | ⟨j, rfl, h3, h4⟩)
      · exact ⟨n, rfl, (key n).2 (by rw [hs.stay n (.inr (.inr (fun ⟨x, hx⟩ => by rw [hn] at hx; cases hx)))]; exact hn)⟩
      · exact ⟨j, rfl, (key j).2 (hs.gone j (Hp.has_lt h3) h3 h4)⟩
    · rintro ⟨n, rfl, hn⟩
      have h1 := (key n).1 hn
      by_cases hh : Hp.has H n ∧ ms[n]? ≠ some true
      · exact .inr ⟨n, rfl, hh.1, hh.2⟩
      · refine .inl ⟨n, rfl, ?_⟩
        rw [← hs.stay n ?_]
        · exact h1
        · by_cases h2 : Hp.has H n
          · exact .inr (.inl (Classical.byContradiction fun h3 => hh ⟨h2, h3⟩))
          · exact .inr (.inr h2)
section
variable {w : World} {F : Nat → Prop} {hb : Nat} {H : List (Option (Nat × Cl))} {s : HSt}
end
end Go.Proofs.Ytfdfjogoiagnkaa
namespace Go.Proofs.Ytfdfjogoiagnkaa
open Go.RowKit
set_option maxRecDepth 100000

section
variable {w : World} {F : Nat → Prop} {hb : Nat} {H : Hp} {s : HSt} {i p : Nat} {c : Cl}
theorem held_list (h : IsHeap w F hb H s) (hi : H[i]? = some (some (p, c))) {b : Nat} {xs : List V} (hc : c.list = some (b, xs)) :
    ∃ Fl, w.cell? ⟨p, 2, none⟩ = some (.pointer (some ⟨b, 0, none⟩)) ∧ p < w.heap.size ∧ IsList w Fl b xs ∧ (∀ k, Fl k → F k) ∧ ∀ (w1 : World) (F' : Nat → Prop) (ys : List V), Keeps Fl w w1 → IsList w1 F' b ys → Fresh Fl F' w → ys.length ≤ 1048576 →
      ∃ F2, IsHeap w1 F2 hb (H.set i (some (p, { c with list := some (b, ys) }))) s ∧ Keeps F w w1 ∧ Fresh F F2 w := by
  obtain ⟨Fam, vc, vf, hX⟩ := h
  obtain ⟨G, vv, vn, lp, tp, hC⟩ := hX.each i p c hi
  have hl := hC.list
  rw [hc] at hl
  obtain ⟨rfl, hl⟩ := hl
  refine ⟨G 1, ?_, blk_lt hC.blk, hl, fun k hk => hX.sub _ k (hC.sub 1 k hk), fun w1 F' ys hk h1 hf hs => ?_⟩
  · have := blk_cell hC.blk 2
    simpa using this
  · obtain ⟨g1, g2, g3⟩ := hC.setList (xs := xs) hk h1 hf hs
    obtain ⟨r1, r2, r3⟩ := hX.setCell hi g2 g1 g3
    exact ⟨_, ⟨_, _, _, r1⟩, r2, r3⟩
theorem HOk.turn (h : HOk H s) (hi : H[i]? = some (some (p, c))) (x : Nat × Cl) : HOk (H.set i (some x)) s := by
  have hil := (List.getElem?_eq_some_iff.1 hi).1
  have hie := (List.getElem?_eq_some_iff.1 hi).2
  refine ⟨h.lim, ?_, h.full, by rw [List.length_set]; exact h.len, h.nodup, fun n => ?_⟩
  · rw [h.live, List.countP_set hil, hie]
    have : 0 < H.countP (·.isSome) := List.countP_pos_iff.2 ⟨_, List.getElem_mem hil, by rw [hie]; rfl⟩
    simp
    omega
  · rw [h.free]
    constructor
    · rintro ⟨m, rfl, hm⟩
      refine ⟨m, rfl, ?_⟩
      rw [List.getElem?_set_ne (fun e => by subst e; rw [hi] at hm; cases hm)]
      exact hm
    · rintro ⟨m, rfl, hm⟩
      refine ⟨m, rfl, ?_⟩
      by_cases e : i = m
      · subst e; rw [List.getElem?_set_self hil] at hm; cases hm
      · rw [List.getElem?_set_ne e] at hm; exact hm
end
end Go.Proofs.Ytfdfjogoiagnkaa
namespace Go.Proofs.Ytfdfjogoiagnkaa
open Go.RowKit
set_option maxRecDepth 100000

def iV (n : Int) : V := ⟨2, n, ⟨#[]⟩⟩
def rV (n : Int) : V := ⟨4, n, ⟨#[]⟩⟩
section
variable {w : World} {F : Nat → Prop} {hb : Nat} {H : List (Option (Nat × Cl))} {s : HSt} {i p : Nat} {c : Cl}
theorem CellX.setVals {w1 : World} {G : Nat → Nat → Prop} {vv vn : Value} {lp tp : Option Addr} {ys : List V} (h : CellX w p F c G vv vn lp tp) (hk : Keeps (G 0) w w1) (hl : ys.length = c.vals.length) (hr : Row w1 (G 0) 26 3 vv ys.length (flat ys)) :
    CellX w1 p F { c with vals := ys } G vv vn lp tp :=
  ⟨hk.heap h.blk (h.off 0), h.here, h.sub, h.off, h.ap, hr, h.list.keeps hk (h.ap 1 0 (by decide)), h.tab.keeps hk (h.ap 2 0 (by decide)), h.nums.keeps hk (h.ap 3 0 (by decide)), h.inw.keeps hk, ⟨by rw [show ({ c with vals := ys } : Cl).vals.length = ys.length from rfl, hl]; exact h.small.vals, h.small.nums, h.small.list, h.small.tab⟩⟩
theorem held_vals (h : IsHeap w F hb H s) (hi : H[i]? = some (some (p, c))) :
    ∃ (Fv : Nat → Prop) (A : Option Addr) (cap : Nat) (lp tp An : Option Addr) (cn : Nat), w.heap[p]? = some (.cells #[.int .i64 c.kind, .slice A c.vals.length cap, .pointer lp, .pointer tp, .slice An c.nums.length cn, .string c.text] 41 (0, 0)) ∧ F p ∧ ¬ Fv p ∧ (∀ k, Fv k → F k) ∧
      Row w Fv 26 3 (.slice A c.vals.length cap) c.vals.length (flat c.vals) ∧ Row w F 2 1 (.slice An c.nums.length cn) c.nums.length (intCells c.nums) ∧
      ∀ (w1 : World) (ys : List V), Keeps Fv w w1 → ys.length = c.vals.length → Row w1 Fv 26 3 (.slice A c.vals.length cap) c.vals.length (flat ys) →
        ∃ F2, IsHeap w1 F2 hb (H.set i (some (p, { c with vals := ys }))) s ∧ Keeps F w w1 ∧ Fresh F F2 w := by
  obtain ⟨Fam, vc, vf, hX⟩ := h
  obtain ⟨G, vv, vn, lp, tp, hC⟩ := hX.each i p c hi
  obtain ⟨A, cap, rfl⟩ := hC.vals.form
  obtain ⟨An, cn, rfl⟩ := hC.nums.form
  refine ⟨G 0, A, cap, lp, tp, An, cn, hC.blk, hX.sub _ p hC.here, hC.off 0, fun k hk => hX.sub _ k (hC.sub 0 k hk), hC.vals, hC.nums.mono (fun k _ hk => hX.sub _ k (hC.sub 3 k hk)), fun w1 ys hk hl hr => ?_⟩
  have g1 := hC.setVals hk hl (by rw [hl]; exact hr)
  obtain ⟨r1, r2, r3⟩ := hX.setCell hi (hk.mono (T := Fam (i + 3)) (fun k _ hg => hC.sub 0 k hg)) ⟨G, _, _, lp, tp, g1⟩ (Fresh.refl _ _)
  exact ⟨_, ⟨_, _, _, r1⟩, r2, r3⟩
end
structure Hd (w : World) (hb : Nat) (F : Nat → Prop) (H : Hp) (s : HSt) (wr : World) : Prop where
  heap : IsHeap wr F hb H s
  ok : HOk H s
  hF : ∀ k, F k → w.heap.size ≤ k
  K : Keeps (fun k => w.heap.size ≤ k) w wr
section
variable {w wr wj : World} {hb : Nat} {F F' F0 : Nat → Prop} {H H' : Hp} {s s' : HSt}
theorem Hd.calm (h : Hd w hb F H s wr) (hk : Keeps (fun _ => False) wr wj) : Hd w hb F H s wj := ⟨h.heap.calm hk, h.ok, h.hF, h.K.trans hk (fun _ _ h => h.elim)⟩
theorem Hd.other {S : Nat → Prop} (h : Hd w hb F H s wr) (hk : Keeps S wr wj) (hn : Apart F S) (hS : ∀ k, S k → w.heap.size ≤ k) : Hd w hb F H s wj := ⟨h.heap.keeps hk hn, h.ok, h.hF, h.K.trans hk (fun k _ h => hS k h)⟩
theorem Hd.made {i p : Nat} {c : Cl} (h : Hd w hb F H s wr) (hm : Made wr wj F F0 hb H s c i p F' H' s') (h0 : ∀ k, F0 k → w.heap.size ≤ k) : Hd w hb F' H' s' wj :=
  ⟨hm.heap, hm.ok, fun k hk => (hm.fresh k hk).elim (fun h1 => h1.elim (h.hF k) (h0 k)) (fun h1 => Nat.le_trans h.K.size h1), h.K.trans hm.keeps (fun k _ h1 => h.hF k h1)⟩
end
structure Vr (F : Nat → Prop) (w : World) (v : Nat) (x : V) : Prop where
  var : IsVar w v x
  off : ¬ F v
theorem Vr.calm {F : Nat → Prop} {w w1 : World} {v : Nat} {x : V} (h : Vr F w v x) (hk : Keeps (fun _ => False) w w1) : Vr F w1 v x := ⟨h.var.keeps hk (fun h => h), h.off⟩
theorem Vr.step {F F' : Nat → Prop} {w w1 : World} {v : Nat} {x : V} (h : Vr F w v x) (hk : Keeps F w w1) (hf : Fresh F F' w) : Vr F' w1 v x :=
  ⟨h.var.keeps hk h.off, fun h1 => (hf v h1).elim h.off (fun h2 => Nat.lt_irrefl _ (Nat.lt_of_lt_of_le (blk_lt h.var) h2))⟩
theorem Vr.new {F : Nat → Prop} {w : World} (x : V) (hF : In F w) : Vr F (w.alloc (.cells #[.int .i64 x.k, .int .i64 x.n, .string x.t] 26)) w.heap.size x := ⟨IsVar.new w x, fun h => Nat.lt_irrefl _ (hF _ h)⟩
theorem Vr.cells {F : Nat → Prop} {w : World} {v : Nat} {x : V} (h : Vr F w v x) : w.cell? ⟨v, 0, none⟩ = some (.int .i64 x.k) ∧ w.cell? ⟨v, 1, none⟩ = some (.int .i64 x.n) ∧ w.cell? ⟨v, 2, none⟩ = some (.string x.t) ∧ v < w.heap.size :=
  ⟨h.var.cells.1, h.var.cells.2.1, h.var.cells.2.2.1, blk_lt h.var⟩
section
variable {H H' : Hp} {i j : Nat} {x y : Nat × Cl}
theorem NewAt.at_ (h : NewAt H H' i x) : H'[i]? = some (some x) := atH_some.1 h.here
theorem NewAt.ne (h : NewAt H H' i x) (hj : H[j]? = some (some y)) : j ≠ i := fun e => by
  have h1 := atH_some.2 hj
  rw [e, h.was] at h1; cases h1
theorem NewAt.old (h : NewAt H H' i x) (hj : H[j]? = some (some y)) : H'[j]? = some (some y) := atH_some.1 ((h.else_ j (h.ne hj)).trans (atH_some.2 hj))
end
theorem Made.fr {w w' : World} {F : Nat → Prop} {hb : Nat} {H : List (Option (Nat × Cl))} {s : HSt} {c : Cl} {i p : Nat} {F' : Nat → Prop} {H' : List (Option (Nat × Cl))} {s' : HSt} (h : Made w w' F (fun _ => False) hb H s c i p F' H' s') : Fresh F F' w := fun k hk => (h.fresh k hk).imp (fun h => h.elim id (fun h => h.elim)) id
def tabH (H : Hp) (i p : Nat) (c : Cl) (tb : Nat) (q : List Ent × Int) : Hp := H.set i (some (p, { c with tab := some (tb, q.1, q.2) }))
section
variable {H : Hp} {i j p tb : Nat} {c : Cl} {q : List Ent × Int} {y : Nat × Cl}
theorem tabH_at (hi : H[i]? = some (some (p, c))) : (tabH H i p c tb q)[i]? = some (some (p, { c with tab := some (tb, q.1, q.2) })) := by
  have hil := (List.getElem?_eq_some_iff.1 hi).1
  unfold tabH
  rw [List.getElem?_set_self hil]
theorem Hd.turn {w wr wj : World} {hb : Nat} {F F' : Nat → Prop} {s : HSt} (h : Hd w hb F H s wr) (hi : H[i]? = some (some (p, c))) (hh : IsHeap wj F' hb (tabH H i p c tb q) s) (hk : Keeps F wr wj) (hf : Fresh F F' wr) : Hd w hb F' (tabH H i p c tb q) s wj :=
  ⟨hh, h.ok.turn hi _, fun k hk' => (hf k hk').elim (h.hF k) (fun h1 => Nat.le_trans h.K.size h1), h.K.trans hk (fun k _ h1 => h.hF k h1)⟩
end
end Go.Proofs.Ytfdfjogoiagnkaa
namespace Go.Proofs.Ytfdfjogoiagnkaa
open Go.RowKit
set_option maxRecDepth 100000

def classCl (tb : Nat) (L : List Ent) (sr : Int) (b : V) : Cl := ⟨3, [b], none, some (tb, L, sr), [], ⟨#[]⟩⟩
def instCl (tb : Nat) (L : List Ent) (sr : Int) (b : V) : Cl := ⟨4, [b], none, some (tb, L, sr), [], ⟨#[]⟩⟩
def ofR (H : Hp) (v : V) (kind : Int) : Option Addr × Int :=
  if v.k = 4 then
    if v.n < 0 ∨ (H.length : Int) ≤ v.n then (none, 1)
    else match atH H v.n.toNat with
      | none => (none, 41)
      | some (p, c) => if kind = 0 ∨ c.kind = kind then (some ⟨p, 0, none⟩, 0) else (none, 30)
  else (none, 30)
section
variable {w : World} {F : Nat → Prop} {hb : Nat} {H : List (Option (Nat × Cl))} {s : HSt} {i p : Nat} {c : Cl}
theorem ofR_ok (hi : H[i]? = some (some (p, c))) (t : ByteArray) {kind : Int} (hk : kind = 0 ∨ c.kind = kind) : ofR H ⟨4, i, t⟩ kind = (some ⟨p, 0, none⟩, 0) := by
  have hil := (List.getElem?_eq_some_iff.1 hi).1
  unfold ofR
  rw [if_pos rfl, if_neg (by simp only; omega)]
  simp only [Int.toNat_natCast]
  rw [atH_some.2 hi]
  simp only
  rw [if_pos hk]
theorem ofR_kind (hi : H[i]? = some (some (p, c))) (t : ByteArray) {kind : Int} (h0 : kind ≠ 0) (hk : c.kind ≠ kind) : ofR H ⟨4, i, t⟩ kind = (none, 30) := by
  have hil := (List.getElem?_eq_some_iff.1 hi).1
  unfold ofR
  rw [if_pos rfl, if_neg (by simp only; omega)]
  simp only [Int.toNat_natCast]
  rw [atH_some.2 hi]
  simp only
  rw [if_neg (fun h => h.elim h0 hk)]
theorem ofR_type {v : V} (hk : v.k ≠ 4) (kind : Int) : ofR H v kind = (none, 30) := by unfold ofR; rw [if_neg hk]
theorem heap_Of (h : IsHeap w F hb H s) (v : V) (kind : Int) :
    Calls Try.prog 24 #[.pointer (some ⟨hb, 0, none⟩), v.val, .int .i64 kind] w fun e w' => e = .returned (.tuple #[.pointer (ofR H v kind).1, .int .i64 (ofR H v kind).2]) ∧ Keeps (fun _ => False) w w' := by
  obtain ⟨k, n, t⟩ := v
  by_cases hk : k = 4
  · subst hk
    by_cases hn : n < 0 ∨ (H.length : Int) ≤ n
    · have e : ofR H ⟨4, n, t⟩ kind = (none, 1) := by unfold ofR; rw [if_pos rfl, if_pos hn]
      rw [e]
      exact heap_Of_none h kind t hn
    · obtain ⟨j, rfl⟩ : ∃ j : Nat, n = j := ⟨n.toNat, by omega⟩
      cases hat : H[j]? with
      | none => rw [List.getElem?_eq_none_iff] at hat; omega
      | some o =>
        cases o with
        | none =>
          have e : ofR H ⟨4, j, t⟩ kind = (none, 41) := by
            unfold ofR
            rw [if_pos rfl, if_neg hn]
            simp only [Int.toNat_natCast, atH, hat, Option.join_some]
          rw [e]
          exact heap_Of_freed h kind t hat
        | some x =>
          obtain ⟨p, c⟩ := x
          by_cases hkk : kind = 0 ∨ c.kind = kind
          · rw [ofR_ok hat t hkk]; exact heap_Of_ok h hat kind t hkk
          · simp only [not_or] at hkk
            rw [ofR_kind hat t hkk.1 hkk.2]; exact heap_Of_kind h hat kind t hkk.1 hkk.2
  · rw [ofR_type hk]; exact heap_Of_type w hb ⟨k, n, t⟩ kind hk
theorem held_cell (h : IsHeap w F hb H s) (hi : H[i]? = some (some (p, c))) :
    ∃ (A : Option Addr) (cap : Nat) (lp tp An : Option Addr) (cn : Nat), w.heap[p]? = some (.cells #[.int .i64 c.kind, .slice A c.vals.length cap, .pointer lp, .pointer tp, .slice An c.nums.length cn, .string c.text] 41 (0, 0)) ∧
      Vals w A c.vals ∧ Ints w An c.nums ∧ (∀ tb L sr, c.tab = some (tb, L, sr) → tp = some ⟨tb, 0, none⟩) ∧ (c.tab = none → tp = none) ∧ (c.list = none → lp = none) ∧ (A = none → c.vals = []) ∧ (An = none → c.nums = []) := by
  obtain ⟨Fam, vc, vf, hX⟩ := h
  obtain ⟨G, vv, vn, lp, tp, hC⟩ := hX.each i p c hi
  obtain ⟨A, cap, rfl⟩ := hC.vals.form
  obtain ⟨An, cn, rfl⟩ := hC.nums.form
  have h1 := Vals.own hC.vals.1
  have h2 := Ints.own hC.nums.1
  refine ⟨A, cap, lp, tp, An, cn, hC.blk, h1, h2, fun tb L sr e => ?_, fun e => ?_, fun e => ?_, fun e => ?_, fun e => ?_⟩
  · have := hC.tab; rw [e] at this; exact this.1
  · have := hC.tab; rw [e] at this; exact this
  · have := hC.list; rw [e] at this; exact this
  · cases hv : c.vals with
    | nil => rfl
    | cons x l => obtain ⟨b, o, e2, _⟩ := h1 0 x (by rw [hv]; rfl); rw [e] at e2; cases e2
  · cases hv : c.nums with
    | nil => rfl
    | cons x l => obtain ⟨b, o, e2, _⟩ := h2 0 x (by rw [hv]; rfl); rw [e] at e2; cases e2
theorem held_val0 (h : IsHeap w F hb H s) (hi : H[i]? = some (some (p, c))) {b : V} {bs : List V} (hv : c.vals = b :: bs) : ∃ (g o cap : Nat), p < w.heap.size ∧ g < w.heap.size ∧ w.cell? ⟨p, 1, none⟩ = some (.slice (some ⟨g, o, none⟩) (bs.length + 1) cap) ∧
      w.cell? ⟨g, o, none⟩ = some (.int .i64 b.k) ∧ w.cell? ⟨g, o + 1, none⟩ = some (.int .i64 b.n) ∧ w.cell? ⟨g, o + 2, none⟩ = some (.string b.t) := by
  obtain ⟨A, cap, lp, tp, An, cn, hblk, h1, -⟩ := held_cell h hi
  obtain ⟨g, o, rfl, h2, h3, h4⟩ := h1 0 b (by rw [hv]; rfl)
  rw [Nat.zero_mul, Nat.add_zero] at h2 h3 h4
  have := blk_cell hblk 1
  rw [hv] at this
  exact ⟨g, o, cap, blk_lt hblk, World.block_lt_of_cell? w _ h2, this, h2, h3, h4⟩
theorem var2 (w : World) (o : Obj) (v : V) : IsVar ((w.alloc o).alloc (.cells #[.int .i64 v.k, .int .i64 v.n, .string v.t] 26)) (w.heap.size + 1) v := new2t w o _
def methB (H : Hp) (v : V) : Bool := (ofR H v 5).2 == 0 || (ofR H v 6).2 == 0
theorem lay_Method (h : IsHeap w F hb H s) (v : V) :
    Calls Try.prog 22 #[.pointer (some ⟨hb, 0, none⟩), v.val] w fun e w' => e = .returned (.bool (methB H v)) ∧ Keeps (fun _ => False) w w' := by
  have CO := hidden (fun (W : World) (hk' : Keeps (fun _ => False) w W) => heap_Of (h.calm hk') v 5)
  have CP := hidden (fun (W : World) (hk' : Keeps (fun _ => False) w W) => heap_Of (h.calm hk') v 6)
  unfold V.val at CO CP
  unfold methB
  generalize (ofR H v 5).1 = pa at *
  generalize (ofR H v 5).2 = ea at *
  generalize (ofR H v 6).1 = pb at *
  generalize (ofR H v 6).2 = eb at *
  clear h
  obtain ⟨k, n, t⟩ := v
  simp only at CO CP
  refine post_gen fun R hR => ?_
  unfold V.val
  go_enter Try.func22, Try.ntmps22
  go_wp2_with fail
  have HI := hidden (IsVar.new w ⟨k, n, t⟩)
  refine (CO.out _ (by repeat (first | exact Keeps.refl _ _ | refine Keeps.alloc ?_ _))).mono ?_
  rintro e w1 ⟨rfl, hK⟩
  have HM := hidden (((Keeps.refl (fun _ => False) w).alloc _).trans hK (fun _ _ h => h))
  obtain ⟨v0, v1, v2, v3, v4, v5⟩ := (HI.out.keeps hK (fun h => h)).cells
  have hvz := blk_lt (HI.out.keeps hK (fun h => h))
  clear hK CO
  go_wp2_with fail
  refine (CP.out _ HM.out).mono ?_
  rintro e w2 ⟨rfl, hK⟩
  have HM2 := hidden (HM.out.trans hK (fun _ _ h => h))
  clear hK CP HM
  by_cases h1 : ea = 0
  · subst h1
    go_wp2_with fail
    exact hR.out _ _ ⟨rfl, HM2.out⟩
  · have h2 : (ea == 0) = false := by simpa using h1
    rw [h2] at hR
    clear h1
    go_wp2_with fail
    exact hR.out _ _ ⟨rfl, HM2.out⟩
end
end Go.Proofs.Ytfdfjogoiagnkaa
namespace Go.Proofs.Ytfdfjogoiagnkaa
open Go.RowKit
set_option maxRecDepth 100000

def curT (L : List Ent) : Nat → Int
  | 0 => 0
  | k + 1 => (L.getD k (blank 0)).ser
theorem curT_le {L : List Ent} {s : Int} (h : Lok L s) {k : Nat} (hk : k ≤ L.length) {j : Nat} (hj : j < L.length) : (j < k → L[j].ser ≤ curT L k) ∧ (k ≤ j → curT L k < L[j].ser) := by
  cases k with
  | zero => exact ⟨fun h => absurd h (by omega), fun _ => by have := (h.sers L[j] (List.getElem_mem hj)).1; show (0 : Int) < _; omega⟩
  | succ k =>
    have e : (L.getD k (blank 0)) = L[k] := by rw [List.getD_eq_getElem?_getD, List.getElem?_eq_getElem (by omega)]; rfl
    show (j < k + 1 → L[j].ser ≤ (L.getD k (blank 0)).ser) ∧ (k + 1 ≤ j → (L.getD k (blank 0)).ser < L[j].ser)
    rw [e]
    have ha := List.pairwise_iff_getElem.1 h.asc
    refine ⟨fun hjk => ?_, fun hkj => ha k j (by omega) hj (by omega)⟩
    rcases Nat.lt_or_ge j k with h1 | h1
    · exact Int.le_of_lt (ha j k hj (by omega) h1)
    · obtain rfl : j = k := by omega
      exact Int.le_refl _
theorem next_at {L : List Ent} {s : Int} (h : Lok L s) {k : Nat} (hk : k < L.length) : nextT L (curT L k) = some L[k] := by
  rw [nextT, List.find?_eq_some_iff_getElem]
  have h1 := (curT_le h (Nat.le_of_lt hk) hk).2 (Nat.le_refl _)
  refine ⟨by rw [h.live _ (List.getElem_mem hk)]; simpa using h1, k, hk, rfl, fun j hj => ?_⟩
  have := (curT_le h (Nat.le_of_lt hk) (by omega : j < L.length)).1 hj
  simp; exact .inl this
theorem next_end {L : List Ent} {s : Int} (h : Lok L s) : nextT L (curT L L.length) = none := by
  rw [nextT, List.find?_eq_none]
  intro x hx
  obtain ⟨j, hj, rfl⟩ := List.mem_iff_getElem.1 hx
  have := (curT_le h (Nat.le_refl _) hj).1 hj
  simp; intro h2; omega
theorem curT_succ {L : List Ent} {k : Nat} (hk : k < L.length) : curT L (k + 1) = L[k].ser := by
  show (L.getD k (blank 0)).ser = _
  rw [List.getD_eq_getElem?_getD, List.getElem?_eq_getElem hk]; rfl
def Ent.kv (e : Ent) : V × V := (e.key, e.val)
end Go.Proofs.Ytfdfjogoiagnkaa
namespace Go.Proofs.Ytfdfjogoiagnkaa
open Go.RowKit
set_option maxRecDepth 100000

def getR (L : List Ent) (key : V) : V × Int := match L.find? (fun y => decide (y.key = key)) with | none => (V.null, 3) | some x => (x.val, 0)
theorem t_Get {w : World} {F : Nat → Prop} {b : Nat} {L : List Ent} {s : Int} (h : IsT w F b L s) (hs : s < 1073741824) {key : V} (hk : key.t.size ≤ 140737488351232) :
    Calls Try.prog 54 #[.pointer (some ⟨b, 0, none⟩), key.val] w fun e w' => e = .returned (.tuple #[(getR L key).1.val, .int .i64 (getR L key).2]) ∧ Keeps (fun _ => False) w w' := by
  unfold getR
  cases hf : L.find? (fun y => decide (y.key = key)) with
  | none =>
    have h1 := List.find?_eq_none.1 hf
    exact t_Get_none h hs hk (fun x hx e => h1 x hx (by simpa using e))
  | some x =>
    obtain ⟨h1, -⟩ := List.find?_eq_some_iff_append.1 hf
    have e : x.key = key := by simpa using h1
    have := t_Get_some h hs (List.mem_of_find?_eq_some hf)
    rw [e] at this
    exact this
section
variable {w : World} {F : Nat → Prop} {hb : Nat} {H : List (Option (Nat × Cl))} {s : HSt} {i p : Nat} {c : Cl}
theorem held_tab2 (h : IsHeap w F hb H s) (hi : H[i]? = some (some (p, c))) {tb : Nat} {L : List Ent} {sr : Int} (hc : c.tab = some (tb, L, sr)) :
    ∃ Ft, IsT w Ft tb L sr ∧ w.cell? ⟨p, 3, none⟩ = some (.pointer (some ⟨tb, 0, none⟩)) ∧ p < w.heap.size ∧ ¬ Ft p ∧ F p ∧ (∀ k, Ft k → F k) ∧ ∀ (w1 : World) (F' : Nat → Prop) (L' : List Ent) (sr' : Int), Keeps Ft w w1 → IsT w1 F' tb L' sr' → Fresh Ft F' w → sr' < 1073741000 →
      ∃ F2, IsHeap w1 F2 hb (H.set i (some (p, { c with tab := some (tb, L', sr') }))) s ∧ Keeps F w w1 ∧ Fresh F F2 w := by
  obtain ⟨Fam, vc, vf, hX⟩ := h
  obtain ⟨G, vv, vn, lp, tp, hC⟩ := hX.each i p c hi
  have ht := hC.tab
  rw [hc] at ht
  obtain ⟨rfl, ht⟩ := ht
  refine ⟨G 2, ht, blk_cell hC.blk 3, blk_lt hC.blk, hC.off 2, hX.sub _ p hC.here, fun k hk => hX.sub _ k (hC.sub 2 k hk), fun w1 F' L' sr' hk h1 hf hs => ?_⟩
  obtain ⟨g1, g2, g3⟩ := hC.setTab hk h1 hf hs
  obtain ⟨r1, r2, r3⟩ := hX.setCell hi g2 g1 g3
  exact ⟨_, ⟨_, _, _, r1⟩, r2, r3⟩
theorem new3 (w : World) (o o1 o2 : Obj) : (((w.alloc o).alloc o1).alloc o2).heap[w.heap.size + 1]? = some o1 := by
  have h := blk_alloc (blk_alloc (blk_new (w.alloc o) o1) o2)
  exact (blk_alloc (new2t w o o1) o2)
theorem new3b (w : World) (o o1 o2 : Obj) : (((w.alloc o).alloc o1).alloc o2).heap[w.heap.size + 2]? = some o2 := by
  have := blk_new ((w.alloc o).alloc o1) o2
  simpa using this
set_option maxHeartbeats 4000000 in
theorem lay_Member (h : IsHeap w F hb H s) (hi : H[i]? = some (some (p, c))) (hk : c.kind = 3) {tb : Nat} {L : List Ent} {sr : Int} (hc : c.tab = some (tb, L, sr)) (hs : sr < 1073740000) (t : ByteArray) (key val : V) (h0 : key.k ≠ 0) (hkz : key.t.size ≤ 140737488351232) (hl : L.length < 1048576) :
    Calls Try.prog 19 #[.pointer (some ⟨hb, 0, none⟩), V.val ⟨4, i, t⟩, key.val, val.val] w fun e w' => ∃ F', e = .returned (.int .i64 0) ∧ IsHeap w' F' hb (tabH H i p c tb (putE L sr key val)) s ∧ Keeps F w w' ∧ Fresh F F' w := by
  have CO := hidden (fun (W : World) (hk' : Keeps (fun _ => False) w W) => heap_Of_ok (h.calm hk') hi 3 t (.inr hk))
  unfold V.val at CO
  have hin := hidden h.inw
  have CP := hidden (fun (W : World) (hk' : Keeps (fun _ => False) w W) => show ∃ Ft : Nat → Prop, W.cell? ⟨p, 3, none⟩ = some (.pointer (some ⟨tb, 0, none⟩)) ∧ p < W.heap.size ∧ ¬ Ft p ∧ (∀ k, Ft k → F k) ∧ Calls Try.prog 30 #[.pointer (some ⟨tb, 0, none⟩), key.val, val.val] W fun e w' => ∃ F' : Nat → Prop, e = .returned (.int .i64 0) ∧ IsHeap w' F' hb (tabH H i p c tb (putE L sr key val)) s ∧ Keeps Ft W w' ∧ Fresh F F' W from by
    obtain ⟨Ft, h1, h2, h3, h4, h5, h6, h7⟩ := held_tab2 (h.calm hk') hi hc
    refine ⟨Ft, h2, h3, h4, h6, (t_Put h1 (by omega) val h0 hkz hl).mono ?_⟩
    rintro e w' ⟨F', rfl, g1, g2, g3⟩
    have hz := (putE_len L sr key val).2
    obtain ⟨F2, r1, r2, r3⟩ := h7 w' F' _ _ g2 g1 g3 (by omega)
    exact ⟨F2, rfl, r1, g2, r3⟩)
  clear h hi hk hc
  obtain ⟨kk, kn, kt⟩ := key
  obtain ⟨vk, vn, vt⟩ := val
  generalize tabH H i p c tb (putE L sr ⟨kk, kn, kt⟩ ⟨vk, vn, vt⟩) = H' at *
  refine post_gen fun R hR => ?_
  unfold V.val at CP ⊢
  go_enter Try.func19, Try.ntmps19
  go_wp2_with fail
  refine (CO.out _ (by repeat (first | exact Keeps.refl _ _ | refine Keeps.alloc ?_ _))).mono ?_
  rintro e w1 ⟨rfl, hK⟩
  have HM := hidden (((((Keeps.refl (fun _ => False) w).alloc _).alloc _).alloc _).trans hK (fun _ _ h => h))
  have HV1 := hidden (show IsVar w1 (w.heap.size + 1) ⟨kk, kn, kt⟩ from hK.heap (new3 w _ _ _) (fun h => h))
  have HV2 := hidden (show IsVar w1 (w.heap.size + 2) ⟨vk, vn, vt⟩ from hK.heap (new3b w _ _ _) (fun h => h))
  clear hK CO
  obtain ⟨Ft, -, -, hnp, hsub, -⟩ := CP.out _ HM.out
  go_wp2_with fail
  have SK := hidden (fun (W : World) (hk' : Keeps (fun _ => False) w1 W) => show W.cell? ⟨p, 3, none⟩ = some (.pointer (some ⟨tb, 0, none⟩)) ∧ W.cell? ⟨w.heap.size + 1, 0, none⟩ = some (.int .i64 kk) ∧ W.cell? ⟨w.heap.size + 1, 1, none⟩ = some (.int .i64 kn) ∧ W.cell? ⟨w.heap.size + 1, 2, none⟩ = some (.string kt) ∧ W.cell? ⟨w.heap.size + 2, 0, none⟩ = some (.int .i64 vk) ∧ W.cell? ⟨w.heap.size + 2, 1, none⟩ = some (.int .i64 vn) ∧ W.cell? ⟨w.heap.size + 2, 2, none⟩ = some (.string vt) from by
    obtain ⟨_, a, -⟩ := CP.out _ (HM.out.trans hk' (fun _ _ h => h))
    obtain ⟨b0, b1, b2, -⟩ := (HV1.out.keeps hk' (fun h => h)).cells
    obtain ⟨c0, c1, c2, -⟩ := (HV2.out.keeps hk' (fun h => h)).cells
    exact ⟨a, b0, b1, b2, c0, c1, c2⟩)
  have CPP := hidden (fun (W : World) (hk' : Keeps (fun _ => False) w1 W) => show Calls Try.prog 30 #[.pointer (some ⟨tb, 0, none⟩), .agg #[.int .i64 kk, .int .i64 kn, .string kt], .agg #[.int .i64 vk, .int .i64 vn, .string vt]] W fun e w' => e = .returned (.int .i64 0) ∧ (∃ F' : Nat → Prop, IsHeap w' F' hb H' s ∧ Keeps F w w' ∧ Fresh F F' w) ∧ (W.cell? ⟨p, 3, none⟩ = some (.pointer (some ⟨tb, 0, none⟩)) → w'.cell? ⟨p, 3, none⟩ = some (.pointer (some ⟨tb, 0, none⟩))) ∧ Keeps F W w' from by
    have hkk := HM.out.trans hk' (fun _ _ h => h)
    obtain ⟨Fu, -, -, g3, g4, g5⟩ := CP.out _ hkk
    refine g5.mono ?_
    rintro e w' ⟨F', rfl, r1, r2, r3⟩
    exact ⟨rfl, ⟨F', r1, (hkk.mono (T := F) (fun _ _ h => h.elim)).trans r2 (fun k _ h => g4 k h), fun k h => (r3 k h).imp id (fun h => Nat.le_trans hkk.size h)⟩, fun e => r2.cell e g3, r2.mono (fun k _ h => g4 k h)⟩)
  have NB1 : ¬ F (w.heap.size + 1) := fun h => by have := hin.out _ h; omega
  have NB2 : ¬ F (w.heap.size + 2) := fun h => by have := hin.out _ h; omega
  clear CP HV1 HV2 hnp hsub
  go_region_held3 (fun W => W.cell? ⟨p, 3, none⟩ = some (.pointer (some ⟨tb, 0, none⟩)) ∧ W.cell? ⟨w.heap.size + 1, 0, none⟩ = some (.int .i64 kk) ∧ W.cell? ⟨w.heap.size + 1, 1, none⟩ = some (.int .i64 kn) ∧ W.cell? ⟨w.heap.size + 1, 2, none⟩ = some (.string kt) ∧ W.cell? ⟨w.heap.size + 2, 0, none⟩ = some (.int .i64 vk) ∧ W.cell? ⟨w.heap.size + 2, 1, none⟩ = some (.int .i64 vn) ∧ W.cell? ⟨w.heap.size + 2, 2, none⟩ = some (.string vt)) (first | exact SE.out | exact SK.out _ (Keeps.refl _ _) | exact SK.out _ ((Keeps.refl _ w1).drewN _)) (first | (go_at_call 30; refine (CPP.out _ ((Keeps.refl _ w1).drewN _)).mono ?_; rintro e w2 ⟨rfl, h1, h2, h3⟩; have G1 := hidden h1; have s0 := SK.out _ ((Keeps.refl _ w1).drewN 1); have SE := hidden (show w2.cell? ⟨p, 3, none⟩ = some (.pointer (some ⟨tb, 0, none⟩)) ∧ w2.cell? ⟨w.heap.size + 1, 0, none⟩ = some (.int .i64 kk) ∧ w2.cell? ⟨w.heap.size + 1, 1, none⟩ = some (.int .i64 kn) ∧ w2.cell? ⟨w.heap.size + 1, 2, none⟩ = some (.string kt) ∧ w2.cell? ⟨w.heap.size + 2, 0, none⟩ = some (.int .i64 vk) ∧ w2.cell? ⟨w.heap.size + 2, 1, none⟩ = some (.int .i64 vn) ∧ w2.cell? ⟨w.heap.size + 2, 2, none⟩ = some (.string vt) from ⟨h2 s0.1, h3.cell s0.2.1 NB1, h3.cell s0.2.2.1 NB1, h3.cell s0.2.2.2.1 NB1, h3.cell s0.2.2.2.2.1 NB2, h3.cell s0.2.2.2.2.2.1 NB2, h3.cell s0.2.2.2.2.2.2 NB2⟩); clear h1 h2 h3 s0))
  obtain ⟨F', r1, r2, r3⟩ := G1.out
  clear SE SK CPP
  go_wp2_with fail
  exact hR.out _ _ ⟨F', rfl, r1, r2, r3⟩
end
end Go.Proofs.Ytfdfjogoiagnkaa
namespace Go.Proofs.Ytfdfjogoiagnkaa
open Go.RowKit
set_option maxRecDepth 100000

section
variable {w : World} {F : Nat → Prop} {hb : Nat} {H : List (Option (Nat × Cl))} {s : HSt} {i p : Nat} {c : Cl}
set_option maxHeartbeats 2000000 in
theorem lay_Find (h : IsHeap w F hb H s) (hi : H[i]? = some (some (p, c))) (hk : c.kind = 3) {tb : Nat} {L : List Ent} {sr : Int} (hc : c.tab = some (tb, L, sr)) (hs : sr < 1073741824) (t : ByteArray) (key : V) (hkz : key.t.size ≤ 140737488351232) :
    Calls Try.prog 21 #[.pointer (some ⟨hb, 0, none⟩), V.val ⟨4, i, t⟩, key.val] w fun e w' => e = .returned (.tuple #[(getR L key).1.val, .int .i64 (getR L key).2]) ∧ Keeps (fun _ => False) w w' := by
  have CO := hidden (fun (W : World) (hk' : Keeps (fun _ => False) w W) => heap_Of_ok (h.calm hk') hi 3 t (.inr hk))
  unfold V.val at CO
  have CG := hidden (fun (W : World) (hk' : Keeps (fun _ => False) w W) => show W.cell? ⟨p, 3, none⟩ = some (.pointer (some ⟨tb, 0, none⟩)) ∧ p < W.heap.size ∧ Calls Try.prog 54 #[.pointer (some ⟨tb, 0, none⟩), key.val] W fun e w' => e = .returned (.tuple #[(getR L key).1.val, .int .i64 (getR L key).2]) ∧ Keeps (fun _ => False) W w' from by
    obtain ⟨Ft, h1, h2, h3, h4, h5, h6, h7⟩ := held_tab2 (h.calm hk') hi hc
    exact ⟨h2, h3, t_Get h1 hs hkz⟩)
  have hpw := (CG.out _ (Keeps.refl _ w)).2.1
  clear h hi hk hc
  generalize getR L key = gg at *
  obtain ⟨⟨gk, gn, gt⟩, ge⟩ := gg
  obtain ⟨kk, kn, kt⟩ := key
  simp only at CG
  refine post_gen fun R hR => ?_
  unfold V.val at CG ⊢
  go_enter Try.func21, Try.ntmps21
  go_wp2_with fail
  refine (CO.out _ (by repeat (first | exact Keeps.refl _ _ | refine Keeps.alloc ?_ _))).mono ?_
  rintro e w1 ⟨rfl, hK⟩
  have HM := hidden (((((Keeps.refl (fun _ => False) w).alloc _).alloc _).alloc _).trans hK (fun _ _ h => h))
  have HV1 := hidden (show IsVar w1 (w.heap.size + 1) ⟨kk, kn, kt⟩ from hK.heap (new3 w _ _ _) (fun h => h))
  have HV2 := hidden (show IsVar w1 (w.heap.size + 2) V.null from hK.heap (new3b w _ _ _) (fun h => h))
  clear hK CO
  go_wp2_with fail
  have SK := hidden (fun (W : World) (hk' : Keeps (fun _ => False) w1 W) => show W.cell? ⟨p, 3, none⟩ = some (.pointer (some ⟨tb, 0, none⟩)) ∧ W.cell? ⟨w.heap.size + 1, 0, none⟩ = some (.int .i64 kk) ∧ W.cell? ⟨w.heap.size + 1, 1, none⟩ = some (.int .i64 kn) ∧ W.cell? ⟨w.heap.size + 1, 2, none⟩ = some (.string kt) from by
    obtain ⟨a, -, -⟩ := CG.out _ (HM.out.trans hk' (fun _ _ h => h))
    obtain ⟨b0, b1, b2, -⟩ := (HV1.out.keeps hk' (fun h => h)).cells
    exact ⟨a, b0, b1, b2⟩)
  have CGG := hidden (fun (W : World) (hk' : Keeps (fun _ => False) w1 W) => (CG.out W (HM.out.trans hk' (fun _ _ h => h))).2.2)
  have hne1 : p ≠ w.heap.size + 2 := by omega
  clear CG HV1
  go_region_held3 (fun W => W.cell? ⟨p, 3, none⟩ = some (.pointer (some ⟨tb, 0, none⟩)) ∧ W.cell? ⟨w.heap.size + 1, 0, none⟩ = some (.int .i64 kk) ∧ W.cell? ⟨w.heap.size + 1, 1, none⟩ = some (.int .i64 kn) ∧ W.cell? ⟨w.heap.size + 1, 2, none⟩ = some (.string kt)) (first | exact SP.out _ _ _ | exact SK.out _ K2.out | exact SK.out _ (Keeps.refl _ _) | exact SK.out _ ((Keeps.refl _ w1).drewN _)) (first | (go_at_call 54; refine (CGG.out _ ((Keeps.refl _ w1).drewN _)).mono ?_; rintro e w2 ⟨rfl, h1⟩; have K2 := hidden (((Keeps.refl (fun _ => False) w1).drewN _).trans h1 (fun _ _ h => h)); have VR := hidden (HV2.out.keeps K2.out (fun h => h)); have SP := hidden (fun (x y z : Value) => show (((w2.setCell ⟨w.heap.size + 2, 0, none⟩ x).setCell ⟨w.heap.size + 2, 1, none⟩ y).setCell ⟨w.heap.size + 2, 2, none⟩ z).cell? ⟨p, 3, none⟩ = some (.pointer (some ⟨tb, 0, none⟩)) ∧ (((w2.setCell ⟨w.heap.size + 2, 0, none⟩ x).setCell ⟨w.heap.size + 2, 1, none⟩ y).setCell ⟨w.heap.size + 2, 2, none⟩ z).cell? ⟨w.heap.size + 1, 0, none⟩ = some (.int .i64 kk) ∧ (((w2.setCell ⟨w.heap.size + 2, 0, none⟩ x).setCell ⟨w.heap.size + 2, 1, none⟩ y).setCell ⟨w.heap.size + 2, 2, none⟩ z).cell? ⟨w.heap.size + 1, 1, none⟩ = some (.int .i64 kn) ∧ (((w2.setCell ⟨w.heap.size + 2, 0, none⟩ x).setCell ⟨w.heap.size + 2, 1, none⟩ y).setCell ⟨w.heap.size + 2, 2, none⟩ z).cell? ⟨w.heap.size + 1, 2, none⟩ = some (.string kt) from (have s0 := SK.out _ K2.out; have kv := (Keeps.refl (fun k => k = w.heap.size + 2) w2).var (r := w.heap.size + 2) (fun _ => rfl) x y z; ⟨kv.cell s0.1 hne1, kv.cell s0.2.1 (by simp), kv.cell s0.2.2.1 (by simp), kv.cell s0.2.2.2 (by simp)⟩)); obtain ⟨v0, v1, v2, v3, v4, v5⟩ := VR.out.cells; have hvz := blk_lt VR.out; simp only [V.null] at v0 v1 v2; clear h1))
  go_wp2_with fail
  obtain ⟨d0, d1, d2, _⟩ := (VR.out.set ⟨gk, gn, gt⟩).cells
  simp only at d0 d1 d2
  exact bodyPost_ret (v := .tuple #[V.val ⟨gk, gn, gt⟩, .int .i64 ge]) (by simp [results, Try.results21, go_sem, d0, d1, d2, V.val]) rfl (hR.out _ _ ⟨rfl, (HM.out.trans K2.out (fun _ _ h => h)).var (r := w.heap.size + 2) (fun h => by omega) _ _ _⟩)
end
end Go.Proofs.Ytfdfjogoiagnkaa
namespace Go.Proofs.Ytfdfjogoiagnkaa
open Go.RowKit
set_option maxRecDepth 100000

section
variable {w : World} {F : Nat → Prop} {hb : Nat} {H : List (Option (Nat × Cl))} {s : HSt} {i p : Nat} {c : Cl}
theorem slot_Delegate_ok (h : IsHeap w F hb H s) (hi : H[i]? = some (some (p, c))) (hk : c.kind = 2) {b : V} {bs : List V} (hv : c.vals = b :: bs) (t : ByteArray) :
    Calls Try.prog 45 #[.pointer (some ⟨hb, 0, none⟩), V.val ⟨4, i, t⟩] w fun e w' => e = .returned (.tuple #[b.val, .int .i64 0]) ∧ Keeps (fun _ => False) w w' := by
  have CO := hidden (fun (W : World) (hk' : Keeps (fun _ => False) w W) => heap_Of_ok (h.calm hk') hi 2 t (.inr hk))
  have HC := hidden (fun (W : World) (hk' : Keeps (fun _ => False) w W) => held_val0 (h.calm hk') hi hv)
  unfold V.val at CO
  clear h hi hk hv
  refine post_gen fun R hR => ?_
  unfold V.val
  go_enter Try.func45, Try.ntmps45
  go_wp2_with fail
  refine (CO.out _ (by repeat (first | exact Keeps.refl _ _ | refine Keeps.alloc ?_ _))).mono ?_
  rintro e w1 ⟨rfl, hK⟩
  have HV := hidden (show IsVar w1 (w.heap.size + 1) V.null from hK.heap (var2 w _ V.null) (fun h => h))
  have HM := hidden ((((Keeps.refl (fun _ => False) w).alloc _).alloc _).trans hK (fun _ _ h => h))
  obtain ⟨g, o, cap, hpz, hgz, y1, q0, q1, q2⟩ := HC.out _ HM.out
  clear hK CO HC
  obtain ⟨v0, v1, v2, v3, v4, v5⟩ := HV.out.cells
  have hvz := blk_lt HV.out
  simp only [V.null] at v0 v1 v2
  go_wp2_with fail
  obtain ⟨d0, d1, d2, _⟩ := (HV.out.set b).cells
  exact bodyPost_ret (v := .tuple #[b.val, .int .i64 0]) (by simp [results, Try.results45, go_sem, d0, d1, d2, V.val]) rfl (hR.out _ _ ⟨rfl, HM.out.var (r := w.heap.size + 1) (fun h => by omega) _ _ _⟩)
set_option maxHeartbeats 4000000 in
theorem slot_New (h : IsHeap w F hb H s) (hi : H[i]? = some (some (p, c))) (hk : c.kind = 2 ∨ c.kind = 3) {tb : Nat} {L : List Ent} {sr : Int} (hc : c.tab = some (tb, L, sr)) (hs : sr < 1073740000) (t : ByteArray) (key val : V) (h0 : key.k ≠ 0) (hkz : key.t.size ≤ 140737488351232) (hl : L.length < 1048576) :
    Calls Try.prog 39 #[.pointer (some ⟨hb, 0, none⟩), V.val ⟨4, i, t⟩, key.val, val.val] w fun e w' => ∃ F', e = .returned (.int .i64 0) ∧ IsHeap w' F' hb (tabH H i p c tb (putE L sr key val)) s ∧ Keeps F w w' ∧ Fresh F F' w := by
  have CO := hidden (fun (W : World) (hk' : Keeps (fun _ => False) w W) => heap_Of_ok (h.calm hk') hi 0 t (.inl rfl))
  unfold V.val at CO
  have hin := hidden h.inw
  have CP := hidden (fun (W : World) (hk' : Keeps (fun _ => False) w W) => show ∃ Ft : Nat → Prop, W.cell? ⟨p, 3, none⟩ = some (.pointer (some ⟨tb, 0, none⟩)) ∧ p < W.heap.size ∧ ¬ Ft p ∧ (∀ k, Ft k → F k) ∧ Calls Try.prog 30 #[.pointer (some ⟨tb, 0, none⟩), key.val, val.val] W fun e w' => ∃ F' : Nat → Prop, e = .returned (.int .i64 0) ∧ IsHeap w' F' hb (tabH H i p c tb (putE L sr key val)) s ∧ Keeps Ft W w' ∧ Fresh F F' W from by
    obtain ⟨Ft, h1, h2, h3, h4, h5, h6, h7⟩ := held_tab2 (h.calm hk') hi hc
    refine ⟨Ft, h2, h3, h4, h6, (t_Put h1 (by omega) val h0 hkz hl).mono ?_⟩
    rintro e w' ⟨F', rfl, g1, g2, g3⟩
    have hz := (putE_len L sr key val).2
    obtain ⟨F2, r1, r2, r3⟩ := h7 w' F' _ _ g2 g1 g3 (by omega)
    exact ⟨F2, rfl, r1, g2, r3⟩)
  have HP := hidden (fun (W : World) (hk' : Keeps (fun _ => False) w W) => show W.cell? ⟨p, 0, none⟩ = some (.int .i64 c.kind) ∧ p < W.heap.size from (by
    obtain ⟨A, cap, lp, tp, An, cn, hblk, -⟩ := held_cell (h.calm hk') hi
    exact ⟨blk_cell hblk 0, blk_lt hblk⟩))
  clear h hi hc
  obtain ⟨kk, kn, kt⟩ := key
  obtain ⟨vk, vn, vt⟩ := val
  generalize tabH H i p c tb (putE L sr ⟨kk, kn, kt⟩ ⟨vk, vn, vt⟩) = H' at *
  refine post_gen fun R hR => ?_
  unfold V.val at CP ⊢
  go_enter Try.func39, Try.ntmps39
  go_wp2_with fail
  refine (CO.out _ (by repeat (first | exact Keeps.refl _ _ | refine Keeps.alloc ?_ _))).mono ?_
  rintro e w1 ⟨rfl, hK⟩
  have HM := hidden (((((Keeps.refl (fun _ => False) w).alloc _).alloc _).alloc _).trans hK (fun _ _ h => h))
  have HV1 := hidden (show IsVar w1 (w.heap.size + 1) ⟨kk, kn, kt⟩ from hK.heap (new3 w _ _ _) (fun h => h))
  have HV2 := hidden (show IsVar w1 (w.heap.size + 2) ⟨vk, vn, vt⟩ from hK.heap (new3b w _ _ _) (fun h => h))
  clear hK CO
  obtain ⟨Ft, -, -, hnp, hsub, -⟩ := CP.out _ HM.out
  obtain ⟨z0, hpz⟩ := HP.out _ HM.out
  generalize c.kind = kd at *
  clear HP
  rcases hk with rfl | rfl
  all_goals
    go_wp2_with fail
    have SK := hidden (fun (W : World) (hk' : Keeps (fun _ => False) w1 W) => show W.cell? ⟨p, 3, none⟩ = some (.pointer (some ⟨tb, 0, none⟩)) ∧ W.cell? ⟨w.heap.size + 1, 0, none⟩ = some (.int .i64 kk) ∧ W.cell? ⟨w.heap.size + 1, 1, none⟩ = some (.int .i64 kn) ∧ W.cell? ⟨w.heap.size + 1, 2, none⟩ = some (.string kt) ∧ W.cell? ⟨w.heap.size + 2, 0, none⟩ = some (.int .i64 vk) ∧ W.cell? ⟨w.heap.size + 2, 1, none⟩ = some (.int .i64 vn) ∧ W.cell? ⟨w.heap.size + 2, 2, none⟩ = some (.string vt) from by
      obtain ⟨_, a, -⟩ := CP.out _ (HM.out.trans hk' (fun _ _ h => h))
      obtain ⟨b0, b1, b2, -⟩ := (HV1.out.keeps hk' (fun h => h)).cells
      obtain ⟨c0, c1, c2, -⟩ := (HV2.out.keeps hk' (fun h => h)).cells
      exact ⟨a, b0, b1, b2, c0, c1, c2⟩)
    have CPP := hidden (fun (W : World) (hk' : Keeps (fun _ => False) w1 W) => show Calls Try.prog 30 #[.pointer (some ⟨tb, 0, none⟩), .agg #[.int .i64 kk, .int .i64 kn, .string kt], .agg #[.int .i64 vk, .int .i64 vn, .string vt]] W fun e w' => e = .returned (.int .i64 0) ∧ (∃ F' : Nat → Prop, IsHeap w' F' hb H' s ∧ Keeps F w w' ∧ Fresh F F' w) ∧ (W.cell? ⟨p, 3, none⟩ = some (.pointer (some ⟨tb, 0, none⟩)) → w'.cell? ⟨p, 3, none⟩ = some (.pointer (some ⟨tb, 0, none⟩))) ∧ Keeps F W w' from by
      have hkk := HM.out.trans hk' (fun _ _ h => h)
      obtain ⟨Fu, -, -, g3, g4, g5⟩ := CP.out _ hkk
      refine g5.mono ?_
      rintro e w' ⟨F', rfl, r1, r2, r3⟩
      exact ⟨rfl, ⟨F', r1, (hkk.mono (T := F) (fun _ _ h => h.elim)).trans r2 (fun k _ h => g4 k h), fun k h => (r3 k h).imp id (fun h => Nat.le_trans hkk.size h)⟩, fun e => r2.cell e g3, r2.mono (fun k _ h => g4 k h)⟩)
    have NB1 : ¬ F (w.heap.size + 1) := fun h => by have := hin.out _ h; omega
    have NB2 : ¬ F (w.heap.size + 2) := fun h => by have := hin.out _ h; omega
    clear CP HV1 HV2 hnp hsub
    go_region_held3 (fun W => W.cell? ⟨p, 3, none⟩ = some (.pointer (some ⟨tb, 0, none⟩)) ∧ W.cell? ⟨w.heap.size + 1, 0, none⟩ = some (.int .i64 kk) ∧ W.cell? ⟨w.heap.size + 1, 1, none⟩ = some (.int .i64 kn) ∧ W.cell? ⟨w.heap.size + 1, 2, none⟩ = some (.string kt) ∧ W.cell? ⟨w.heap.size + 2, 0, none⟩ = some (.int .i64 vk) ∧ W.cell? ⟨w.heap.size + 2, 1, none⟩ = some (.int .i64 vn) ∧ W.cell? ⟨w.heap.size + 2, 2, none⟩ = some (.string vt)) (first | exact SE.out | exact SK.out _ (Keeps.refl _ _) | exact SK.out _ ((Keeps.refl _ w1).drewN _)) (first | (go_at_call 30; refine (CPP.out _ ((Keeps.refl _ w1).drewN _)).mono ?_; rintro e w2 ⟨rfl, h1, h2, h3⟩; have G1 := hidden h1; have s0 := SK.out _ ((Keeps.refl _ w1).drewN 1); have SE := hidden (show w2.cell? ⟨p, 3, none⟩ = some (.pointer (some ⟨tb, 0, none⟩)) ∧ w2.cell? ⟨w.heap.size + 1, 0, none⟩ = some (.int .i64 kk) ∧ w2.cell? ⟨w.heap.size + 1, 1, none⟩ = some (.int .i64 kn) ∧ w2.cell? ⟨w.heap.size + 1, 2, none⟩ = some (.string kt) ∧ w2.cell? ⟨w.heap.size + 2, 0, none⟩ = some (.int .i64 vk) ∧ w2.cell? ⟨w.heap.size + 2, 1, none⟩ = some (.int .i64 vn) ∧ w2.cell? ⟨w.heap.size + 2, 2, none⟩ = some (.string vt) from ⟨h2 s0.1, h3.cell s0.2.1 NB1, h3.cell s0.2.2.1 NB1, h3.cell s0.2.2.2.1 NB1, h3.cell s0.2.2.2.2.1 NB2, h3.cell s0.2.2.2.2.2.1 NB2, h3.cell s0.2.2.2.2.2.2 NB2⟩); clear h1 h2 h3 s0))
    obtain ⟨F', r1, r2, r3⟩ := G1.out
    clear SE SK CPP
    go_wp2_with fail
    exact hR.out _ _ ⟨F', rfl, r1, r2, r3⟩
theorem slot_New_type (h : IsHeap w F hb H s) (v key val : V) (hv : (ofR H v 0).2 ≠ 0 ∨ ∃ (i p : Nat) (c : Cl), v = ⟨4, (i : Nat), v.t⟩ ∧ H[i]? = some (some (p, c)) ∧ c.kind ≠ 2 ∧ c.kind ≠ 3) :
    Calls Try.prog 39 #[.pointer (some ⟨hb, 0, none⟩), v.val, key.val, val.val] w fun e w' => e = .returned (.int .i64 30) ∧ Keeps (fun _ => False) w w' := by
  have CO := hidden (fun (W : World) (hk' : Keeps (fun _ => False) w W) => heap_Of (h.calm hk') v 0)
  unfold V.val at CO
  obtain ⟨kk, kn, kt⟩ := key
  obtain ⟨vk, vn, vt⟩ := val
  rcases hv with hv | ⟨i, p, c, hv, hi, h2, h3⟩
  · have hne : ((ofR H v 0).2 != 0) = true := by simpa using hv
    generalize (ofR H v 0).1 = pa at *
    generalize (ofR H v 0).2 = ea at *
    clear h hv
    obtain ⟨k, n, t⟩ := v
    simp only at CO
    refine post_gen fun R hR => ?_
    unfold V.val
    go_enter Try.func39, Try.ntmps39
    go_wp2_with fail
    refine (CO.out _ (by repeat (first | exact Keeps.refl _ _ | refine Keeps.alloc ?_ _))).mono ?_
    rintro e w1 ⟨rfl, hK⟩
    have HM := hidden (((((Keeps.refl (fun _ => False) w).alloc _).alloc _).alloc _).trans hK (fun _ _ h => h))
    clear hK CO
    go_wp2_with fail
    exact hR.out _ _ ⟨rfl, HM.out⟩
  · have HP := hidden (fun (W : World) (hk' : Keeps (fun _ => False) w W) => show W.cell? ⟨p, 0, none⟩ = some (.int .i64 c.kind) ∧ p < W.heap.size from (by
      obtain ⟨A, cap, lp, tp, An, cn, hblk, -⟩ := held_cell (h.calm hk') hi
      exact ⟨blk_cell hblk 0, blk_lt hblk⟩))
    obtain ⟨k, n, t⟩ := v
    simp only [V.mk.injEq] at hv
    obtain ⟨rfl, rfl, -⟩ := hv
    rw [ofR_ok hi t (.inl rfl)] at CO
    have m2 : (c.kind != 2) = true := by simpa using h2
    have m3 : (c.kind != 3) = true := by simpa using h3
    generalize c.kind = kd at *
    clear h hi h2 h3
    simp only at CO
    refine post_gen fun R hR => ?_
    unfold V.val
    go_enter Try.func39, Try.ntmps39
    go_wp2_with fail
    refine (CO.out _ (by repeat (first | exact Keeps.refl _ _ | refine Keeps.alloc ?_ _))).mono ?_
    rintro e w1 ⟨rfl, hK⟩
    have HM := hidden (((((Keeps.refl (fun _ => False) w).alloc _).alloc _).alloc _).trans hK (fun _ _ h => h))
    obtain ⟨z0, hpz⟩ := HP.out _ HM.out
    clear hK CO HP
    go_wp2_with fail
    exact hR.out _ _ ⟨rfl, HM.out⟩
end
end Go.Proofs.Ytfdfjogoiagnkaa
namespace Go.Proofs.Ytfdfjogoiagnkaa
open Go.RowKit
set_option maxRecDepth 100000

theorem getR_none {L : List Ent} {key : V} (h : ∀ x ∈ L, x.key ≠ key) : getR L key = (V.null, 3) := by
  unfold getR
  rw [List.find?_eq_none.2 (fun x hx => by simpa using h x hx)]
theorem getR_cases (L : List Ent) (key : V) : ((∀ x ∈ L, x.key ≠ key) ∧ getR L key = (V.null, 3)) ∨ ∃ x ∈ L, x.key = key ∧ getR L key = (x.val, 0) := by
  cases hf : L.find? (fun y => decide (y.key = key)) with
  | none =>
    have h1 := List.find?_eq_none.1 hf
    have h2 : ∀ x ∈ L, x.key ≠ key := fun x hx e => h1 x hx (by simpa using e)
    exact .inl ⟨h2, getR_none h2⟩
  | some x =>
    obtain ⟨h1, -⟩ := List.find?_eq_some_iff_append.1 hf
    refine .inr ⟨x, List.mem_of_find?_eq_some hf, by simpa using h1, ?_⟩
    unfold getR
    rw [hf]
theorem putL_no {L : List Ent} {key val : V} (h : ∀ x ∈ L, x.key ≠ key) : putL L key val = L := by
  unfold putL
  conv => rhs; rw [← List.map_id L]
  exact List.map_congr_left (fun x hx => by rw [if_neg (h x hx)]; rfl)
theorem t_Set {w : World} {F : Nat → Prop} {b : Nat} {L : List Ent} {s : Int} (h : IsT w F b L s) (hs : s < 1073741824) {key : V} (val : V) (hk : key.t.size ≤ 140737488351232) :
    Calls Try.prog 66 #[.pointer (some ⟨b, 0, none⟩), key.val, val.val] w fun e w' => e = .returned (.int .i64 (getR L key).2) ∧ IsT w' F b (putL L key val) s ∧ Keeps F w w' := by
  rcases getR_cases L key with ⟨h1, e⟩ | ⟨x, hx, rfl, e⟩
  · rw [e, putL_no h1]
    exact (t_Set_none h hs val hk h1).mono fun e w' h2 => ⟨h2.1, h.none h2.2, h2.2.mono (fun _ _ h => h.elim)⟩
  · rw [e]
    exact t_Set_there h hs hx val
section
variable {w : World} {F : Nat → Prop} {hb : Nat} {H : List (Option (Nat × Cl))} {s : HSt} {i p : Nat} {c : Cl}
end
end Go.Proofs.Ytfdfjogoiagnkaa
namespace Go.Proofs.Ytfdfjogoiagnkaa
open Go.RowKit
set_option maxRecDepth 100000

inductive Dels (H : Hp) : V → List (List Ent) → Prop where
  | nil {v : V} (h : v.k = 0) : Dels H v []
  | cons {i p tb : Nat} {c : Cl} {L : List Ent} {sr : Int} {b : V} {bs : List V} {ls : List (List Ent)} (hi : H[i]? = some (some (p, c))) (hk : c.kind = 2) (hc : c.tab = some (tb, L, sr)) (hs : sr < 1073740000) (hv : c.vals = b :: bs) (ht : Dels H b ls) : Dels H (rV (i : Nat)) (L :: ls)
def tabR : List (List Ent) → V → V × Int
  | [], _ => (V.null, 3)
  | L :: ls, key => if (getR L key).2 = 0 then getR L key else tabR ls key
section
variable {w : World} {F : Nat → Prop} {hb : Nat} {H : List (Option (Nat × Cl))} {s : HSt}
set_option maxHeartbeats 8000000 in
theorem slot_table (h : IsHeap w F hb H s) {v : V} {ls : List (List Ent)} (hd : Dels H v ls) (hl : ls.length ≤ 1048576) (key : V) (hkz : key.t.size ≤ 140737488351232) :
    Calls Try.prog 70 #[.pointer (some ⟨hb, 0, none⟩), v.val, key.val] w fun e w' => e = .returned (.tuple #[(tabR ls key).1.val, .int .i64 (tabR ls key).2]) ∧ Keeps (fun _ => False) w w' := by
  have HH := hidden h
  have HDL := hidden hd
  have CN := hidden (fun (W : World) => value_Null W)
  unfold V.val at CN
  unfold V.null at CN
  clear h hd
  obtain ⟨vk, vn, vt⟩ := v
  obtain ⟨kk, kn, kt⟩ := key
  refine post_gen fun R hR => ?_
  unfold V.val
  go_enter Try.func70, Try.ntmps70
  go_wp2_with fail
  have I1 := hidden (new3 w (.cells #[.int .i64 vk, .int .i64 vn, .string vt] 26) (.cells #[.int .i64 kk, .int .i64 kn, .string kt] 26) (.cells #[.int .i64 0, .int .i64 0, .string ⟨#[]⟩] 26))
  have I2 := hidden (new3b w (.cells #[.int .i64 vk, .int .i64 vn, .string vt] 26) (.cells #[.int .i64 kk, .int .i64 kn, .string kt] 26) (.cells #[.int .i64 0, .int .i64 0, .string ⟨#[]⟩] 26))
  have I0 := hidden (blk_alloc (blk_alloc (blk_new w (.cells #[.int .i64 vk, .int .i64 vn, .string vt] 26)) (.cells #[.int .i64 kk, .int .i64 kn, .string kt] 26)) (.cells #[.int .i64 0, .int .i64 0, .string ⟨#[]⟩] 26))
  have K0 := hidden ((((Keeps.refl (fun _ => False) w).alloc (.cells #[.int .i64 vk, .int .i64 vn, .string vt] 26)).alloc (.cells #[.int .i64 kk, .int .i64 kn, .string kt] 26)).alloc (.cells #[.int .i64 0, .int .i64 0, .string ⟨#[]⟩] 26))
  generalize ((w.alloc (.cells #[.int .i64 vk, .int .i64 vn, .string vt] 26)).alloc (.cells #[.int .i64 kk, .int .i64 kn, .string kt] 26)).alloc (.cells #[.int .i64 0, .int .i64 0, .string ⟨#[]⟩] 26) = wa at *
  go_loopw [8] (fun n wr => ∃ (k : Nat) (v : V) (l' : List (List Ent)), k + l'.length = ls.length ∧ n = .int .i64 k ∧ IsVar wr w.heap.size v ∧ Dels H v l' ∧ tabR ls ⟨kk, kn, kt⟩ = tabR l' ⟨kk, kn, kt⟩ ∧ Keeps (fun _ => False) w wr ∧ IsVar wr (w.heap.size + 1) ⟨kk, kn, kt⟩ ∧ IsVar wr (w.heap.size + 2) V.null) (fun n _ => ls.length - (intOf n).toNat)
  case atStart => exact ⟨0, ⟨vk, vn, vt⟩, ls, by simp, rfl, I0.out, HDL.out, rfl, K0.out, I1.out, I2.out⟩
  case round =>
    clear I0 I1 I2 K0 HDL
    obtain ⟨k, v, l', hkl, rfl, hV, hD, hT, hK, hKey, hRes⟩ := hrel
    have HV := hidden hV
    have HT := hidden hT
    have HK := hidden hK
    have HKEY := hidden hKey
    have HRES := hidden hRes
    clear hV hT hK hKey hRes
    obtain ⟨a0, a1, a2, a3, a4, a5⟩ := HV.out.cells
    have haz := blk_lt HV.out
    cases hD with
    | nil hk =>
      rw [hk] at a0
      have HT2 := hidden (show tabR ls ⟨kk, kn, kt⟩ = (V.null, 3) from HT.out)
      clear hk HT
      have hk2 : k = ls.length := by simpa using hkl
      clear hkl
      have hkb : k ≤ 1048576 := by omega
      clear hk2
      go_wp2_with fail
      refine (CN.out _).mono ?_
      rintro e w2 ⟨rfl, hK⟩
      have HR2 := hidden (HRES.out.keeps hK (fun h => h))
      have HM2 := hidden (HK.out.trans hK (fun _ _ h => h))
      clear hK HK HRES
      obtain ⟨v0, v1, v2, v3, v4, v5⟩ := HR2.out.cells
      have hvz := blk_lt HR2.out
      simp only [V.null] at v0 v1 v2
      go_wp2_with fail
      obtain ⟨d0, d1, d2, _⟩ := (HR2.out.set V.null).cells
      simp only [V.null] at d0 d1 d2
      rw [HT2.out] at hR
      exact bodyPost_ret (v := .tuple #[V.val V.null, .int .i64 3]) (by simp [results, Try.results70, go_sem, d0, d1, d2, V.val, V.null]) rfl (hR.out _ _ ⟨rfl, HM2.out.var (r := w.heap.size + 2) (fun h => by omega) _ _ _⟩)
    | @cons i2 p2 tb2 c2 L2 sr2 b2 bs2 l2 hi hk hc hs hv ht =>
      have CO := hidden (fun (W : World) (hk' : Keeps (fun _ => False) w W) => heap_Of_ok (HH.out.calm hk') hi 2 ⟨#[]⟩ (.inr hk))
      have CG := hidden (fun (W : World) (hk' : Keeps (fun _ => False) w W) => show W.cell? ⟨p2, 3, none⟩ = some (.pointer (some ⟨tb2, 0, none⟩)) ∧ p2 < W.heap.size ∧ Calls Try.prog 54 #[.pointer (some ⟨tb2, 0, none⟩), V.val ⟨kk, kn, kt⟩] W fun e w' => e = .returned (.tuple #[(getR L2 ⟨kk, kn, kt⟩).1.val, .int .i64 (getR L2 ⟨kk, kn, kt⟩).2]) ∧ Keeps (fun _ => False) W w' from by
        obtain ⟨Ft, h1, h2, h3, h4, h5, h6, h7⟩ := held_tab2 (HH.out.calm hk') hi hc
        exact ⟨h2, h3, t_Get h1 (by omega) hkz⟩)
      have HC0 := hidden (fun (W : World) (hk' : Keeps (fun _ => False) w W) => held_val0 (HH.out.calm hk') hi hv)
      have HDT := hidden ht
      unfold V.val at CO CG
      simp only [rV] at a0 a1 a2
      have hkl2 : k + 1 + l2.length = ls.length := by rw [← hkl, List.length_cons]; omega
      have HKL := hidden hkl2
      have hkb : k < 1048576 := by omega
      have hkb2 : k < ls.length := by omega
      have hpw := (CG.out _ (Keeps.refl _ w)).2.1
      have HTS := hidden (show tabR ls ⟨kk, kn, kt⟩ = if (getR L2 ⟨kk, kn, kt⟩).2 = 0 then getR L2 ⟨kk, kn, kt⟩ else tabR l2 ⟨kk, kn, kt⟩ from HT.out)
      have HGC := hidden ((getR_cases L2 ⟨kk, kn, kt⟩).imp (fun h => h.2) (fun h => h.elim fun x h => show ∃ x : V, getR L2 ⟨kk, kn, kt⟩ = (x, 0) from ⟨_, h.2.2⟩))
      clear hi hk hc hs hv ht hkl hkl2 HT
      generalize getR L2 ⟨kk, kn, kt⟩ = gg at *
      obtain ⟨⟨gk, gn, gt⟩, ge⟩ := gg
      simp only at CG
      go_wp2_with fail
      refine (CO.out _ HK.out).mono ?_
      rintro e w1 ⟨rfl, hK⟩
      have HK1 := hidden (HK.out.trans hK (fun _ _ h => h))
      have HV1 := hidden (HV.out.keeps hK (fun h => h))
      have HKEY1 := hidden (HKEY.out.keeps hK (fun h => h))
      have HRES1 := hidden (HRES.out.keeps hK (fun h => h))
      clear hK HK HV HKEY HRES CO a0 a1 a2 a3 a4 a5 haz
      have SK := hidden (fun (W : World) (hk' : Keeps (fun _ => False) w1 W) => show W.cell? ⟨p2, 3, none⟩ = some (.pointer (some ⟨tb2, 0, none⟩)) ∧ W.cell? ⟨w.heap.size + 1, 0, none⟩ = some (.int .i64 kk) ∧ W.cell? ⟨w.heap.size + 1, 1, none⟩ = some (.int .i64 kn) ∧ W.cell? ⟨w.heap.size + 1, 2, none⟩ = some (.string kt) from (have b := (HKEY1.out.keeps hk' (fun h => h)).cells; ⟨(CG.out _ (HK1.out.trans hk' (fun _ _ h => h))).1, b.1, b.2.1, b.2.2.1⟩))
      have CGG := hidden (fun (W : World) (hk' : Keeps (fun _ => False) w1 W) => (CG.out W (HK1.out.trans hk' (fun _ _ h => h))).2.2)
      go_wp2_with fail
      go_cut [11, 12] from 30 to 38 (fun u e wx => ∃ vx : Nat, u = .pointer (some ⟨vx, 0, none⟩) ∧ e = .int .i64 ge ∧ IsVar wx vx ⟨gk, gn, gt⟩ ∧ Keeps (fun _ => False) w1 wx)
      case first =>
        go_region_held3 (fun W => W.cell? ⟨p2, 3, none⟩ = some (.pointer (some ⟨tb2, 0, none⟩)) ∧ W.cell? ⟨w.heap.size + 1, 0, none⟩ = some (.int .i64 kk) ∧ W.cell? ⟨w.heap.size + 1, 1, none⟩ = some (.int .i64 kn) ∧ W.cell? ⟨w.heap.size + 1, 2, none⟩ = some (.string kt)) (((refine SK.out _ ?_); (repeat (first | exact Keeps.refl _ _ | exact K14.out | refine Keeps.alloc ?_ _ | refine Keeps.drewN ?_ _ | refine Keeps.drew ?_ | exact K14.out.var (r := w1.heap.size) (fun h => absurd h (Nat.lt_irrefl _)) _ _ _)))) (first | (go_at_call 54; refine (CGG.out _ (by repeat (first | exact Keeps.refl _ _ | refine Keeps.alloc ?_ _ | refine Keeps.drewN ?_ _ | refine Keeps.drew ?_))).mono ?_; rintro e w14 ⟨rfl, h1⟩; have K14 := hidden (Keeps.trans (S := fun _ => False) (show Keeps (fun _ => False) w1 _ from (by repeat (first | exact Keeps.refl _ _ | refine Keeps.alloc ?_ _ | refine Keeps.drewN ?_ _ | refine Keeps.drew ?_))) h1 (fun _ _ h => h)); (try have X14 := hidden (show IsVar w14 w1.heap.size V.null from h1.heap (blk_new w1 _) (fun h => h))); (try (obtain ⟨v0, v1, v2, v3, v4, v5⟩ := X14.out.cells; have hvz := blk_lt X14.out; simp only [V.null] at v0 v1 v2)); clear h1))
        all_goals
          go_wp2_with fail
          go_meet
          first
            | exact ⟨_, rfl, rfl, X14.out.set ⟨gk, gn, gt⟩, K14.out.var (r := w1.heap.size) (fun h => absurd h (Nat.lt_irrefl _)) _ _ _⟩
            | exact ⟨_, rfl, rfl, IsVar.new w14 ⟨gk, gn, gt⟩, K14.out.alloc _⟩
      case rest =>
      obtain ⟨vx, rfl, rfl, hX, hK⟩ := hcut
      have VX := hidden hX
      have K15 := hidden hK
      have HKc := hidden (HK1.out.trans hK (fun _ _ h => h))
      have HVc := hidden (HV1.out.keeps hK (fun h => h))
      have HKEYc := hidden (HKEY1.out.keeps hK (fun h => h))
      have HRESc := hidden (HRES1.out.keeps hK (fun h => h))
      clear hX hK SK CGG CG HK1 HV1 HKEY1 HRES1 K15
      rcases HGC.out with e0 | ⟨x, e0⟩
      · simp only [V.null, Prod.mk.injEq, V.mk.injEq] at e0
        obtain ⟨⟨rfl, rfl, rfl⟩, rfl⟩ := e0
        clear HGC
        have HTS2 := hidden (show tabR ls ⟨kk, kn, kt⟩ = tabR l2 ⟨kk, kn, kt⟩ from HTS.out.trans (if_neg (by decide)))
        clear HTS
        obtain ⟨g, o, cap, hpz, hgz, y1, q0, q1, q2⟩ := HC0.out _ HKc.out
        obtain ⟨bk, bn, bt⟩ := b2
        simp only at q0 q1 q2
        obtain ⟨a0, a1, a2, a3, a4, a5⟩ := HVc.out.cells
        have haz := blk_lt HVc.out
        clear HC0
        go_wp2_with fail
        go_roundw
        case rel => exact ⟨k + 1, ⟨bk, bn, bt⟩, l2, HKL.out, by go_num, HVc.out.set ⟨bk, bn, bt⟩, HDT.out, HTS2.out, HKc.out.var (r := w.heap.size) (fun h => absurd h (Nat.lt_irrefl _)) _ _ _, HKEYc.out.keeps ((Keeps.refl (fun k => k = w.heap.size) wc).var (r := w.heap.size) (fun _ => rfl) _ _ _) (by simp), HRESc.out.keeps ((Keeps.refl (fun k => k = w.heap.size) wc).var (r := w.heap.size) (fun _ => rfl) _ _ _) (by simp)⟩
        case measure => simp [intOf]; omega
      · simp only [Prod.mk.injEq] at e0
        obtain ⟨-, rfl⟩ := e0
        clear HGC HC0
        obtain ⟨x0, x1, x2, -⟩ := VX.out.cells
        have hxz := blk_lt VX.out
        obtain ⟨v0, v1, v2, v3, v4, v5⟩ := HRESc.out.cells
        have hvz := blk_lt HRESc.out
        simp only [V.null] at x0 x1 x2 v0 v1 v2
        go_wp2_with fail
        obtain ⟨d0, d1, d2, _⟩ := (HRESc.out.set ⟨gk, gn, gt⟩).cells
        simp only at d0 d1 d2
        rw [HTS.out, if_pos (by first | trivial | rfl)] at hR
        exact bodyPost_ret (v := .tuple #[V.val ⟨gk, gn, gt⟩, .int .i64 0]) (by simp [results, Try.results70, go_sem, d0, d1, d2, V.val]) rfl (hR.out _ _ ⟨rfl, HKc.out.var (r := w.heap.size + 2) (fun h => by omega) _ _ _⟩)
end
end Go.Proofs.Ytfdfjogoiagnkaa
namespace Go.Proofs.Ytfdfjogoiagnkaa
open Go.RowKit
set_option maxRecDepth 100000

section
variable {w : World} {F : Nat → Prop} {hb : Nat} {H : List (Option (Nat × Cl))} {s : HSt} {i p : Nat} {c : Cl}
set_option maxHeartbeats 4000000 in
theorem slot_Get_table (h : IsHeap w F hb H s) {ls : List (List Ent)} (hi : H[i]? = some (some (p, c))) (hk : c.kind = 2) (hd : Dels H (rV (i : Nat)) ls) (hl : ls.length ≤ 1048576) (key : V) (hkz : key.t.size ≤ 140737488351232) :
    Calls Try.prog 43 #[.pointer (some ⟨hb, 0, none⟩), V.val ⟨4, i, ⟨#[]⟩⟩, key.val] w fun e w' => e = .returned (.tuple #[(tabR ls key).1.val, .int .i64 (tabR ls key).2]) ∧ Keeps (fun _ => False) w w' := by
  have CO := hidden (fun (W : World) (hk' : Keeps (fun _ => False) w W) => heap_Of_ok (h.calm hk') hi 0 ⟨#[]⟩ (.inl rfl))
  have CT := hidden (fun (W : World) (hk' : Keeps (fun _ => False) w W) => slot_table (h.calm hk') hd hl key hkz)
  have HP := hidden (fun (W : World) (hk' : Keeps (fun _ => False) w W) => show W.cell? ⟨p, 0, none⟩ = some (.int .i64 2) ∧ p < W.heap.size from (by
    obtain ⟨A, cap, lp, tp, An, cn, hblk, -⟩ := held_cell (h.calm hk') hi
    rw [hk] at hblk
    exact ⟨blk_cell hblk 0, blk_lt hblk⟩))
  unfold rV at CT
  unfold V.val at CO CT
  clear h hi hk hd
  generalize tabR ls key = gg at *
  obtain ⟨⟨gk, gn, gt⟩, ge⟩ := gg
  obtain ⟨kk, kn, kt⟩ := key
  simp only at CT
  refine post_gen fun R hR => ?_
  unfold V.val
  go_enter Try.func43, Try.ntmps43
  go_wp2_with fail
  have I0 := hidden (blk_alloc (blk_alloc (blk_new w (.cells #[.int .i64 4, .int .i64 i, .string ⟨#[]⟩] 26)) (.cells #[.int .i64 kk, .int .i64 kn, .string kt] 26)) (.cells #[.int .i64 0, .int .i64 0, .string ⟨#[]⟩] 26))
  have I1 := hidden (new3 w (.cells #[.int .i64 4, .int .i64 i, .string ⟨#[]⟩] 26) (.cells #[.int .i64 kk, .int .i64 kn, .string kt] 26) (.cells #[.int .i64 0, .int .i64 0, .string ⟨#[]⟩] 26))
  have I2 := hidden (new3b w (.cells #[.int .i64 4, .int .i64 i, .string ⟨#[]⟩] 26) (.cells #[.int .i64 kk, .int .i64 kn, .string kt] 26) (.cells #[.int .i64 0, .int .i64 0, .string ⟨#[]⟩] 26))
  refine (CO.out _ (by repeat (first | exact Keeps.refl _ _ | refine Keeps.alloc ?_ _))).mono ?_
  rintro e w1 ⟨rfl, hK⟩
  have HM1 := hidden (((((Keeps.refl (fun _ => False) w).alloc _).alloc _).alloc _).trans hK (fun _ _ h => h))
  have V0 := hidden (show IsVar w1 w.heap.size ⟨4, i, ⟨#[]⟩⟩ from hK.heap I0.out (fun h => h))
  have V1 := hidden (show IsVar w1 (w.heap.size + 1) ⟨kk, kn, kt⟩ from hK.heap I1.out (fun h => h))
  have V2 := hidden (show IsVar w1 (w.heap.size + 2) V.null from hK.heap I2.out (fun h => h))
  clear hK CO I0 I1 I2
  obtain ⟨z0, hpz⟩ := HP.out _ HM1.out
  obtain ⟨a0, a1, a2, -⟩ := V0.out.cells
  obtain ⟨b0, b1, b2, -⟩ := V1.out.cells
  have haz := blk_lt V0.out
  have hbz := blk_lt V1.out
  simp only at a0 a1 a2 b0 b1 b2
  go_wp2_with fail
  refine (CT.out _ HM1.out).mono ?_
  rintro e w2 ⟨rfl, hK⟩
  have HR2 := hidden (V2.out.keeps hK (fun h => h))
  have HM2 := hidden (HM1.out.trans hK (fun _ _ h => h))
  clear hK HM1 V0 V1 V2 z0 hpz a0 a1 a2 b0 b1 b2 haz hbz
  obtain ⟨v0, v1, v2, v3, v4, v5⟩ := HR2.out.cells
  have hvz := blk_lt HR2.out
  simp only [V.null] at v0 v1 v2
  go_wp2_with fail
  obtain ⟨d0, d1, d2, _⟩ := (HR2.out.set ⟨gk, gn, gt⟩).cells
  simp only at d0 d1 d2
  exact bodyPost_ret (v := .tuple #[V.val ⟨gk, gn, gt⟩, .int .i64 ge]) (by simp [results, Try.results43, go_sem, d0, d1, d2, V.val]) rfl (hR.out _ _ ⟨rfl, HM2.out.var (r := w.heap.size + 2) (fun h => by omega) _ _ _⟩)
end
end Go.Proofs.Ytfdfjogoiagnkaa
