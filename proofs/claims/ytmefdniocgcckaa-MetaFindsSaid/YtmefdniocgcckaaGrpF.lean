/- Texts that belong together: Lay LayB LayC LayD LayE LayF LayG LayH Q16. -/
import Derived.Test.YtmefdniocgcckaaGrpE
import Derived.Test.YtmefdniocgcckaaZCur
import Derived.Deep.RegionHeld3
import Derived.Test.YtmefdniocgcckaaZSameV
set_option linter.unusedSimpArgs false
set_option linter.unusedVariables false
/- Layer 16: layout: what Of answers; Base, Of, Method. -/
namespace Go.Proofs.Ytmefdniocgcckaa
open Go.RowKit
set_option maxRecDepth 100000

def classCl (tb : Nat) (L : List Ent) (sr : Int) (b : V) : Cl := ⟨3, [b], none, some (tb, L, sr), [], ⟨#[]⟩⟩
def instCl (tb : Nat) (L : List Ent) (sr : Int) (b : V) : Cl := ⟨4, [b], none, some (tb, L, sr), [], ⟨#[]⟩⟩
/-- What Of answers: where the cell lies, and the error. -/
def ofR (H : Hp) (v : V) (kind : Int) : Option Addr × Int :=
  if v.k = 4 then
    if v.n < 0 ∨ (H.length : Int) ≤ v.n then (none, 1)
    else match atH H v.n.toNat with
      | none => (none, 41)
      | some (p, c) => if kind = 0 ∨ c.kind = kind then (some ⟨p, 0, none⟩, 0) else (none, 30)
  else (none, 30)
section
variable {w : World} {F : Nat → Prop} {hb : Nat} {H : List (Option (Nat × Cl))} {s : HSt} {i p : Nat} {c : Cl}
theorem ofR_ok (hi : H[i]? = some (some (p, c))) (t : ByteArray) {kind : Int} (hk : kind = 0 ∨ c.kind = kind) : ofR H ⟨4, i, t⟩ kind = (some ⟨p, 0, none⟩, 0) := by
  have hil := (List.getElem?_eq_some_iff.1 hi).1
  unfold ofR
  rw [if_pos rfl, if_neg (by simp only; omega)]
  simp only [Int.toNat_natCast]
  rw [atH_some.2 hi]
  simp only
  rw [if_pos hk]
theorem ofR_kind (hi : H[i]? = some (some (p, c))) (t : ByteArray) {kind : Int} (h0 : kind ≠ 0) (hk : c.kind ≠ kind) : ofR H ⟨4, i, t⟩ kind = (none, 30) := by
  have hil := (List.getElem?_eq_some_iff.1 hi).1
  unfold ofR
  rw [if_pos rfl, if_neg (by simp only; omega)]
  simp only [Int.toNat_natCast]
  rw [atH_some.2 hi]
  simp only
  rw [if_neg (fun h => h.elim h0 hk)]
theorem ofR_type {v : V} (hk : v.k ≠ 4) (kind : Int) : ofR H v kind = (none, 30) := by unfold ofR; rw [if_neg hk]
theorem heap_Of (h : IsHeap w F hb H s) (v : V) (kind : Int) :
    Calls Try.prog 32 #[.pointer (some ⟨hb, 0, none⟩), v.val, .int .i64 kind] w fun e w' => e = .returned (.tuple #[.pointer (ofR H v kind).1, .int .i64 (ofR H v kind).2]) ∧ Keeps (fun _ => False) w w' := by
  obtain ⟨k, n, t⟩ := v
  by_cases hk : k = 4
  · subst hk
    by_cases hn : n < 0 ∨ (H.length : Int) ≤ n
    · have e : ofR H ⟨4, n, t⟩ kind = (none, 1) := by unfold ofR; rw [if_pos rfl, if_pos hn]
      rw [e]
      exact heap_Of_none h kind t hn
    · obtain ⟨j, rfl⟩ : ∃ j : Nat, n = j := ⟨n.toNat, by omega⟩
      cases hat : H[j]? with
      | none => rw [List.getElem?_eq_none_iff] at hat; omega
      | some o =>
        cases o with
        | none =>
          have e : ofR H ⟨4, j, t⟩ kind = (none, 41) := by
            unfold ofR
            rw [if_pos rfl, if_neg hn]
            simp only [Int.toNat_natCast, atH, hat, Option.join_some]
          rw [e]
          exact heap_Of_freed h kind t hat
        | some x =>
          obtain ⟨p, c⟩ := x
          by_cases hkk : kind = 0 ∨ c.kind = kind
          · rw [ofR_ok hat t hkk]; exact heap_Of_ok h hat kind t hkk
          · simp only [not_or] at hkk
            rw [ofR_kind hat t hkk.1 hkk.2]; exact heap_Of_kind h hat kind t hkk.1 hkk.2
  · rw [ofR_type hk]; exact heap_Of_type w hb ⟨k, n, t⟩ kind hk
/-- How a cell lies. -/
theorem held_cell (h : IsHeap w F hb H s) (hi : H[i]? = some (some (p, c))) :
    ∃ (A : Option Addr) (cap : Nat) (lp tp An : Option Addr) (cn : Nat), w.heap[p]? = some (.cells #[.int .i64 c.kind, .slice A c.vals.length cap, .pointer lp, .pointer tp, .slice An c.nums.length cn, .string c.text] 39 (0, 0)) ∧
      Vals w A c.vals ∧ Ints w An c.nums ∧ (∀ tb L sr, c.tab = some (tb, L, sr) → tp = some ⟨tb, 0, none⟩) ∧ (c.tab = none → tp = none) ∧ (c.list = none → lp = none) ∧ (A = none → c.vals = []) ∧ (An = none → c.nums = []) := by
  obtain ⟨Fam, vc, vf, hX⟩ := h
  obtain ⟨G, vv, vn, lp, tp, hC⟩ := hX.each i p c hi
  obtain ⟨A, cap, rfl⟩ := hC.vals.form
  obtain ⟨An, cn, rfl⟩ := hC.nums.form
  have h1 := Vals.own hC.vals.1
  have h2 := Ints.own hC.nums.1
  refine ⟨A, cap, lp, tp, An, cn, hC.blk, h1, h2, fun tb L sr e => ?_, fun e => ?_, fun e => ?_, fun e => ?_, fun e => ?_⟩
  · have := hC.tab; rw [e] at this; exact this.1
  · have := hC.tab; rw [e] at this; exact this
  · have := hC.list; rw [e] at this; exact this
  · cases hv : c.vals with
    | nil => rfl
    | cons x l => obtain ⟨b, o, e2, _⟩ := h1 0 x (by rw [hv]; rfl); rw [e] at e2; cases e2
  · cases hv : c.nums with
    | nil => rfl
    | cons x l => obtain ⟨b, o, e2, _⟩ := h2 0 x (by rw [hv]; rfl); rw [e] at e2; cases e2
/-- Its first value, as the walk reads it. -/
theorem held_val0 (h : IsHeap w F hb H s) (hi : H[i]? = some (some (p, c))) {b : V} {bs : List V} (hv : c.vals = b :: bs) : ∃ (g o cap : Nat), p < w.heap.size ∧ g < w.heap.size ∧ w.cell? ⟨p, 1, none⟩ = some (.slice (some ⟨g, o, none⟩) (bs.length + 1) cap) ∧
      w.cell? ⟨g, o, none⟩ = some (.int .i64 b.k) ∧ w.cell? ⟨g, o + 1, none⟩ = some (.int .i64 b.n) ∧ w.cell? ⟨g, o + 2, none⟩ = some (.string b.t) := by
  obtain ⟨A, cap, lp, tp, An, cn, hblk, h1, -⟩ := held_cell h hi
  obtain ⟨g, o, rfl, h2, h3, h4⟩ := h1 0 b (by rw [hv]; rfl)
  rw [Nat.zero_mul, Nat.add_zero] at h2 h3 h4
  have := blk_cell hblk 1
  rw [hv] at this
  exact ⟨g, o, cap, blk_lt hblk, World.block_lt_of_cell? w _ h2, this, h2, h3, h4⟩
theorem var2 (w : World) (o : Obj) (v : V) : IsVar ((w.alloc o).alloc (.cells #[.int .i64 v.k, .int .i64 v.n, .string v.t] 29)) (w.heap.size + 1) v := new2t w o _
theorem lay_Of_ok (h : IsHeap w F hb H s) (hi : H[i]? = some (some (p, c))) (hk : c.kind = 4) {b : V} {bs : List V} (hv : c.vals = b :: bs) (t : ByteArray) :
    Calls Try.prog 41 #[.pointer (some ⟨hb, 0, none⟩), V.val ⟨4, i, t⟩] w fun e w' => e = .returned b.val ∧ Keeps (fun _ => False) w w' := by
  have CO := hidden (fun (W : World) (hk' : Keeps (fun _ => False) w W) => heap_Of_ok (h.calm hk') hi 4 t (.inr hk))
  have HC := hidden (fun (W : World) (hk' : Keeps (fun _ => False) w W) => held_val0 (h.calm hk') hi hv)
  unfold V.val at CO
  clear h hi hk hv
  refine post_gen fun R hR => ?_
  unfold V.val
  go_enter Try.func41, Try.ntmps41
  go_wp2_with fail
  refine (CO.out _ (by repeat (first | exact Keeps.refl _ _ | refine Keeps.alloc ?_ _))).mono ?_
  rintro e w1 ⟨rfl, hK⟩
  have HV := hidden (show IsVar w1 (w.heap.size + 1) V.null from hK.heap (var2 w _ V.null) (fun h => h))
  have HM := hidden ((((Keeps.refl (fun _ => False) w).alloc _).alloc _).trans hK (fun _ _ h => h))
  obtain ⟨g, o, cap, hpz, hgz, y1, q0, q1, q2⟩ := HC.out _ HM.out
  clear hK CO HC
  obtain ⟨v0, v1, v2, v3, v4, v5⟩ := HV.out.cells
  have hvz := blk_lt HV.out
  simp only [V.null] at v0 v1 v2
  go_wp2_with fail
  obtain ⟨d0, d1, d2, _⟩ := (HV.out.set b).cells
  exact bodyPost_ret (v := b.val) (by simp [results, Try.results41, go_sem, d0, d1, d2, V.val]) rfl (hR.out _ _ ⟨rfl, HM.out.var (r := w.heap.size + 1) (fun h => by omega) _ _ _⟩)
theorem lay_Of_no (h : IsHeap w F hb H s) (v : V) (hv : (ofR H v 4).2 ≠ 0) :
    Calls Try.prog 41 #[.pointer (some ⟨hb, 0, none⟩), v.val] w fun e w' => e = .returned (V.val V.null) ∧ Keeps (fun _ => False) w w' := by
  have CO := hidden (fun (W : World) (hk' : Keeps (fun _ => False) w W) => heap_Of (h.calm hk') v 4)
  have CN := hidden (fun (W : World) => value_Null W)
  unfold V.val at CO CN
  unfold V.null at CN
  have hne : ((ofR H v 4).2 != 0) = true := by simpa using hv
  generalize (ofR H v 4).1 = pa at *
  generalize (ofR H v 4).2 = ea at *
  clear h hv
  obtain ⟨k, n, t⟩ := v
  simp only at CO
  refine post_gen fun R hR => ?_
  unfold V.val
  go_enter Try.func41, Try.ntmps41
  go_wp2_with fail
  refine (CO.out _ (by repeat (first | exact Keeps.refl _ _ | refine Keeps.alloc ?_ _))).mono ?_
  rintro e w1 ⟨rfl, hK⟩
  have HV := hidden (show IsVar w1 (w.heap.size + 1) V.null from hK.heap (var2 w _ V.null) (fun h => h))
  have HM := hidden ((((Keeps.refl (fun _ => False) w).alloc _).alloc _).trans hK (fun _ _ h => h))
  clear hK CO
  go_wp2_with fail
  refine (CN.out _).mono ?_
  rintro e w2 ⟨rfl, hK⟩
  have HV2 := hidden (HV.out.keeps hK (fun h => h))
  have HM2 := hidden (HM.out.trans hK (fun _ _ h => h))
  clear hK HV HM
  obtain ⟨v0, v1, v2, v3, v4, v5⟩ := HV2.out.cells
  have hvz := blk_lt HV2.out
  simp only [V.null] at v0 v1 v2
  go_wp2_with fail
  obtain ⟨d0, d1, d2, _⟩ := (HV2.out.set V.null).cells
  simp only [V.null] at d0 d1 d2
  exact bodyPost_ret (v := V.val V.null) (by simp [results, Try.results41, go_sem, d0, d1, d2, V.val, V.null]) rfl (hR.out _ _ ⟨rfl, HM2.out.var (r := w.heap.size + 1) (fun h => by omega) _ _ _⟩)
/-- Can it be called? -/
def methB (H : Hp) (v : V) : Bool := (ofR H v 5).2 == 0 || (ofR H v 6).2 == 0
theorem lay_Method (h : IsHeap w F hb H s) (v : V) :
    Calls Try.prog 39 #[.pointer (some ⟨hb, 0, none⟩), v.val] w fun e w' => e = .returned (.bool (methB H v)) ∧ Keeps (fun _ => False) w w' := by
  have CO := hidden (fun (W : World) (hk' : Keeps (fun _ => False) w W) => heap_Of (h.calm hk') v 5)
  have CP := hidden (fun (W : World) (hk' : Keeps (fun _ => False) w W) => heap_Of (h.calm hk') v 6)
  unfold V.val at CO CP
  unfold methB
  generalize (ofR H v 5).1 = pa at *
  generalize (ofR H v 5).2 = ea at *
  generalize (ofR H v 6).1 = pb at *
  generalize (ofR H v 6).2 = eb at *
  clear h
  obtain ⟨k, n, t⟩ := v
  simp only at CO CP
  refine post_gen fun R hR => ?_
  unfold V.val
  go_enter Try.func39, Try.ntmps39
  go_wp2_with fail
  have HI := hidden (IsVar.new w ⟨k, n, t⟩)
  refine (CO.out _ (by repeat (first | exact Keeps.refl _ _ | refine Keeps.alloc ?_ _))).mono ?_
  rintro e w1 ⟨rfl, hK⟩
  have HM := hidden (((Keeps.refl (fun _ => False) w).alloc _).trans hK (fun _ _ h => h))
  obtain ⟨v0, v1, v2, v3, v4, v5⟩ := (HI.out.keeps hK (fun h => h)).cells
  have hvz := blk_lt (HI.out.keeps hK (fun h => h))
  clear hK CO
  go_wp2_with fail
  refine (CP.out _ HM.out).mono ?_
  rintro e w2 ⟨rfl, hK⟩
  have HM2 := hidden (HM.out.trans hK (fun _ _ h => h))
  clear hK CP HM
  by_cases h1 : ea = 0
  · subst h1
    go_wp2_with fail
    exact hR.out _ _ ⟨rfl, HM2.out⟩
  · have h2 : (ea == 0) = false := by simpa using h1
    rw [h2] at hR
    clear h1
    go_wp2_with fail
    exact hR.out _ _ ⟨rfl, HM2.out⟩
end
end Go.Proofs.Ytmefdniocgcckaa
/- Layer 16: layout: members: Member, Find. -/
namespace Go.Proofs.Ytmefdniocgcckaa
open Go.RowKit
set_option maxRecDepth 100000

/-- What Get answers. -/
def getR (L : List Ent) (key : V) : V × Int := match L.find? (fun y => decide (y.key = key)) with | none => (V.null, 3) | some x => (x.val, 0)
theorem t_Get {w : World} {F : Nat → Prop} {b : Nat} {L : List Ent} {s : Int} (h : IsT w F b L s) (hs : s < 1073741824) {key : V} (hk : key.t.size ≤ 140737488351232) :
    Calls Try.prog 67 #[.pointer (some ⟨b, 0, none⟩), key.val] w fun e w' => e = .returned (.tuple #[(getR L key).1.val, .int .i64 (getR L key).2]) ∧ Keeps (fun _ => False) w w' := by
  unfold getR
  cases hf : L.find? (fun y => decide (y.key = key)) with
  | none =>
    have h1 := List.find?_eq_none.1 hf
    exact t_Get_none h hs hk (fun x hx e => h1 x hx (by simpa using e))
  | some x =>
    obtain ⟨h1, -⟩ := List.find?_eq_some_iff_append.1 hf
    have e : x.key = key := by simpa using h1
    have := t_Get_some h hs (List.mem_of_find?_eq_some hf)
    rw [e] at this
    exact this
theorem getR_kv {L M : List Ent} (h : L.map Ent.kv = M.map Ent.kv) (key : V) : getR L key = getR M key := by
  induction L generalizing M with
  | nil => cases M with
    | nil => rfl
    | cons y M => simp at h
  | cons x L ih => cases M with
    | nil => simp at h
    | cons y M =>
      simp only [List.map_cons, List.cons.injEq] at h
      have e := Prod.mk.inj h.1
      unfold getR at ih ⊢
      simp only [List.find?_cons]
      rw [e.1]
      cases decide (y.key = key) with
      | true => simp only; rw [e.2]
      | false => exact ih h.2
section
variable {w : World} {F : Nat → Prop} {hb : Nat} {H : List (Option (Nat × Cl))} {s : HSt} {i p : Nat} {c : Cl}
/-- A cell's table: where it is told of, what turns of it. -/
theorem held_tab2 (h : IsHeap w F hb H s) (hi : H[i]? = some (some (p, c))) {tb : Nat} {L : List Ent} {sr : Int} (hc : c.tab = some (tb, L, sr)) :
    ∃ Ft, IsT w Ft tb L sr ∧ w.cell? ⟨p, 3, none⟩ = some (.pointer (some ⟨tb, 0, none⟩)) ∧ p < w.heap.size ∧ ¬ Ft p ∧ F p ∧ (∀ k, Ft k → F k) ∧ ∀ (w1 : World) (F' : Nat → Prop) (L' : List Ent) (sr' : Int), Keeps Ft w w1 → IsT w1 F' tb L' sr' → Fresh Ft F' w → sr' < 1073741000 →
      ∃ F2, IsHeap w1 F2 hb (H.set i (some (p, { c with tab := some (tb, L', sr') }))) s ∧ Keeps F w w1 ∧ Fresh F F2 w := by
  obtain ⟨Fam, vc, vf, hX⟩ := h
  obtain ⟨G, vv, vn, lp, tp, hC⟩ := hX.each i p c hi
  have ht := hC.tab
  rw [hc] at ht
  obtain ⟨rfl, ht⟩ := ht
  refine ⟨G 2, ht, blk_cell hC.blk 3, blk_lt hC.blk, hC.off 2, hX.sub _ p hC.here, fun k hk => hX.sub _ k (hC.sub 2 k hk), fun w1 F' L' sr' hk h1 hf hs => ?_⟩
  obtain ⟨g1, g2, g3⟩ := hC.setTab hk h1 hf hs
  obtain ⟨r1, r2, r3⟩ := hX.setCell hi g2 g1 g3
  exact ⟨_, ⟨_, _, _, r1⟩, r2, r3⟩
theorem new3 (w : World) (o o1 o2 : Obj) : (((w.alloc o).alloc o1).alloc o2).heap[w.heap.size + 1]? = some o1 := by
  have h := blk_alloc (blk_alloc (blk_new (w.alloc o) o1) o2)
  exact (blk_alloc (new2t w o o1) o2)
theorem new3b (w : World) (o o1 o2 : Obj) : (((w.alloc o).alloc o1).alloc o2).heap[w.heap.size + 2]? = some o2 := by
  have := blk_new ((w.alloc o).alloc o1) o2
  simpa using this
set_option maxHeartbeats 4000000 in
theorem lay_Member (h : IsHeap w F hb H s) (hi : H[i]? = some (some (p, c))) (hk : c.kind = 3) {tb : Nat} {L : List Ent} {sr : Int} (hc : c.tab = some (tb, L, sr)) (hs : sr < 1073740000) (t : ByteArray) (key val : V) (h0 : key.k ≠ 0) (hkz : key.t.size ≤ 140737488351232) (hl : L.length < 1048576) :
    Calls Try.prog 18 #[.pointer (some ⟨hb, 0, none⟩), V.val ⟨4, i, t⟩, key.val, val.val] w fun e w' => ∃ F', e = .returned (.int .i64 0) ∧ IsHeap w' F' hb (tabH H i p c tb (putE L sr key val)) s ∧ Keeps F w w' ∧ Fresh F F' w := by
  have CO := hidden (fun (W : World) (hk' : Keeps (fun _ => False) w W) => heap_Of_ok (h.calm hk') hi 3 t (.inr hk))
  unfold V.val at CO
  have hin := hidden h.inw
  have CP := hidden (fun (W : World) (hk' : Keeps (fun _ => False) w W) => show ∃ Ft : Nat → Prop, W.cell? ⟨p, 3, none⟩ = some (.pointer (some ⟨tb, 0, none⟩)) ∧ p < W.heap.size ∧ ¬ Ft p ∧ (∀ k, Ft k → F k) ∧ Calls Try.prog 37 #[.pointer (some ⟨tb, 0, none⟩), key.val, val.val] W fun e w' => ∃ F' : Nat → Prop, e = .returned (.int .i64 0) ∧ IsHeap w' F' hb (tabH H i p c tb (putE L sr key val)) s ∧ Keeps Ft W w' ∧ Fresh F F' W from by
    obtain ⟨Ft, h1, h2, h3, h4, h5, h6, h7⟩ := held_tab2 (h.calm hk') hi hc
    refine ⟨Ft, h2, h3, h4, h6, (t_Put h1 (by omega) val h0 hkz hl).mono ?_⟩
    rintro e w' ⟨F', rfl, g1, g2, g3⟩
    have hz := (putE_len L sr key val).2
    obtain ⟨F2, r1, r2, r3⟩ := h7 w' F' _ _ g2 g1 g3 (by omega)
    exact ⟨F2, rfl, r1, g2, r3⟩)
  clear h hi hk hc
  obtain ⟨kk, kn, kt⟩ := key
  obtain ⟨vk, vn, vt⟩ := val
  generalize tabH H i p c tb (putE L sr ⟨kk, kn, kt⟩ ⟨vk, vn, vt⟩) = H' at *
  refine post_gen fun R hR => ?_
  unfold V.val at CP ⊢
  go_enter Try.func18, Try.ntmps18
  go_wp2_with fail
  refine (CO.out _ (by repeat (first | exact Keeps.refl _ _ | refine Keeps.alloc ?_ _))).mono ?_
  rintro e w1 ⟨rfl, hK⟩
  have HM := hidden (((((Keeps.refl (fun _ => False) w).alloc _).alloc _).alloc _).trans hK (fun _ _ h => h))
  have HV1 := hidden (show IsVar w1 (w.heap.size + 1) ⟨kk, kn, kt⟩ from hK.heap (new3 w _ _ _) (fun h => h))
  have HV2 := hidden (show IsVar w1 (w.heap.size + 2) ⟨vk, vn, vt⟩ from hK.heap (new3b w _ _ _) (fun h => h))
  clear hK CO
  obtain ⟨Ft, -, -, hnp, hsub, -⟩ := CP.out _ HM.out
  go_wp2_with fail
  have SK := hidden (fun (W : World) (hk' : Keeps (fun _ => False) w1 W) => show W.cell? ⟨p, 3, none⟩ = some (.pointer (some ⟨tb, 0, none⟩)) ∧ W.cell? ⟨w.heap.size + 1, 0, none⟩ = some (.int .i64 kk) ∧ W.cell? ⟨w.heap.size + 1, 1, none⟩ = some (.int .i64 kn) ∧ W.cell? ⟨w.heap.size + 1, 2, none⟩ = some (.string kt) ∧ W.cell? ⟨w.heap.size + 2, 0, none⟩ = some (.int .i64 vk) ∧ W.cell? ⟨w.heap.size + 2, 1, none⟩ = some (.int .i64 vn) ∧ W.cell? ⟨w.heap.size + 2, 2, none⟩ = some (.string vt) from by
    obtain ⟨_, a, -⟩ := CP.out _ (HM.out.trans hk' (fun _ _ h => h))
    obtain ⟨b0, b1, b2, -⟩ := (HV1.out.keeps hk' (fun h => h)).cells
    obtain ⟨c0, c1, c2, -⟩ := (HV2.out.keeps hk' (fun h => h)).cells
    exact ⟨a, b0, b1, b2, c0, c1, c2⟩)
  have CPP := hidden (fun (W : World) (hk' : Keeps (fun _ => False) w1 W) => show Calls Try.prog 37 #[.pointer (some ⟨tb, 0, none⟩), .agg #[.int .i64 kk, .int .i64 kn, .string kt], .agg #[.int .i64 vk, .int .i64 vn, .string vt]] W fun e w' => e = .returned (.int .i64 0) ∧ (∃ F' : Nat → Prop, IsHeap w' F' hb H' s ∧ Keeps F w w' ∧ Fresh F F' w) ∧ (W.cell? ⟨p, 3, none⟩ = some (.pointer (some ⟨tb, 0, none⟩)) → w'.cell? ⟨p, 3, none⟩ = some (.pointer (some ⟨tb, 0, none⟩))) ∧ Keeps F W w' from by
    have hkk := HM.out.trans hk' (fun _ _ h => h)
    obtain ⟨Fu, -, -, g3, g4, g5⟩ := CP.out _ hkk
    refine g5.mono ?_
    rintro e w' ⟨F', rfl, r1, r2, r3⟩
    exact ⟨rfl, ⟨F', r1, (hkk.mono (T := F) (fun _ _ h => h.elim)).trans r2 (fun k _ h => g4 k h), fun k h => (r3 k h).imp id (fun h => Nat.le_trans hkk.size h)⟩, fun e => r2.cell e g3, r2.mono (fun k _ h => g4 k h)⟩)
  have NB1 : ¬ F (w.heap.size + 1) := fun h => by have := hin.out _ h; omega
  have NB2 : ¬ F (w.heap.size + 2) := fun h => by have := hin.out _ h; omega
  clear CP HV1 HV2 hnp hsub
  go_region_held3 (fun W => W.cell? ⟨p, 3, none⟩ = some (.pointer (some ⟨tb, 0, none⟩)) ∧ W.cell? ⟨w.heap.size + 1, 0, none⟩ = some (.int .i64 kk) ∧ W.cell? ⟨w.heap.size + 1, 1, none⟩ = some (.int .i64 kn) ∧ W.cell? ⟨w.heap.size + 1, 2, none⟩ = some (.string kt) ∧ W.cell? ⟨w.heap.size + 2, 0, none⟩ = some (.int .i64 vk) ∧ W.cell? ⟨w.heap.size + 2, 1, none⟩ = some (.int .i64 vn) ∧ W.cell? ⟨w.heap.size + 2, 2, none⟩ = some (.string vt)) (first | exact SE.out | exact SK.out _ (Keeps.refl _ _) | exact SK.out _ ((Keeps.refl _ w1).drewN _)) (first | (go_at_call 37; refine (CPP.out _ ((Keeps.refl _ w1).drewN _)).mono ?_; rintro e w2 ⟨rfl, h1, h2, h3⟩; have G1 := hidden h1; have s0 := SK.out _ ((Keeps.refl _ w1).drewN 1); have SE := hidden (show w2.cell? ⟨p, 3, none⟩ = some (.pointer (some ⟨tb, 0, none⟩)) ∧ w2.cell? ⟨w.heap.size + 1, 0, none⟩ = some (.int .i64 kk) ∧ w2.cell? ⟨w.heap.size + 1, 1, none⟩ = some (.int .i64 kn) ∧ w2.cell? ⟨w.heap.size + 1, 2, none⟩ = some (.string kt) ∧ w2.cell? ⟨w.heap.size + 2, 0, none⟩ = some (.int .i64 vk) ∧ w2.cell? ⟨w.heap.size + 2, 1, none⟩ = some (.int .i64 vn) ∧ w2.cell? ⟨w.heap.size + 2, 2, none⟩ = some (.string vt) from ⟨h2 s0.1, h3.cell s0.2.1 NB1, h3.cell s0.2.2.1 NB1, h3.cell s0.2.2.2.1 NB1, h3.cell s0.2.2.2.2.1 NB2, h3.cell s0.2.2.2.2.2.1 NB2, h3.cell s0.2.2.2.2.2.2 NB2⟩); clear h1 h2 h3 s0))
  obtain ⟨F', r1, r2, r3⟩ := G1.out
  clear SE SK CPP
  go_wp2_with fail
  exact hR.out _ _ ⟨F', rfl, r1, r2, r3⟩
end
end Go.Proofs.Ytmefdniocgcckaa
/- Layer 16: layout: Find; what comes from what: bases. -/
namespace Go.Proofs.Ytmefdniocgcckaa
open Go.RowKit
set_option maxRecDepth 100000

/-- A class and what it comes from. -/
inductive Chain (H : Hp) : V → List V → Prop where
  | nil {v : V} (h : v.k = 0) : Chain H v []
  | cons {i p : Nat} {c : Cl} {b : V} {bs l : List V} (hi : H[i]? = some (some (p, c))) (hk : c.kind = 3) (hv : c.vals = b :: bs) (ht : Chain H b l) : Chain H (rV (i : Nat)) (rV (i : Nat) :: l)
/-- What Of answers of such a one. -/
def StB (H : Hp) (l : List V) (pa : Option Addr) (ea : Int) : Prop :=
  (l = [] ∧ pa = none ∧ ea = 30) ∨ ∃ (i p : Nat) (c : Cl) (b : V) (bs l' : List V), l = rV (i : Nat) :: l' ∧ H[i]? = some (some (p, c)) ∧ c.vals = b :: bs ∧ Chain H b l' ∧ pa = some ⟨p, 0, none⟩ ∧ ea = 0
section
variable {w : World} {F : Nat → Prop} {hb : Nat} {H : List (Option (Nat × Cl))} {s : HSt} {i p : Nat} {c : Cl}
theorem chain_Of (h : IsHeap w F hb H s) {v : V} {l : List V} (hc : Chain H v l) :
    Calls Try.prog 32 #[.pointer (some ⟨hb, 0, none⟩), v.val, .int .i64 3] w fun e w' => (∃ pa ea, e = .returned (.tuple #[.pointer pa, .int .i64 ea]) ∧ StB H l pa ea) ∧ Keeps (fun _ => False) w w' := by
  cases hc with
  | nil hk => exact (heap_Of_type w hb v 3 (by rw [hk]; decide)).mono fun e w' h => ⟨⟨_, _, h.1, .inl ⟨rfl, rfl, rfl⟩⟩, h.2⟩
  | cons hi hk hv ht => exact (heap_Of_ok h hi 3 ⟨#[]⟩ (.inr hk)).mono fun e w' h => ⟨⟨_, _, h.1, .inr ⟨_, _, _, _, _, _, rfl, hi, hv, ht, rfl, rfl⟩⟩, h.2⟩
set_option maxHeartbeats 2000000 in
theorem lay_bases (h : IsHeap w F hb H s) {v : V} {l : List V} (hc : Chain H v l) (hl : l.length ≤ 1152921504606846976) :
    Calls Try.prog 33 #[.pointer (some ⟨hb, 0, none⟩), v.val] w fun e w' => e = .returned (.int .i64 l.length) ∧ Keeps (fun _ => False) w w' := by
  have CO := hidden (fun (W : World) (hk' : Keeps (fun _ => False) w W) => chain_Of (h.calm hk') hc)
  have CB := hidden (fun (W : World) (hk' : Keeps (fun _ => False) w W) (b : V) (l' : List V) (hb' : Chain H b l') => chain_Of (h.calm hk') hb')
  have HC := hidden (fun (W : World) (hk' : Keeps (fun _ => False) w W) (i p : Nat) (c : Cl) (b : V) (bs : List V) (hi : H[i]? = some (some (p, c))) (hv : c.vals = b :: bs) => held_val0 (h.calm hk') hi hv)
  unfold V.val at CO CB
  clear h hc
  obtain ⟨vk, vn, vt⟩ := v
  simp only at CO
  refine post_gen fun R hR => ?_
  unfold V.val
  go_enter Try.func33, Try.ntmps33
  go_wp2_with fail
  refine (CO.out _ (by repeat (first | exact Keeps.refl _ _ | refine Keeps.alloc ?_ _))).mono ?_
  rintro e w1 ⟨⟨pa, ea, rfl, hSt⟩, hK⟩
  have ST := hidden hSt
  have HM := hidden (((Keeps.refl (fun _ => False) w).alloc _).trans hK (fun _ _ h => h))
  clear hSt hK CO
  go_wp2_with fail
  go_loopw [5, 6, 7] (fun n c e wr => ∃ (k : Nat) (l' : List V) (pa : Option Addr) (ea : Int), k + l'.length = l.length ∧ n = .int .i64 k ∧ c = .pointer pa ∧ e = .int .i64 ea ∧ StB H l' pa ea ∧ Keeps (fun _ => False) w wr) (fun n _ _ _ => l.length - (intOf n).toNat)
  case atStart => exact ⟨0, l, _, _, by simp, rfl, rfl, rfl, ST.out, HM.out⟩
  case round =>
    obtain ⟨k, l', pa, ea, hkl, rfl, rfl, rfl, hSt, hK⟩ := hrel
    clear HM ST
    have HK := hidden hK
    clear hK
    rcases hSt with ⟨rfl, rfl, rfl⟩ | ⟨i, p, c, b, bs, l2, rfl, hi, hv, hch, rfl, rfl⟩
    · go_wp2_with fail
      exact hR.out _ _ ⟨ret_int (by simp at hkl; omega), HK.out⟩
    · obtain ⟨g, o, cap, hpz, hgz, y1, q0, q1, q2⟩ := HC.out _ HK.out i p c b bs hi hv
      have C2 := hidden (fun (W : World) (hk' : Keeps (fun _ => False) w W) => CB.out W hk' b l2 hch)
      clear hi hv hch
      obtain ⟨bk, bn, bt⟩ := b
      simp only at C2 q0 q1 q2
      have hk2 : k + 1 + l2.length = l.length := by rw [← hkl]; simp; omega
      have HKL := hidden hk2
      have hkb : k < l.length := by omega
      clear hkl hk2
      go_wp2_with fail
      refine (C2.out _ HK.out).mono ?_
      rintro e w2 ⟨⟨pa, ea, rfl, hSt⟩, hK⟩
      have ST := hidden hSt
      have HK2 := hidden (HK.out.trans hK (fun _ _ h => h))
      clear hSt hK
      go_wp2_with fail
      go_roundw
      case rel => exact ⟨k + 1, l2, _, _, HKL.out, by go_num, rfl, rfl, ST.out, HK2.out⟩
      case measure => simp [intOf]; omega
set_option maxHeartbeats 2000000 in
theorem lay_Find (h : IsHeap w F hb H s) (hi : H[i]? = some (some (p, c))) (hk : c.kind = 3) {tb : Nat} {L : List Ent} {sr : Int} (hc : c.tab = some (tb, L, sr)) (hs : sr < 1073741824) (t : ByteArray) (key : V) (hkz : key.t.size ≤ 140737488351232) :
    Calls Try.prog 42 #[.pointer (some ⟨hb, 0, none⟩), V.val ⟨4, i, t⟩, key.val] w fun e w' => e = .returned (.tuple #[(getR L key).1.val, .int .i64 (getR L key).2]) ∧ Keeps (fun _ => False) w w' := by
  have CO := hidden (fun (W : World) (hk' : Keeps (fun _ => False) w W) => heap_Of_ok (h.calm hk') hi 3 t (.inr hk))
  unfold V.val at CO
  have CG := hidden (fun (W : World) (hk' : Keeps (fun _ => False) w W) => show W.cell? ⟨p, 3, none⟩ = some (.pointer (some ⟨tb, 0, none⟩)) ∧ p < W.heap.size ∧ Calls Try.prog 67 #[.pointer (some ⟨tb, 0, none⟩), key.val] W fun e w' => e = .returned (.tuple #[(getR L key).1.val, .int .i64 (getR L key).2]) ∧ Keeps (fun _ => False) W w' from by
    obtain ⟨Ft, h1, h2, h3, h4, h5, h6, h7⟩ := held_tab2 (h.calm hk') hi hc
    exact ⟨h2, h3, t_Get h1 hs hkz⟩)
  have hpw := (CG.out _ (Keeps.refl _ w)).2.1
  clear h hi hk hc
  generalize getR L key = gg at *
  obtain ⟨⟨gk, gn, gt⟩, ge⟩ := gg
  obtain ⟨kk, kn, kt⟩ := key
  simp only at CG
  refine post_gen fun R hR => ?_
  unfold V.val at CG ⊢
  go_enter Try.func42, Try.ntmps42
  go_wp2_with fail
  refine (CO.out _ (by repeat (first | exact Keeps.refl _ _ | refine Keeps.alloc ?_ _))).mono ?_
  rintro e w1 ⟨rfl, hK⟩
  have HM := hidden (((((Keeps.refl (fun _ => False) w).alloc _).alloc _).alloc _).trans hK (fun _ _ h => h))
  have HV1 := hidden (show IsVar w1 (w.heap.size + 1) ⟨kk, kn, kt⟩ from hK.heap (new3 w _ _ _) (fun h => h))
  have HV2 := hidden (show IsVar w1 (w.heap.size + 2) V.null from hK.heap (new3b w _ _ _) (fun h => h))
  clear hK CO
  go_wp2_with fail
  have SK := hidden (fun (W : World) (hk' : Keeps (fun _ => False) w1 W) => show W.cell? ⟨p, 3, none⟩ = some (.pointer (some ⟨tb, 0, none⟩)) ∧ W.cell? ⟨w.heap.size + 1, 0, none⟩ = some (.int .i64 kk) ∧ W.cell? ⟨w.heap.size + 1, 1, none⟩ = some (.int .i64 kn) ∧ W.cell? ⟨w.heap.size + 1, 2, none⟩ = some (.string kt) from by
    obtain ⟨a, -, -⟩ := CG.out _ (HM.out.trans hk' (fun _ _ h => h))
    obtain ⟨b0, b1, b2, -⟩ := (HV1.out.keeps hk' (fun h => h)).cells
    exact ⟨a, b0, b1, b2⟩)
  have CGG := hidden (fun (W : World) (hk' : Keeps (fun _ => False) w1 W) => (CG.out W (HM.out.trans hk' (fun _ _ h => h))).2.2)
  have hne1 : p ≠ w.heap.size + 2 := by omega
  clear CG HV1
  go_region_held3 (fun W => W.cell? ⟨p, 3, none⟩ = some (.pointer (some ⟨tb, 0, none⟩)) ∧ W.cell? ⟨w.heap.size + 1, 0, none⟩ = some (.int .i64 kk) ∧ W.cell? ⟨w.heap.size + 1, 1, none⟩ = some (.int .i64 kn) ∧ W.cell? ⟨w.heap.size + 1, 2, none⟩ = some (.string kt)) (first | exact SP.out _ _ _ | exact SK.out _ K2.out | exact SK.out _ (Keeps.refl _ _) | exact SK.out _ ((Keeps.refl _ w1).drewN _)) (first | (go_at_call 67; refine (CGG.out _ ((Keeps.refl _ w1).drewN _)).mono ?_; rintro e w2 ⟨rfl, h1⟩; have K2 := hidden (((Keeps.refl (fun _ => False) w1).drewN _).trans h1 (fun _ _ h => h)); have VR := hidden (HV2.out.keeps K2.out (fun h => h)); have SP := hidden (fun (x y z : Value) => show (((w2.setCell ⟨w.heap.size + 2, 0, none⟩ x).setCell ⟨w.heap.size + 2, 1, none⟩ y).setCell ⟨w.heap.size + 2, 2, none⟩ z).cell? ⟨p, 3, none⟩ = some (.pointer (some ⟨tb, 0, none⟩)) ∧ (((w2.setCell ⟨w.heap.size + 2, 0, none⟩ x).setCell ⟨w.heap.size + 2, 1, none⟩ y).setCell ⟨w.heap.size + 2, 2, none⟩ z).cell? ⟨w.heap.size + 1, 0, none⟩ = some (.int .i64 kk) ∧ (((w2.setCell ⟨w.heap.size + 2, 0, none⟩ x).setCell ⟨w.heap.size + 2, 1, none⟩ y).setCell ⟨w.heap.size + 2, 2, none⟩ z).cell? ⟨w.heap.size + 1, 1, none⟩ = some (.int .i64 kn) ∧ (((w2.setCell ⟨w.heap.size + 2, 0, none⟩ x).setCell ⟨w.heap.size + 2, 1, none⟩ y).setCell ⟨w.heap.size + 2, 2, none⟩ z).cell? ⟨w.heap.size + 1, 2, none⟩ = some (.string kt) from (have s0 := SK.out _ K2.out; have kv := (Keeps.refl (fun k => k = w.heap.size + 2) w2).var (r := w.heap.size + 2) (fun _ => rfl) x y z; ⟨kv.cell s0.1 hne1, kv.cell s0.2.1 (by simp), kv.cell s0.2.2.1 (by simp), kv.cell s0.2.2.2 (by simp)⟩)); obtain ⟨v0, v1, v2, v3, v4, v5⟩ := VR.out.cells; have hvz := blk_lt VR.out; simp only [V.null] at v0 v1 v2; clear h1))
  go_wp2_with fail
  obtain ⟨d0, d1, d2, _⟩ := (VR.out.set ⟨gk, gn, gt⟩).cells
  simp only at d0 d1 d2
  exact bodyPost_ret (v := .tuple #[V.val ⟨gk, gn, gt⟩, .int .i64 ge]) (by simp [results, Try.results42, go_sem, d0, d1, d2, V.val]) rfl (hR.out _ _ ⟨rfl, (HM.out.trans K2.out (fun _ _ h => h)).var (r := w.heap.size + 2) (fun h => by omega) _ _ _⟩)
end
end Go.Proofs.Ytmefdniocgcckaa
/- Layer 16: layout: New. -/
namespace Go.Proofs.Ytmefdniocgcckaa
open Go.RowKit
set_option maxRecDepth 100000

section
variable {w : World} {F : Nat → Prop} {hb : Nat} {H : List (Option (Nat × Cl))} {s : HSt} {i p : Nat} {c : Cl}
/-- A cell with a table and one value is handed over. -/
theorem alloc_kept (h : IsHeap w F hb H s) (ho : HOk H s) (hf : s.live < s.limit) {kind : Int} (hk : 1 ≤ kind ∧ kind < 11) {W W2 : World} {tb : Nat} {Ft : Nat → Prop} {L : List Ent} {sr : Int} {b : V} {a : Addr} (hK : Keeps (fun _ => False) w W) (hT : IsT W2 Ft tb L sr) (hsr : sr < 1073741000) (hap : Apart F Ft) (hK2 : Keeps (fun _ => False) W W2) (hv : Vals W2 (some a) [b]) :
    Calls Try.prog 10 #[.pointer (some ⟨hb, 0, none⟩), .agg #[.int .i64 kind, .slice (some a) 1 1, .pointer none, .pointer (some ⟨tb, 0, none⟩), .slice none 0 0, .string ⟨#[]⟩]] W2 fun e w' => ∃ i p F' H' s', e = .returned (.tuple #[.int .i64 (i : Nat), .int .i64 0]) ∧ Made W2 w' F Ft hb H s ⟨kind, [b], none, some (tb, L, sr), [], ⟨#[]⟩⟩ i p F' H' s' := by
  have h2 := (h.calm hK).calm hK2
  have hg : Given W2 F (fun _ => False) Ft ⟨kind, [b], none, some (tb, L, sr), [], ⟨#[]⟩⟩ (some a) none none (some ⟨tb, 0, none⟩) :=
    ⟨hv, fun e => (Option.some_ne_none _ e).elim, fun i x h => by simp at h, fun _ => rfl, rfl, ⟨rfl, hT⟩, Apart.no _, hap, Apart.none _, fun _ h => h.elim, hT.inw, ⟨by show [b].length ≤ 1048576; simp, Nat.zero_le _, fun b xs e => (by cases e), fun b L s e => (by cases e; exact hsr)⟩⟩
  refine (heap_Alloc_made (cv := 1) (cn := 0) h2 ho hg hk hf).mono ?_
  rintro e w' ⟨i, p, F', H', s', rfl, hM⟩
  exact ⟨i, p, F', H', s', rfl, hM.heap, hM.ok, hM.new, hM.live, hM.limit, hM.freed, hM.runs, hM.lt, hM.keeps, fun k hk => (hM.fresh k hk).imp (fun h => h.imp id (fun h => h.elim (fun h => h.elim) id)) id⟩
set_option maxHeartbeats 2000000 in
theorem lay_New_null (h : IsHeap w F hb H s) (ho : HOk H s) (hf : s.live < s.limit) :
    Calls Try.prog 14 #[.pointer (some ⟨hb, 0, none⟩), V.val V.null] w fun e w' => ∃ (i p tb : Nat) (F' : Nat → Prop) (H' : Hp) (s' : HSt), e = .returned (.tuple #[V.val ⟨4, (i : Nat), ⟨#[]⟩⟩, .int .i64 0]) ∧ Made w w' F (fun _ => False) hb H s (classCl tb [] 0 V.null) i p F' H' s' := by
  have HH := hidden h
  have HO := hidden ho
  have HF := hidden hf
  have hin := hidden h.inw
  have CR := hidden (fun (W : World) (n : Int) => heap_Ref n W)
  unfold V.val at CR
  clear h ho hf
  refine post_gen fun R hR => ?_
  unfold V.val V.null
  go_enter Try.func14, Try.ntmps14
  go_wp2_with fail
  refine (t_New _).mono ?_
  rintro e w1 ⟨tb, Ft, rfl, hT, hK, hF⟩
  have HM := hidden ((((Keeps.refl (fun _ => False) w).alloc _).alloc _).trans hK (fun _ _ h => h))
  have HV := hidden (show IsVar w1 (w.heap.size + 1) V.null from hK.heap (new2t w _ _) (fun h => h))
  have HT := hidden hT
  have HFT := hidden (show ∀ k, Ft k → w.heap.size + 2 ≤ k from fun k h => (hF k h).elim (fun h => h.elim) (fun h => by simp at h; omega))
  have HAP := hidden (show Apart F Ft from fun k h1 h2 => by have := hin.out k h1; have := HFT.out k h2; omega)
  obtain ⟨b0, b1, b2, -⟩ := (show IsVar w1 w.heap.size V.null from hK.heap (blk_alloc (blk_new w _) _) (fun h => h)).cells
  have hbz := blk_lt HV.out
  simp only [V.null] at b0 b1 b2
  clear hT hK hF
  have CA := hidden (fun (W2 : World) (hK2 : Keeps (fun _ => False) w1 W2) (a : Addr) (hv : Vals W2 (some a) [(⟨0, 0, ⟨#[]⟩⟩ : V)]) => alloc_kept HH.out HO.out HF.out (kind := 3) (by decide) HM.out (HT.out.none hK2) (by decide) HAP.out hK2 hv)
  clear HH HO HF
  go_wp2_with fail
  refine (CA.out _ ((Keeps.refl _ w1).alloc _) _ (Vals.lit w1 [(⟨0, 0, ⟨#[]⟩⟩ : V)] _ rfl)).mono ?_
  rintro e w8 ⟨i8, p8, F8, H8, s8, rfl, hM⟩
  have HV8 := hidden (show IsVar w8 (w.heap.size + 1) V.null from hM.keeps.heap (blk_alloc HV.out _) (fun h => by have := hin.out _ h; omega))
  have hnf := hidden (show ¬ F8 (w.heap.size + 1) from fun h => by
    have hz := blk_lt HV.out
    rcases hM.fresh _ h with (h | h) | h
    · have := hin.out _ h; omega
    · have := HFT.out _ h; omega
    · simp at h; omega)
  have HM8 := hidden (hM.ahead (w0 := w) (F1 := fun _ => False) (HM.out.alloc _) (fun k h => .inr (by have := HFT.out k h; omega)))
  clear hM CA HV HM HT HAP
  go_wp2_with fail
  refine (CR.out _ _).mono ?_
  rintro e w9 ⟨rfl, hK⟩
  have HV9 := hidden (HV8.out.keeps hK (fun h => h))
  have HM9 := hidden (HM8.out.behind hK (fun k h => h.elim))
  clear hK HV8 HM8
  obtain ⟨v0, v1, v2, v3, v4, v5⟩ := HV9.out.cells
  have hvz := blk_lt HV9.out
  simp only [V.null] at v0 v1 v2
  go_wp2_with fail
  obtain ⟨d0, d1, d2, _⟩ := (HV9.out.set ⟨4, i8, ⟨#[]⟩⟩).cells
  simp only at d0 d1 d2
  exact bodyPost_ret (v := .tuple #[V.val ⟨4, i8, ⟨#[]⟩⟩, .int .i64 0]) (by simp [results, Try.results14, go_sem, d0, d1, d2, V.val]) rfl (hR.out _ _ ⟨i8, p8, _, F8, H8, s8, rfl, HM9.out.behind ((Keeps.refl (fun k => k = w.heap.size + 1) w9).var (r := w.heap.size + 1) (fun _ => rfl) _ _ _) (fun k h => by rw [h]; exact ⟨hnf.out, by omega⟩)⟩)
set_option maxHeartbeats 4000000 in
theorem lay_New_ok (h : IsHeap w F hb H s) (ho : HOk H s) (hf : s.live < s.limit) (hi : H[i]? = some (some (p, c))) (hk : c.kind = 3) {tb0 : Nat} {L : List Ent} {sr : Int} (hc : c.tab = some (tb0, L, sr)) (hs : sr < 1073740000) {l : List V} (hch : Chain H (rV (i : Nat)) l) (hl : l.length < 64) :
    Calls Try.prog 14 #[.pointer (some ⟨hb, 0, none⟩), V.val ⟨4, i, ⟨#[]⟩⟩] w fun e w' => ∃ (i' p' tb : Nat) (F' : Nat → Prop) (H' : Hp) (s' : HSt), e = .returned (.tuple #[V.val ⟨4, (i' : Nat), ⟨#[]⟩⟩, .int .i64 0]) ∧ Made w w' F (fun _ => False) hb H s (classCl tb (cloneE L).1 (cloneE L).2 (rV (i : Nat))) i' p' F' H' s' := by
  have HH := hidden h
  have HO := hidden ho
  have hin := hidden h.inw
  have CR := hidden (fun (W : World) (n : Int) => heap_Ref n W)
  unfold V.val at CR
  have CO := hidden (fun (W : World) (hk' : Keeps (fun _ => False) w W) => heap_Of_ok (h.calm hk') hi 3 ⟨#[]⟩ (.inr hk))
  unfold V.val at CO
  have HF := hidden hf
  have CB := hidden (fun (W : World) (hk' : Keeps (fun _ => False) w W) => lay_bases (h.calm hk') hch (by omega))
  unfold rV V.val at CB
  have CT := hidden (fun (W : World) (hk' : Keeps (fun _ => False) w W) => show W.cell? ⟨p, 3, none⟩ = some (.pointer (some ⟨tb0, 0, none⟩)) ∧ p < W.heap.size ∧ Calls Try.prog 34 #[.pointer (some ⟨tb0, 0, none⟩)] W fun e w' => ∃ b' F', e = .returned (.pointer (some ⟨b', 0, none⟩)) ∧ IsT w' F' b' (cloneE L).1 (cloneE L).2 ∧ Keeps (fun _ => False) W w' ∧ Fresh (fun _ => False) F' W from by
    obtain ⟨Ft, h1, h2, h3, h4, h5, h6, h7⟩ := held_tab2 (h.calm hk') hi hc
    exact ⟨h2, h3, t_Clone W Ft tb0 L sr h1 (by omega)⟩)
  have hcs : (cloneE L).2 < 1073741000 := by
    obtain ⟨Ft, h1, -⟩ := held_tab2 h hi hc
    have h2 := (cloneE_len L).2
    have h3 := h1.lok.most
    omega
  clear h ho hf hi hk hc hch
  generalize l.length = nl at *
  have hnl : (nl : Int) < 64 := by omega
  refine post_gen fun R hR => ?_
  unfold V.val
  go_enter Try.func14, Try.ntmps14
  go_wp2_with fail
  refine (t_New _).mono ?_
  rintro e w1 ⟨tb1, Ft1, rfl, -, hK, -⟩
  have HM1 := hidden ((((Keeps.refl (fun _ => False) w).alloc _).alloc _).trans hK (fun _ _ h => h))
  have HV1 := hidden (show IsVar w1 (w.heap.size + 1) V.null from hK.heap (new2t w _ _) (fun h => h))
  have HB1 := hidden (show IsVar w1 w.heap.size ⟨4, i, ⟨#[]⟩⟩ from hK.heap (blk_alloc (blk_new w _) _) (fun h => h))
  clear hK
  obtain ⟨b0, b1, b2, -⟩ := HB1.out.cells
  have hbz := blk_lt HB1.out
  simp only at b0 b1 b2
  go_wp2_with fail
  refine (CO.out _ HM1.out).mono ?_
  rintro e w2 ⟨rfl, hK⟩
  have HM2 := hidden (HM1.out.trans hK (fun _ _ h => h))
  have HV2 := hidden (HV1.out.keeps hK (fun h => h))
  have HB2 := hidden (HB1.out.keeps hK (fun h => h))
  clear hK b0 b1 b2 hbz HM1 HV1 HB1 CO
  obtain ⟨b0, b1, b2, -⟩ := HB2.out.cells
  have hbz := blk_lt HB2.out
  simp only at b0 b1 b2
  go_wp2_with fail
  refine (CB.out _ HM2.out).mono ?_
  rintro e w3 ⟨rfl, hK⟩
  have HM3 := hidden (HM2.out.trans hK (fun _ _ h => h))
  have HV3 := hidden (HV2.out.keeps hK (fun h => h))
  have HB3 := hidden (HB2.out.keeps hK (fun h => h))
  clear hK b0 b1 b2 hbz HM2 HV2 HB2 CB
  obtain ⟨y3, hpz, CTT⟩ := CT.out _ HM3.out
  have CTT := hidden CTT
  go_wp2_with fail
  refine CTT.out.mono ?_
  rintro e w4 ⟨tb, Ft, rfl, hT, hK, hF⟩
  have HM := hidden (HM3.out.trans hK (fun _ _ h => h))
  have HV := hidden (HV3.out.keeps hK (fun h => h))
  have HB := hidden (HB3.out.keeps hK (fun h => h))
  have HT := hidden hT
  have HFT := hidden (show ∀ k, Ft k → w.heap.size + 2 ≤ k from fun k h => (hF k h).elim (fun h => h.elim) (fun h => by have := blk_lt HV3.out; omega))
  have HAP := hidden (show Apart F Ft from fun k h1 h2 => by have := hin.out k h1; have := HFT.out k h2; omega)
  clear hT hK hF HM3 HV3 HB3 CTT CT y3 hpz
  obtain ⟨b0, b1, b2, -⟩ := HB.out.cells
  have hbz := blk_lt HV.out
  have hbz2 := blk_lt HB.out
  simp only at b0 b1 b2
  have CA := hidden (fun (W2 : World) (hK2 : Keeps (fun _ => False) w4 W2) (a : Addr) (hv : Vals W2 (some a) [(⟨4, i, ⟨#[]⟩⟩ : V)]) => alloc_kept HH.out HO.out HF.out (kind := 3) (by decide) HM.out (HT.out.none hK2) hcs HAP.out hK2 hv)
  clear HH HO HF
  go_wp2_with fail
  refine (CA.out _ ((Keeps.refl _ w4).alloc _) _ (Vals.lit w4 [(⟨4, i, ⟨#[]⟩⟩ : V)] _ rfl)).mono ?_
  rintro e w8 ⟨i8, p8, F8, H8, s8, rfl, hM⟩
  have HV8 := hidden (show IsVar w8 (w.heap.size + 1) V.null from hM.keeps.heap (blk_alloc HV.out _) (fun h => by have := hin.out _ h; omega))
  have hnf := hidden (show ¬ F8 (w.heap.size + 1) from fun h => by
    have hz := blk_lt HV.out
    rcases hM.fresh _ h with (h | h) | h
    · have := hin.out _ h; omega
    · have := HFT.out _ h; omega
    · simp at h; omega)
  have HM8 := hidden (hM.ahead (w0 := w) (F1 := fun _ => False) (HM.out.alloc _) (fun k h => .inr (by have := HFT.out k h; omega)))
  clear hM CA HV HM HT HAP
  go_wp2_with fail
  refine (CR.out _ _).mono ?_
  rintro e w9 ⟨rfl, hK⟩
  have HV9 := hidden (HV8.out.keeps hK (fun h => h))
  have HM9 := hidden (HM8.out.behind hK (fun k h => h.elim))
  clear hK HV8 HM8
  obtain ⟨v0, v1, v2, v3, v4, v5⟩ := HV9.out.cells
  have hvz := blk_lt HV9.out
  simp only [V.null] at v0 v1 v2
  go_wp2_with fail
  obtain ⟨d0, d1, d2, _⟩ := (HV9.out.set ⟨4, i8, ⟨#[]⟩⟩).cells
  simp only at d0 d1 d2
  exact bodyPost_ret (v := .tuple #[V.val ⟨4, i8, ⟨#[]⟩⟩, .int .i64 0]) (by simp [results, Try.results14, go_sem, d0, d1, d2, V.val]) rfl (hR.out _ _ ⟨i8, p8, _, F8, H8, s8, rfl, HM9.out.behind ((Keeps.refl (fun k => k = w.heap.size + 1) w9).var (r := w.heap.size + 1) (fun _ => rfl) _ _ _) (fun k h => by rw [h]; exact ⟨hnf.out, by omega⟩)⟩)
set_option maxHeartbeats 4000000 in
theorem lay_New_deep (h : IsHeap w F hb H s) (ho : HOk H s)  (hi : H[i]? = some (some (p, c))) (hk : c.kind = 3) {tb0 : Nat} {L : List Ent} {sr : Int} (hc : c.tab = some (tb0, L, sr)) (hs : sr < 1073740000) {l : List V} (hch : Chain H (rV (i : Nat)) l) (hl : 64 ≤ l.length) (hl2 : l.length ≤ 1048576) :
    Calls Try.prog 14 #[.pointer (some ⟨hb, 0, none⟩), V.val ⟨4, i, ⟨#[]⟩⟩] w fun e w' => e = .returned (.tuple #[V.val V.null, .int .i64 6]) ∧ Keeps (fun _ => False) w w' := by
  have HH := hidden h
  have HO := hidden ho
  have hin := hidden h.inw
  have CR := hidden (fun (W : World) (n : Int) => heap_Ref n W)
  unfold V.val at CR
  have CO := hidden (fun (W : World) (hk' : Keeps (fun _ => False) w W) => heap_Of_ok (h.calm hk') hi 3 ⟨#[]⟩ (.inr hk))
  unfold V.val at CO
  have CB := hidden (fun (W : World) (hk' : Keeps (fun _ => False) w W) => lay_bases (h.calm hk') hch (by omega))
  unfold rV V.val at CB
  have CN := hidden (fun (W : World) => value_Null W)
  unfold V.val V.null at CN
  clear h ho hi hk hc hch
  generalize l.length = nl at *
  have hnl : (64 : Int) ≤ nl := by omega
  refine post_gen fun R hR => ?_
  unfold V.val
  go_enter Try.func14, Try.ntmps14
  go_wp2_with fail
  refine (t_New _).mono ?_
  rintro e w1 ⟨tb1, Ft1, rfl, -, hK, -⟩
  have HM1 := hidden ((((Keeps.refl (fun _ => False) w).alloc _).alloc _).trans hK (fun _ _ h => h))
  have HV1 := hidden (show IsVar w1 (w.heap.size + 1) V.null from hK.heap (new2t w _ _) (fun h => h))
  have HB1 := hidden (show IsVar w1 w.heap.size ⟨4, i, ⟨#[]⟩⟩ from hK.heap (blk_alloc (blk_new w _) _) (fun h => h))
  clear hK
  obtain ⟨b0, b1, b2, -⟩ := HB1.out.cells
  have hbz := blk_lt HB1.out
  simp only at b0 b1 b2
  go_wp2_with fail
  refine (CO.out _ HM1.out).mono ?_
  rintro e w2 ⟨rfl, hK⟩
  have HM2 := hidden (HM1.out.trans hK (fun _ _ h => h))
  have HV2 := hidden (HV1.out.keeps hK (fun h => h))
  have HB2 := hidden (HB1.out.keeps hK (fun h => h))
  clear hK b0 b1 b2 hbz HM1 HV1 HB1 CO
  obtain ⟨b0, b1, b2, -⟩ := HB2.out.cells
  have hbz := blk_lt HB2.out
  simp only at b0 b1 b2
  go_wp2_with fail
  refine (CB.out _ HM2.out).mono ?_
  rintro e w3 ⟨rfl, hK⟩
  have HM3 := hidden (HM2.out.trans hK (fun _ _ h => h))
  have HV3 := hidden (HV2.out.keeps hK (fun h => h))
  clear hK b0 b1 b2 hbz HM2 HV2 HB2 CB
  go_wp2_with fail
  refine (CN.out _).mono ?_
  rintro e w4 ⟨rfl, hK⟩
  have HM4 := hidden (HM3.out.trans hK (fun _ _ h => h))
  have HV4 := hidden (HV3.out.keeps hK (fun h => h))
  clear hK HM3 HV3
  obtain ⟨v0, v1, v2, v3, v4, v5⟩ := HV4.out.cells
  have hvz := blk_lt HV4.out
  simp only [V.null] at v0 v1 v2
  go_wp2_with fail
  obtain ⟨d0, d1, d2, _⟩ := (HV4.out.set V.null).cells
  simp only [V.null] at d0 d1 d2
  exact bodyPost_ret (v := .tuple #[V.val V.null, .int .i64 6]) (by simp [results, Try.results14, go_sem, d0, d1, d2, V.val, V.null]) rfl (hR.out _ _ ⟨rfl, HM4.out.var (r := w.heap.size + 1) (fun h => by omega) _ _ _⟩)
end
end Go.Proofs.Ytmefdniocgcckaa
/- Layer 16: layout: Make, Is. -/
namespace Go.Proofs.Ytmefdniocgcckaa
open Go.RowKit
set_option maxRecDepth 100000

/-- The fields of an instance: what isn't called. -/
def fieldsE (H : Hp) (L : List Ent) : List Ent × Int := L.foldl (fun q x => if methB H x.val = true then q else putE q.1 q.2 x.key x.val) ([], 0)
theorem fieldsE_snoc (H : Hp) (L : List Ent) (x : Ent) : fieldsE H (L ++ [x]) = if methB H x.val = true then fieldsE H L else putE (fieldsE H L).1 (fieldsE H L).2 x.key x.val := by simp [fieldsE]
theorem fieldsE_len (H : Hp) (L : List Ent) : (fieldsE H L).1.length ≤ L.length ∧ (fieldsE H L).2 ≤ L.length := by
  suffices h : ∀ n (L : List Ent), L.length = n → (fieldsE H L).1.length ≤ L.length ∧ (fieldsE H L).2 ≤ L.length from h _ L rfl
  intro n
  induction n with
  | zero => intro L h; obtain rfl := List.eq_nil_of_length_eq_zero h; exact ⟨Nat.le_refl _, Int.le_refl _⟩
  | succ n ih =>
    intro L h
    rcases List.eq_nil_or_concat L with rfl | ⟨zs, x, rfl⟩
    · simp at h
    · rw [List.concat_eq_append] at h ⊢
      have hz := ih zs (by simp at h; omega)
      rw [fieldsE_snoc, List.length_append, List.length_singleton]
      split
      · omega
      · have := putE_len (fieldsE H zs).1 (fieldsE H zs).2 x.key x.val
        omega
theorem fieldsE_succ (H : Hp) {L : List Ent} {k : Nat} (hk : k < L.length) : fieldsE H (L.take (k + 1)) = if methB H L[k].val = true then fieldsE H (L.take k) else putE (fieldsE H (L.take k)).1 (fieldsE H (L.take k)).2 L[k].key L[k].val := by
  rw [List.take_add_one, List.getElem?_eq_getElem hk]
  exact fieldsE_snoc H _ _
section
variable {w : World} {F : Nat → Prop} {hb : Nat} {H : List (Option (Nat × Cl))} {s : HSt} {i p : Nat} {c : Cl}
set_option maxHeartbeats 8000000 in
theorem lay_Make (h : IsHeap w F hb H s) (ho : HOk H s) (hf : s.live < s.limit) (hi : H[i]? = some (some (p, c))) (hk : c.kind = 3) {tb0 : Nat} {L : List Ent} {sr : Int} (hc : c.tab = some (tb0, L, sr)) (hs : sr < 1073740000) :
    Calls Try.prog 19 #[.pointer (some ⟨hb, 0, none⟩), V.val ⟨4, i, ⟨#[]⟩⟩] w fun e w' => ∃ (i' p' tb : Nat) (F' : Nat → Prop) (H' : Hp) (s' : HSt), e = .returned (.tuple #[V.val ⟨4, (i' : Nat), ⟨#[]⟩⟩, .int .i64 0]) ∧ Made w w' F (fun _ => False) hb H s (instCl tb (fieldsE H L).1 (fieldsE H L).2 (rV (i : Nat))) i' p' F' H' s' := by
  have HH := hidden h
  have HO := hidden ho
  have HF := hidden hf
  have hin := hidden h.inw
  have CR := hidden (fun (W : World) (n : Int) => heap_Ref n W)
  unfold V.val at CR
  have CO := hidden (fun (W : World) (hk' : Keeps (fun _ => False) w W) => heap_Of_ok (h.calm hk') hi 3 ⟨#[]⟩ (.inr hk))
  unfold V.val at CO
  have CM := hidden (fun (W : World) (hk' : Keeps (fun _ => False) w W) (v : V) => lay_Method (h.calm hk') v)
  unfold V.val at CM
  have CT := hidden (fun (W : World) (hk' : Keeps (fun _ => False) w W) => show W.cell? ⟨p, 3, none⟩ = some (.pointer (some ⟨tb0, 0, none⟩)) ∧ p < W.heap.size ∧ ∀ cu : Int, Calls Try.prog 38 #[.pointer (some ⟨tb0, 0, none⟩), .int .i64 cu] W fun e w' => e = .returned (nextAns L cu) ∧ Keeps (fun _ => False) W w' from by
    obtain ⟨Ft, h1, h2, h3, h4, h5, h6, h7⟩ := held_tab2 (h.calm hk') hi hc
    exact ⟨h2, h3, fun cu => t_Next h1 (by omega) cu⟩)
  have HLK := hidden (show Lok L sr from by
    obtain ⟨Ft, h1, -⟩ := held_tab2 h hi hc
    exact h1.lok)
  have hmost := HLK.out.most
  clear h ho hf hi hk hc
  refine post_gen fun R hR => ?_
  unfold V.val
  go_enter Try.func19, Try.ntmps19
  go_wp2_with fail
  refine (CO.out _ (by repeat (first | exact Keeps.refl _ _ | refine Keeps.alloc ?_ _))).mono ?_
  rintro e w1 ⟨rfl, hK⟩
  have HM1 := hidden ((((Keeps.refl (fun _ => False) w).alloc _).alloc _).trans hK (fun _ _ h => h))
  have HV1 := hidden (show IsVar w1 (w.heap.size + 1) V.null from hK.heap (new2t w _ _) (fun h => h))
  have HB1 := hidden (show IsVar w1 w.heap.size ⟨4, i, ⟨#[]⟩⟩ from hK.heap (blk_alloc (blk_new w _) _) (fun h => h))
  clear hK CO
  go_wp2_with fail
  refine (t_New _).mono ?_
  rintro e w2 ⟨fb, Fq, rfl, hT, hK, hF⟩
  have HM2 := hidden (HM1.out.trans hK (fun _ _ h => h))
  have HV2 := hidden (HV1.out.keeps hK (fun h => h))
  have HB2 := hidden (HB1.out.keeps hK (fun h => h))
  have HT2 := hidden hT
  have HFT := hidden (show ∀ k, Fq k → w.heap.size + 2 ≤ k from fun k h => (hF k h).elim (fun h => h.elim) (fun h => by have := blk_lt HV1.out; omega))
  clear hT hK hF HM1 HV1 HB1
  go_wp2_with fail
  go_loopw [9] (fun cu wr => ∃ (k : Nat) (Fq : Nat → Prop), k ≤ L.length ∧ cu = .int .i64 (curT L k) ∧ IsT wr Fq fb (fieldsE H (L.take k)).1 (fieldsE H (L.take k)).2 ∧ Keeps (fun _ => False) w wr ∧ IsVar wr w.heap.size ⟨4, i, ⟨#[]⟩⟩ ∧ IsVar wr (w.heap.size + 1) V.null ∧ ∀ k, Fq k → w.heap.size + 2 ≤ k) (fun cu _ => (sr - intOf cu).toNat)
  case atStart => exact ⟨0, Fq, Nat.zero_le _, rfl, HT2.out, HM2.out, HB2.out, HV2.out, HFT.out⟩
  case round =>
    clear HT2 HM2 HB2 HV2 HFT
    obtain ⟨k, Fq, hkl, rfl, hT, hK, hB, hV, hFT⟩ := hrel
    have HT := hidden hT
    have HM := hidden hK
    have HB := hidden hB
    have HV := hidden hV
    have HFT := hidden hFT
    clear hT hK hB hV hFT
    obtain ⟨y3, hpz, CN⟩ := CT.out _ HM.out
    have hlen := fieldsE_len H (L.take k)
    have htk : (L.take k).length ≤ k := List.length_take_le _ _
    by_cases hlt : k < L.length
    · have CN := hidden (CN (curT L k))
      rw [nextAns, next_at HLK.out hlt] at CN
      unfold V.val at CN
      have hcu := (curT_le HLK.out (Nat.le_of_lt hlt) hlt).2 (Nat.le_refl _)
      have HCS := hidden (curT_succ hlt)
      have hsers := HLK.out.sers L[k] (List.getElem_mem hlt)
      have hkz := HLK.out.keys L[k] (List.getElem_mem hlt)
      have hkn := HLK.out.nnul L[k] (List.getElem_mem hlt)
      have HFS := hidden (fieldsE_succ H hlt)
      generalize curT L k = cu at *
      generalize L[k] = x at *
      obtain ⟨⟨kk, kn, kt⟩, ⟨vk, vn, vt⟩, xs, xg⟩ := x
      simp only at CN hcu hsers hkz hkn
      have CP := hidden (fun (W : World) (hk' : Keeps (fun _ => False) wr W) => t_Put (HT.out.none hk') (by omega) (key := ⟨kk, kn, kt⟩) ⟨vk, vn, vt⟩ hkn hkz (by omega))
      unfold V.val at CP
      simp only at HCS HFS
      go_wp2_with fail
      refine CN.out.mono ?_
      rintro e w3 ⟨rfl, hK⟩
      have K3 := hidden hK
      clear hK CN y3
      go_wp2_with fail
      refine (CM.out _ ((HM.out.trans K3.out (fun _ _ h => h)).alloc _ |>.alloc _) ⟨vk, vn, vt⟩).mono ?_
      rintro e w4 ⟨rfl, hK⟩
      have K4 := hidden ((((K3.out.alloc _).alloc _)).trans hK (fun _ _ h => h))
      have V1 := hidden (show IsVar w4 w3.heap.size ⟨kk, kn, kt⟩ from hK.heap (blk_alloc (blk_new w3 _) _) (fun h => h))
      have V2 := hidden (show IsVar w4 (w3.heap.size + 1) ⟨vk, vn, vt⟩ from hK.heap (new2t w3 _ _) (fun h => h))
      clear hK K3
      cases hm : methB H ⟨vk, vn, vt⟩ with
      | true =>
        rw [hm] at HFS
        clear hm
        go_wp2_with fail
        go_roundw
        case rel => exact ⟨k + 1, Fq, hlt, by rw [HCS.out], by rw [HFS.out, if_pos (by first | trivial | rfl)]; exact HT.out.none K4.out, HM.out.trans K4.out (fun _ _ h => h), HB.out.keeps K4.out (fun h => h), HV.out.keeps K4.out (fun h => h), HFT.out⟩
        case measure => simp [intOf]; omega
      | false =>
        rw [hm] at HFS
        clear hm
        obtain ⟨a0, a1, a2, -⟩ := V1.out.cells
        obtain ⟨c0, c1, c2, -⟩ := V2.out.cells
        have haz := blk_lt V1.out
        have hcz := blk_lt V2.out
        simp only at a0 a1 a2 c0 c1 c2
        go_wp2_with fail
        refine (CP.out _ K4.out).mono ?_
        rintro e w5 ⟨Fq2, rfl, hT2, hK, hF⟩
        have HT2 := hidden hT2
        have KP := hidden hK
        have HFT2 := hidden (show ∀ k, Fq2 k → w.heap.size + 2 ≤ k from fun k h => (hF k h).elim (HFT.out k) (fun h => by have := blk_lt HV.out; have := K4.out.size; omega))
        clear hT2 hK hF
        go_wp2_with fail
        go_roundw
        case rel => exact ⟨k + 1, Fq2, hlt, by rw [HCS.out], by rw [HFS.out, if_neg (by decide)]; exact HT2.out, (HM.out.trans K4.out (fun _ _ h => h)).trans KP.out (fun j hj h => by have := HFT.out j h; omega), (HB.out.keeps K4.out (fun h => h)).keeps KP.out (fun h => by have := HFT.out _ h; omega), (HV.out.keeps K4.out (fun h => h)).keeps KP.out (fun h => by have := HFT.out _ h; omega), HFT2.out⟩
        case measure => simp [intOf]; omega
    · obtain rfl : k = L.length := by omega
      have CN := hidden (CN (curT L L.length))
      rw [nextAns, next_end HLK.out] at CN
      unfold V.val V.null at CN
      rw [List.take_length] at HT hlen
      generalize curT L L.length = cu at *
      go_wp2_with fail
      refine CN.out.mono ?_
      rintro e w3 ⟨rfl, hK⟩
      have HMa := hidden (HM.out.trans hK (fun _ _ h => h))
      have HVa := hidden (HV.out.keeps hK (fun h => h))
      have HBa := hidden (HB.out.keeps hK (fun h => h))
      have HTa := hidden (HT.out.none hK)
      clear hK HM HV HB HT CN y3 hpz
      have HAP := hidden (show Apart F Fq from fun k h1 h2 => by have := hin.out k h1; have := HFT.out k h2; omega)
      have CA := hidden (fun (W2 : World) (hK2 : Keeps (fun _ => False) w3 W2) (a : Addr) (hv : Vals W2 (some a) [(⟨4, i, ⟨#[]⟩⟩ : V)]) => alloc_kept HH.out HO.out HF.out (kind := 4) (by decide) HMa.out (HTa.out.none hK2) (by omega) HAP.out hK2 hv)
      clear HH HO HF
      obtain ⟨b0, b1, b2, -⟩ := HBa.out.cells
      have hbz := blk_lt HBa.out
      have hbz2 := blk_lt HVa.out
      simp only at b0 b1 b2
      go_wp2_with fail
      refine (CA.out _ ?k1 _ ?k2).mono ?_
      case k1 => repeat (first | exact Keeps.refl _ _ | refine Keeps.alloc ?_ _)
      case k2 => exact Vals.lit _ [(⟨4, i, ⟨#[]⟩⟩ : V)] _ (by simp)
      rintro e w8 ⟨i8, p8, F8, H8, s8, rfl, hM⟩
      have hms := hM.keeps.size
      have HV8 := hidden (show IsVar w8 (w.heap.size + 1) V.null from hM.keeps.heap (blk_alloc (blk_alloc (blk_alloc HVa.out _) _) _) (fun h => by have := hin.out _ h; omega))
      have hnf := hidden (show ¬ F8 (w.heap.size + 1) from fun h => by
        have hz := blk_lt HVa.out
        rcases hM.fresh _ h with (h | h) | h
        · have := hin.out _ h; omega
        · have := HFT.out _ h; omega
        · simp at h; omega)
      have HM8 := hidden (hM.ahead (w0 := w) (F1 := fun _ => False) (((HMa.out.alloc _).alloc _).alloc _) (fun k h => .inr (by have := HFT.out k h; omega)))
      clear hM CA HVa HMa HTa HAP b0 b1 b2 hbz hbz2
      go_wp2_with fail
      refine (CR.out _ _).mono ?_
      rintro e w9 ⟨rfl, hK⟩
      have HV9 := hidden (HV8.out.keeps hK (fun h => h))
      have HM9 := hidden (HM8.out.behind hK (fun k h => h.elim))
      clear hK HV8 HM8
      obtain ⟨v0, v1, v2, v3, v4, v5⟩ := HV9.out.cells
      have hvz := blk_lt HV9.out
      simp only [V.null] at v0 v1 v2
      go_wp2_with fail
      obtain ⟨d0, d1, d2, _⟩ := (HV9.out.set ⟨4, i8, ⟨#[]⟩⟩).cells
      simp only at d0 d1 d2
      exact bodyPost_ret (v := .tuple #[V.val ⟨4, i8, ⟨#[]⟩⟩, .int .i64 0]) (by simp [results, Try.results19, go_sem, d0, d1, d2, V.val]) rfl (hR.out _ _ ⟨i8, p8, _, F8, H8, s8, rfl, HM9.out.behind ((Keeps.refl (fun k => k = w.heap.size + 1) w9).var (r := w.heap.size + 1) (fun _ => rfl) _ _ _) (fun k h => by rw [h]; exact ⟨hnf.out, by omega⟩)⟩)
end
end Go.Proofs.Ytmefdniocgcckaa
/- Layer 16: layout: Is, Clone. -/
namespace Go.Proofs.Ytmefdniocgcckaa
open Go.RowKit
set_option maxRecDepth 100000

section
variable {w : World} {F : Nat → Prop} {hb : Nat} {H : List (Option (Nat × Cl))} {s : HSt} {i p : Nat} {c : Cl}
end
end Go.Proofs.Ytmefdniocgcckaa
/- Layer 16: layout: Clone. -/
namespace Go.Proofs.Ytmefdniocgcckaa
open Go.RowKit
set_option maxRecDepth 100000

section
variable {w : World} {F : Nat → Prop} {hb : Nat} {H : List (Option (Nat × Cl))} {s : HSt} {i p : Nat} {c : Cl}
end
end Go.Proofs.Ytmefdniocgcckaa
/- Layer 16: layout: Clone of what can't be. -/
namespace Go.Proofs.Ytmefdniocgcckaa
open Go.RowKit
set_option maxRecDepth 100000

section
variable {w : World} {F : Nat → Prop} {hb : Nat} {H : List (Option (Nat × Cl))} {s : HSt} {i p : Nat} {c : Cl}
end
end Go.Proofs.Ytmefdniocgcckaa
/- Layer 16: the statements' pairs: rows of them; with. -/
namespace Go.Proofs.Ytmefdniocgcckaa
open Go.RowKit
set_option maxRecDepth 100000

def pairC (p : V × V) : List Value := [.int .i64 p.1.k, .int .i64 p.1.n, .string p.1.t, .int .i64 p.2.k, .int .i64 p.2.n, .string p.2.t]
def flatQ (E : List (V × V)) : List Value := E.flatMap pairC
theorem flatQ_length (E : List (V × V)) : (flatQ E).length = E.length * 6 := by
  induction E with
  | nil => rfl
  | cons x xs ih => simp only [flatQ, List.flatMap_cons, List.length_append] at ih ⊢; rw [ih]; simp [pairC]; omega
theorem flatQ_append (E G : List (V × V)) : flatQ (E ++ G) = flatQ E ++ flatQ G := by simp [flatQ]
theorem flatQ_one (E : List (V × V)) : ∀ u ∈ flatQ E, u.oneCell' = true := by
  intro u hu
  simp only [flatQ, List.mem_flatMap] at hu
  obtain ⟨v, _, h⟩ := hu
  simp [pairC] at h
  rcases h with rfl | rfl | rfl | rfl | rfl | rfl <;> rfl
theorem flatQ_get (xs : List (V × V)) : ∀ (i : Nat) (x : V × V), xs[i]? = some x → ∀ j, j < 6 → (flatQ xs)[i * 6 + j]? = (pairC x)[j]? := by
  induction xs with
  | nil => intro i x h; simp at h
  | cons y xs ih =>
    intro i x h j hj
    have e : flatQ (y :: xs) = pairC y ++ flatQ xs := by simp [flatQ]
    rw [e]
    cases i with
    | zero =>
      simp at h
      subst h
      rw [List.getElem?_append_left (by simp [pairC]; omega)]
      simp
    | succ i =>
      simp at h
      rw [List.getElem?_append_right (by simp [pairC]; omega)]
      have := ih i x h j hj
      rw [← this]
      congr 1
      simp [pairC]; omega
theorem flatQ_set (E : List (V × V)) (y : V × V) : ∀ (i : Nat) (_ : i < E.length), ((((((flatQ E).set (i * 6) (.int .i64 y.1.k)).set (i * 6 + 1) (.int .i64 y.1.n)).set (i * 6 + 2) (.string y.1.t)).set (i * 6 + 3) (.int .i64 y.2.k)).set (i * 6 + 4) (.int .i64 y.2.n)).set (i * 6 + 5) (.string y.2.t) = flatQ (E.set i y) := by
  induction E with
  | nil => intro i h; simp at h
  | cons x xs ih =>
    intro i hi
    cases i with
    | zero => simp [flatQ, pairC]
    | succ i =>
      have e : flatQ (x :: xs) = pairC x ++ flatQ xs := by simp [flatQ]
      have e2 : flatQ ((x :: xs).set (i + 1) y) = pairC x ++ flatQ (xs.set i y) := by simp [flatQ]
      have h8 : (pairC x).length = 6 := rfl
      have k : ∀ (L : List Value) (j : Nat) (v : Value), (pairC x ++ L).set ((i + 1) * 6 + j) v = pairC x ++ L.set (i * 6 + j) v := fun L j v => by
        rw [List.set_append_right _ _ (by rw [h8]; omega), h8]
        congr 2
        omega
      have k0 : ∀ (L : List Value) (v : Value), (pairC x ++ L).set ((i + 1) * 6) v = pairC x ++ L.set (i * 6) v := fun L v => k L 0 v
      rw [e, e2, k0, k, k, k, k, k, ih i (by simpa using hi)]
structure QAt (w : World) (g o i : Nat) (x : V × V) : Prop where
  c0 : w.cell? ⟨g, o + i * 6, none⟩ = some (.int .i64 x.1.k)
  c1 : w.cell? ⟨g, o + i * 6 + 1, none⟩ = some (.int .i64 x.1.n)
  c2 : w.cell? ⟨g, o + i * 6 + 2, none⟩ = some (.string x.1.t)
  c3 : w.cell? ⟨g, o + i * 6 + 3, none⟩ = some (.int .i64 x.2.k)
  c4 : w.cell? ⟨g, o + i * 6 + 4, none⟩ = some (.int .i64 x.2.n)
  c5 : w.cell? ⟨g, o + i * 6 + 5, none⟩ = some (.string x.2.t)
theorem QAt.keeps {w w1 : World} {S : Nat → Prop} {g o i : Nat} {x : V × V} (h : QAt w g o i x) (hk : Keeps S w w1) (hn : ¬ S g) : QAt w1 g o i x :=
  ⟨hk.cell h.c0 hn, hk.cell h.c1 hn, hk.cell h.c2 hn, hk.cell h.c3 hn, hk.cell h.c4 hn, hk.cell h.c5 hn⟩
def Qs (w : World) (A : Option Addr) (E : List (V × V)) : Prop := ∀ i x, E[i]? = some x → ∃ g o, A = some ⟨g, o, none⟩ ∧ QAt w g o i x
theorem Qs.calm {w w1 : World} {A : Option Addr} {E : List (V × V)} (h : Qs w A E) (hk : Keeps (fun _ => False) w w1) : Qs w1 A E := fun i x hi => by
  obtain ⟨b, o, rfl, h1⟩ := h i x hi
  exact ⟨b, o, rfl, h1.keeps hk (fun h => h)⟩
theorem Qs.own {w : World} {base e n c : Nat} {A : Option Addr} {E : List (V × V)} (h : w.ownsRow base e 6 (.slice A n c) n (flatQ E)) : Qs w A E := fun i x hi => by
  have hil := (List.getElem?_eq_some_iff.1 hi).1
  rcases h.2 with ⟨h1, h2⟩ | ⟨g, cap, cur, h1, _⟩
  · have := h.1
    rw [flatQ_length] at this
    omega
  · simp at h1
    obtain ⟨rfl, rfl⟩ := h1
    have hc := h.cells (g := g) rfl
    have k : ∀ j v, j < 6 → (pairC x)[j]? = some v → w.cell? ⟨g, 0 + (i * 6 + j), none⟩ = some v := fun j v hj hv => by
      have := hc (i * 6 + j) v ((flatQ_get E i x hi j hj).trans hv)
      rwa [add_at3] at this
    exact ⟨g, 0, rfl, ⟨k 0 _ (by omega) rfl, k 1 _ (by omega) rfl, k 2 _ (by omega) rfl, k 3 _ (by omega) rfl, k 4 _ (by omega) rfl, k 5 _ (by omega) rfl⟩⟩
theorem Row.openQ {w : World} {F : Nat → Prop} {e n c : Nat} {A : Option Addr} {E : List (V × V)} (h : Row w F e 6 (.slice A n c) n (flatQ E)) {i : Nat} (hi : i < E.length) : ∃ g, A = some ⟨g, 0, none⟩ ∧ F g ∧ g < w.heap.size ∧ QAt w g 0 i E[i] ∧ ∀ j, w.frozen? ⟨g, j, none⟩ = false := by
  obtain ⟨b, o, rfl, hx⟩ := Qs.own h.1 i E[i] (by simp [hi])
  have ho : o = 0 := by
    rcases h.1.2 with ⟨he, _⟩ | ⟨g, cap, cur, he, _⟩
    · simp at he
    · simp at he; exact he.1.2
  subst ho
  exact ⟨b, rfl, h.2 b rfl, World.block_lt_of_cell? w _ hx.c0, hx, fun j => h.1.frozenAt _⟩
def putQ (w : World) (g q : Nat) (y : V × V) : World := (((((w.setCell ⟨g, q * 6, none⟩ (.int .i64 y.1.k)).setCell ⟨g, q * 6 + 1, none⟩ (.int .i64 y.1.n)).setCell ⟨g, q * 6 + 2, none⟩ (.string y.1.t)).setCell ⟨g, q * 6 + 3, none⟩ (.int .i64 y.2.k)).setCell ⟨g, q * 6 + 4, none⟩ (.int .i64 y.2.n)).setCell ⟨g, q * 6 + 5, none⟩ (.string y.2.t)
theorem Row.putQ {w : World} {F : Nat → Prop} {e n c g : Nat} {L : List (V × V)} (h : Row w F e 6 (.slice (some ⟨g, 0, none⟩) n c) n (flatQ L)) {q : Nat} (hq : q < L.length) (y : V × V) :
    Row (putQ w g q y) F e 6 (.slice (some ⟨g, 0, none⟩) n c) n (flatQ (L.set q y)) := by
  have h3 := (((((h.1.stored (q * 6) (.int .i64 y.1.k)).1.stored (q * 6 + 1) (.int .i64 y.1.n)).1.stored (q * 6 + 2) (.string y.1.t)).1.stored (q * 6 + 3) (.int .i64 y.2.k)).1.stored (q * 6 + 4) (.int .i64 y.2.n)).1.stored (q * 6 + 5) (.string y.2.t)
  rw [flatQ_set L y q hq] at h3
  exact ⟨h3.1, h.2⟩
theorem SameBut.putQ {b : Nat} {w1 w2 : World} (h : SameBut b w1 w2) (i : Nat) (y : V × V) : SameBut b w1 (putQ w2 b i y) := (((((h.set _ _).set _ _).set _ _).set _ _).set _ _).set _ _
theorem Qs.src {P : Program} {w : World} {A : Option Addr} {E : List (V × V)} {c : Nat} {t e' : TypeId} (h : Qs w A E) (hu : P.underlying t = some (.slice e')) : Src P 6 t (.slice A E.length c) E.length (flatQ E) w := by
  cases hs : E with
  | nil =>
    cases A with
    | none => exact Src.ofNil w hu c
    | some a => exact Src.ofSlice w hu a 0 c [] rfl (by simp) (by simp)
  | cons s l =>
    obtain ⟨b, o, rfl, _⟩ := h 0 s (by simp [hs])
    rw [← hs]
    refine Src.ofSlice w hu _ _ c _ (flatQ_length E) ?_ (flatQ_one E)
    intro j u hj
    have hjl := (List.getElem?_eq_some_iff.1 hj).1
    rw [flatQ_length] at hjl
    have hil : j / 6 < E.length := by omega
    obtain ⟨b', o', he, hx⟩ := h (j / 6) _ (List.getElem?_eq_getElem hil)
    simp at he
    obtain ⟨rfl, rfl⟩ := he
    have hg := flatQ_get E (j / 6) _ (List.getElem?_eq_getElem hil) (j % 6) (by omega)
    rw [show j / 6 * 6 + j % 6 = j by omega, hj] at hg
    rw [add_at3]
    have h6 : j % 6 = 0 ∨ j % 6 = 1 ∨ j % 6 = 2 ∨ j % 6 = 3 ∨ j % 6 = 4 ∨ j % 6 = 5 := by omega
    rcases h6 with h6 | h6 | h6 | h6 | h6 | h6 <;> rw [h6] at hg <;> simp [pairC] at hg <;> subst hg
    · rw [show o + j = o + j / 6 * 6 by omega]; exact hx.c0
    · rw [show o + j = o + j / 6 * 6 + 1 by omega]; exact hx.c1
    · rw [show o + j = o + j / 6 * 6 + 2 by omega]; exact hx.c2
    · rw [show o + j = o + j / 6 * 6 + 3 by omega]; exact hx.c3
    · rw [show o + j = o + j / 6 * 6 + 4 by omega]; exact hx.c4
    · rw [show o + j = o + j / 6 * 6 + 5 by omega]; exact hx.c5
theorem Qs.lit (w : World) (x : V × V) (t : TypeId) {m : Nat} (hm : m = w.heap.size) : Qs (w.alloc (.cells #[.int .i64 x.1.k, .int .i64 x.1.n, .string x.1.t, .int .i64 x.2.k, .int .i64 x.2.n, .string x.2.t] t)) (some ⟨m, 0, none⟩) [x] := fun i y hi => by
  subst hm
  have hi0 : i = 0 := by have := (List.getElem?_eq_some_iff.1 hi).1; simp at this; omega
  subst hi0
  simp at hi
  subst hi
  exact ⟨_, _, rfl, ⟨by rw [blk_cell (blk_new w _)]; rfl, by rw [blk_cell (blk_new w _)]; rfl, by rw [blk_cell (blk_new w _)]; rfl, by rw [blk_cell (blk_new w _)]; rfl, by rw [blk_cell (blk_new w _)]; rfl, by rw [blk_cell (blk_new w _)]; rfl⟩⟩
/-- Pairs with one more, or another value. -/
def withQ (E : List (V × V)) (p : V × V) : List (V × V) := if E.any (fun y => decide (y.1 = p.1)) then E.set (E.findIdx (fun y => decide (y.1 = p.1))) p else E ++ [p]
theorem withQ_at {E : List (V × V)} {p : V × V} {k : Nat} (hk : k < E.length) (he : E[k].1 = p.1) (hn : ∀ (j : Nat) (hj : j < E.length), j < k → E[j].1 ≠ p.1) : withQ E p = E.set k p := by
  unfold withQ
  rw [if_pos (List.any_eq_true.2 ⟨E[k], List.getElem_mem hk, by simpa using he⟩)]
  congr 1
  rw [List.findIdx_eq hk]
  exact ⟨by simpa using he, fun j hj => by simpa using hn j (by omega) hj⟩
theorem withQ_no {E : List (V × V)} {p : V × V} (hn : ∀ (j : Nat) (hj : j < E.length), E[j].1 ≠ p.1) : withQ E p = E ++ [p] := by
  unfold withQ
  rw [if_neg]
  intro h
  obtain ⟨x, hx, e⟩ := List.any_eq_true.1 h
  obtain ⟨j, hj, rfl⟩ := List.mem_iff_getElem.1 hx
  exact hn j hj (by simpa using e)
/-- A table that is put to has just such pairs. -/
theorem putE_kv {L : List Ent} (hd : L.Pairwise (fun a b => a.key ≠ b.key)) (s : Int) (key val : V) : (putE L s key val).1.map Ent.kv = withQ (L.map Ent.kv) (key, val) := by
  unfold putE
  by_cases hh : hasL L key = true
  · rw [if_pos hh]
    obtain ⟨q, hq, e⟩ := hasL_at hh
    have hp := List.pairwise_iff_getElem.1 hd
    rw [withQ_at (k := q) (by simpa using hq) (by simpa [Ent.kv] using e) (fun j hj hjq => by
      simp only [List.getElem_map]
      intro e2
      exact hp j q (by simpa using hj) hq hjq (e2.trans e.symm))]
    refine List.ext_getElem? fun i => ?_
    rw [List.getElem?_map, putL, List.getElem?_map, List.getElem?_set]
    by_cases hqi : q = i
    · subst hqi
      rw [if_pos rfl, if_pos (by simpa using hq), List.getElem?_eq_getElem hq]
      simp [e, Ent.kv]
    · rw [if_neg hqi, List.getElem?_map]
      cases hy : L[i]? with
      | none => rfl
      | some y =>
        obtain ⟨hi, rfl⟩ := List.getElem?_eq_some_iff.1 hy
        have hne : L[i].key ≠ key := fun h => by
          rcases Nat.lt_or_ge i q with h1 | h1
          · exact hp i q hi hq h1 (h.trans e.symm)
          · exact hp q i hq hi (by omega) (e.trans h.symm)
        simp [hne]
  · rw [if_neg hh]
    have hno := hasL_no (Bool.eq_false_iff.2 hh)
    rw [withQ_no (fun j hj => by simp only [List.getElem_map]; exact hno _ (List.getElem_mem _))]
    simp [Ent.kv]
theorem madeQ (w0 : World) (e size : Nat) {m : Nat} (hm : m = w0.heap.size) {F : Nat → Prop} (hF : F m) : Row (w0.alloc (.cells #[] e)) F e size (.slice (some ⟨m, 0, none⟩) 0 0) 0 [] := by
  subst hm
  exact (Row.made0 w0 e size).mono (fun k _ h => by subst h; exact hF)
end Go.Proofs.Ytmefdniocgcckaa
