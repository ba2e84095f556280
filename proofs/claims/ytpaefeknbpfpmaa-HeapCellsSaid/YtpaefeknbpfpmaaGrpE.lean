/- Texts that belong together: HeapG HeapH HeapI HeapJ HeapK HeapL HeapM HeapN HeapO HeapP HeapQ. -/
import Derived.Test.YtpaefeknbpfpmaaGrpD
import Derived.Test.YtpaefeknbpfpmaaGrpB
import Derived.Lib.OthersKept
/- Layer 6: the heap: a cell more, as a value: value, NewArray, NewTable, NewBox, Aim. -/
namespace Go.Proofs.Ytpaefeknbpfpmaa
open Go.RowKit
set_option maxRecDepth 100000

theorem heap_Ref (n : Int) (w : World) : Calls Try.prog 24 #[.int .i64 n] w fun e w' => e = .returned (V.val ⟨4, n, ⟨#[]⟩⟩) ∧ Keeps (fun _ => False) w w' := by
  refine post_gen fun R hR => ?_
  go_enter Try.func24, Try.ntmps24
  go_wp2
  exact bodyPost_ret (v := V.val ⟨4, n, ⟨#[]⟩⟩) (by simp [results, Try.results24, go_sem, V.val]) rfl (hR.out _ _ ⟨rfl, (Keeps.refl _ _).alloc _⟩)
theorem Given.none {w w1 : World} {F Fl Ft : Nat → Prop} {c : Cl} {Av An lp tp : Option Addr} (h : Given w F Fl Ft c Av An lp tp) (hk : Keeps (fun _ => False) w w1) : Given w1 F Fl Ft c Av An lp tp :=
  ⟨h.vals.keeps hk (fun _ _ _ _ h => h), h.nv, h.nums.keeps hk (fun _ _ _ _ h => h), h.nn, h.list.keeps hk (Apart.no _), h.tab.keeps hk (Apart.no _), h.fl, h.ft, h.lt, h.il.keeps hk, h.it.keeps hk, h.small⟩
/-- A cell more has come. -/
structure Made (w w' : World) (F F0 : Nat → Prop) (hb : Nat) (H : List (Option (Nat × Cl))) (s : HSt) (c : Cl) (i p : Nat) (F' : Nat → Prop) (H' : List (Option (Nat × Cl))) (s' : HSt) : Prop where
  heap : IsHeap w' F' hb H' s'
  ok : HOk H' s'
  new : NewAt H H' i (p, c)
  live : s'.live = s.live + 1
  limit : s'.limit = s.limit
  freed : s'.freed = s.freed
  runs : s'.runs = s.runs
  lt : i < 1048576
  keeps : Keeps F w w'
  fresh : Fresh (fun k => F k ∨ F0 k) F' w
section
variable {w w' w0 : World} {F F0 F1 : Nat → Prop} {hb : Nat} {H : List (Option (Nat × Cl))} {s : HSt} {c : Cl} {i p : Nat} {F' : Nat → Prop} {H' : List (Option (Nat × Cl))} {s' : HSt}
theorem Made.ahead (h : Made w w' F F0 hb H s c i p F' H' s') (hk : Keeps (fun _ => False) w0 w) (hf : ∀ k, F0 k → F1 k ∨ w0.heap.size ≤ k) : Made w0 w' F F1 hb H s c i p F' H' s' :=
  ⟨h.heap, h.ok, h.new, h.live, h.limit, h.freed, h.runs, h.lt, (hk.mono (T := F) (fun _ _ h => h.elim)).trans h.keeps (fun _ _ h => h), fun k hk' => by
    rcases h.fresh k hk' with (h | h) | h
    · exact .inl (.inl h)
    · exact (hf k h).imp .inr id
    · exact .inr (Nat.le_trans hk.size h)⟩
theorem Made.behind {S : Nat → Prop} {w1 : World} (h : Made w w' F F0 hb H s c i p F' H' s') (hk : Keeps S w' w1) (hS : ∀ k, S k → ¬ F' k ∧ w.heap.size ≤ k) : Made w w1 F F0 hb H s c i p F' H' s' :=
  ⟨h.heap.keeps hk (fun k h1 h2 => (hS k h2).1 h1), h.ok, h.new, h.live, h.limit, h.freed, h.runs, h.lt, h.keeps.trans hk (fun k hi h2 => by have := (hS k h2).2; omega), h.fresh⟩
theorem heap_Alloc_made (h : IsHeap w F hb H s) (ho : HOk H s) {Av An lp tp : Option Addr} {cv cn : Nat} {Fl Ft : Nat → Prop} (hg : Given w F Fl Ft c Av An lp tp) (hk : 1 ≤ c.kind ∧ c.kind < 11) (hf : s.live < s.limit) :
    Calls Try.prog 29 #[.pointer (some ⟨hb, 0, none⟩), .agg #[.int .i64 c.kind, .slice Av c.vals.length cv, .pointer lp, .pointer tp, .slice An c.nums.length cn, .string c.text]] w fun e w' => ∃ i p F' H' s', e = .returned (.tuple #[.int .i64 (i : Nat), .int .i64 0]) ∧ Made w w' F (fun k => Fl k ∨ Ft k) hb H s c i p F' H' s' := by
  refine (heap_Alloc w F hb H s c Av An lp tp cv cn Fl Ft h ho hg hk hf).mono ?_
  rintro e w' ⟨i, p, F', H', s', rfl, h1, h2, h3, h4, h5, h6, h7, h8, h9, h10⟩
  exact ⟨i, p, F', H', s', rfl, h1, h2, h3, h4, h5, h6, h7, h8, h9, h10⟩
end
theorem heap_value_ok (w : World) (F : Nat → Prop) (hb : Nat) (H : List (Option (Nat × Cl))) (s : HSt) (c : Cl) (Av An lp tp : Option Addr) (cv cn : Nat) (Fl Ft : Nat → Prop) (h : IsHeap w F hb H s) (ho : HOk H s) (hg : Given w F Fl Ft c Av An lp tp) (hk : 1 ≤ c.kind ∧ c.kind < 11) (hf : s.live < s.limit) :
    Calls Try.prog 73 #[.pointer (some ⟨hb, 0, none⟩), .agg #[.int .i64 c.kind, .slice Av c.vals.length cv, .pointer lp, .pointer tp, .slice An c.nums.length cn, .string c.text]] w fun e w' => ∃ i p F' H' s', e = .returned (.tuple #[V.val ⟨4, (i : Nat), ⟨#[]⟩⟩, .int .i64 0]) ∧ Made w w' F (fun k => Fl k ∨ Ft k) hb H s c i p F' H' s' := by
  have HA := hidden (fun (W : World) (hK : Keeps (fun _ => False) w W) => heap_Alloc_made (cv := cv) (cn := cn) (h.calm hK) ho (hg.none hK) hk hf)
  have HRF := hidden (fun (W : World) (n : Int) => heap_Ref n W)
  unfold V.val at HRF
  have hin := hidden (h.inw)
  have hil := hidden hg.il
  have hit := hidden hg.it
  clear h ho hg hk hf
  refine post_gen fun R hR => ?_
  go_enter Try.func73, Try.ntmps73
  go_wp2_with fail
  refine (HA.out _ (((Keeps.refl _ w).alloc _).alloc _)).mono ?_
  rintro e w1 ⟨i, p, F', H', s', rfl, hM⟩
  have HV := hidden (show IsVar w1 (w.heap.size + 1) V.null from hM.keeps.heap (new2t w _ _) (fun h => by have := hin.out _ h; omega))
  have HM := hidden (hM.ahead (w0 := w) (F1 := fun k => Fl k ∨ Ft k) (((Keeps.refl _ w).alloc _).alloc _) (fun k h => .inl h))
  have hnf := hidden (show ¬ F' (w.heap.size + 1) from fun h => by
    rcases hM.fresh _ h with (h | h | h) | h
    · have := hin.out _ h; omega
    · have := hil.out _ h; omega
    · have := hit.out _ h; omega
    · simp at h; try omega)
  clear hM HA
  go_wp2_with fail
  refine (HRF.out _ _).mono ?_
  rintro e w2 ⟨rfl, hK⟩
  have HV2 := hidden (HV.out.keeps hK (fun h => h))
  have HM2 := hidden (HM.out.behind hK (fun k h => h.elim))
  clear hK HV HM
  obtain ⟨v0, v1, v2, v3, v4, v5⟩ := HV2.out.cells
  have hvz := blk_lt HV2.out
  simp only [V.null] at v0 v1 v2
  go_wp2_with fail
  obtain ⟨d0, d1, d2, _⟩ := (HV2.out.set ⟨4, i, ⟨#[]⟩⟩).cells
  simp only at d0 d1 d2
  exact bodyPost_ret (v := .tuple #[V.val ⟨4, i, ⟨#[]⟩⟩, .int .i64 0]) (by simp [results, Try.results73, go_sem, d0, d1, d2, V.val]) rfl (hR.out _ _ ⟨i, p, F', H', s', rfl, HM2.out.behind ((Keeps.refl (fun k => k = w.heap.size + 1) w2).var (r := w.heap.size + 1) (fun _ => rfl) _ _ _) (fun k h => by rw [h]; exact ⟨hnf.out, by omega⟩)⟩)
theorem heap_value_full (w : World) (F : Nat → Prop) (hb : Nat) (H : List (Option (Nat × Cl))) (s : HSt) (c : Cl) (Av An lp tp : Option Addr) (cv cn : Nat) (h : IsHeap w F hb H s) (hk : 1 ≤ c.kind ∧ c.kind < 11) (hf : s.limit ≤ s.live) :
    Calls Try.prog 73 #[.pointer (some ⟨hb, 0, none⟩), .agg #[.int .i64 c.kind, .slice Av c.vals.length cv, .pointer lp, .pointer tp, .slice An c.nums.length cn, .string c.text]] w fun e w' => e = .returned (.tuple #[V.val V.null, .int .i64 40]) ∧ Keeps (fun _ => False) w w' := by
  have HA := hidden (fun (W : World) (hK : Keeps (fun _ => False) w W) => heap_Alloc_full W F hb H s c Av An lp tp cv cn (h.calm hK) hk hf)
  have HRF := hidden (fun (W : World) => value_Null W)
  unfold V.val V.null at HRF
  clear h hk hf
  refine post_gen fun R hR => ?_
  go_enter Try.func73, Try.ntmps73
  go_wp2_with fail
  refine (HA.out _ (((Keeps.refl _ w).alloc _).alloc _)).mono ?_
  rintro e w1 ⟨rfl, hM⟩
  have HV := hidden (show IsVar w1 (w.heap.size + 1) V.null from hM.heap (new2t w _ _) (fun h => h))
  have HM := hidden ((((Keeps.refl (fun _ => False) w).alloc _).alloc _).trans hM (fun _ _ h => h))
  clear hM HA
  go_wp2_with fail
  refine (HRF.out _).mono ?_
  rintro e w2 ⟨rfl, hK⟩
  have HV2 := hidden (HV.out.keeps hK (fun h => h))
  have HM2 := hidden (HM.out.trans hK (fun _ _ h => h))
  clear hK HV HM
  obtain ⟨v0, v1, v2, v3, v4, v5⟩ := HV2.out.cells
  have hvz := blk_lt HV2.out
  simp only [V.null] at v0 v1 v2
  go_wp2_with fail
  obtain ⟨d0, d1, d2, _⟩ := (HV2.out.set V.null).cells
  simp only [V.null] at d0 d1 d2
  exact bodyPost_ret (v := .tuple #[V.val V.null, .int .i64 40]) (by simp [results, Try.results73, go_sem, d0, d1, d2, V.val, V.null]) rfl (hR.out _ _ ⟨rfl, HM2.out.var (r := w.heap.size + 1) (fun h => by omega) _ _ _⟩)
end Go.Proofs.Ytpaefeknbpfpmaa
/- Layer 6: the heap: NewArray, NewTable, NewBox, Aim. -/
namespace Go.Proofs.Ytpaefeknbpfpmaa
open Go.RowKit
set_option maxRecDepth 100000

def noB : ByteArray := ⟨#[]⟩
def arrayCl (xs : List V) : Cl := ⟨1, [], some xs, none, [], ⟨#[]⟩⟩
def tableCl (b : Nat) (L : List Ent) (s : Int) : Cl := ⟨2, [V.null], none, some (b, L, s), [], ⟨#[]⟩⟩
def boxCl (v : V) : Cl := ⟨10, [v], none, none, [], ⟨#[]⟩⟩
def weakCl (n : Int) : Cl := ⟨9, [], none, none, [n], ⟨#[]⟩⟩
theorem Made.off {w w' : World} {F F0 F' : Nat → Prop} {hb i p r : Nat} {H H' : List (Option (Nat × Cl))} {s s' : HSt} {c : Cl} (h : Made w w' F F0 hb H s c i p F' H' s') (hF : ¬ F r) (h0 : ¬ F0 r) (hr : r < w.heap.size) : ¬ F' r := fun hx => by
  rcases h.fresh r hx with (x | x) | x
  · exact hF x
  · exact h0 x
  · omega
theorem heap_NewArray_ok (w : World) (F : Nat → Prop) (hb : Nat) (H : List (Option (Nat × Cl))) (s : HSt) (A : Option Addr) (cA : Nat) (xs : List V) (h : IsHeap w F hb H s) (ho : HOk H s) (hx : Vals w A xs) (hxl : xs.length ≤ 1048576) (hnil : A = none → xs = []) (hf : s.live < s.limit) :
    Calls Try.prog 21 #[.pointer (some ⟨hb, 0, none⟩), .slice A xs.length cA] w fun e w' => ∃ i p F' H' s', e = .returned (.tuple #[V.val ⟨4, (i : Nat), ⟨#[]⟩⟩, .int .i64 0]) ∧ Made w w' F (fun _ => False) hb H s (arrayCl xs) i p F' H' s' := by
  have HN := hidden (fun (W : World) (hK : Keeps (fun _ => False) w W) => list_New W A cA xs (hx.keeps hK (fun _ _ _ _ h => h)) (by omega) hnil)
  have HVL := hidden (fun (W : World) (b : Nat) (F1 : Nat → Prop) (hK : Keeps (fun _ => False) w W) (hl : IsList W F1 b xs) (hF : ∀ k, F1 k → w.heap.size ≤ k) => heap_value_ok W F hb H s (arrayCl xs) none none (some ⟨b, 0, none⟩) none 0 0 F1 (fun _ => False) (h.calm hK) ho
    ⟨Vals.nil _ _, fun _ => rfl, fun i x h => by simp [arrayCl] at h, fun _ => rfl, ⟨b, rfl, hl⟩, rfl, fun k h1 h2 => by have := h.inw k h1; have := hF k h2; omega, Apart.no _, Apart.no _, hl.inw, fun _ h => h.elim, ⟨by simp [arrayCl], by simp [arrayCl], fun ys e => by simp [arrayCl] at e; subst e; exact hxl, fun b' L s e => by simp [arrayCl] at e⟩⟩ (by simp [arrayCl]) hf)
  have hin := hidden (h.inw)
  clear h ho hx hxl hnil hf
  unfold V.val at HVL
  refine post_gen fun R hR => ?_
  go_enter Try.func21, Try.ntmps21
  go_wp2_with fail
  refine (HN.out _ ((Keeps.refl _ w).alloc _)).mono ?_
  rintro e w1 ⟨b, F1, rfl, hL, hK, hF⟩
  have HV := hidden (show IsVar w1 w.heap.size V.null from hK.heap (IsVar.new w V.null) (fun h => h))
  have hKw := hidden (((Keeps.refl (fun _ => False) w).alloc _).trans hK (fun _ _ h => h))
  have hFw := hidden (show ∀ k, F1 k → w.heap.size + 1 ≤ k from fun k h => (hF k h).elim (fun h => h.elim) (fun h => by simp at h; omega))
  have HLi := hidden hL
  clear hK hF hL HN
  go_wp2_with fail
  refine (HVL.out _ b F1 hKw.out HLi.out (fun k h => by have := hFw.out k h; omega)).mono ?_
  rintro e w2 ⟨i, p, F', H', s', rfl, hM⟩
  have HV2 := hidden (HV.out.keeps hM.keeps (fun h => by have := hin.out _ h; omega))
  have hnf := hidden (show ¬ F' w.heap.size from fun h => by
    rcases hM.fresh _ h with (h | h | h) | h
    · have := hin.out _ h; omega
    · have := hFw.out _ h; omega
    · exact h
    · have := hKw.out.size; have := blk_lt HV.out; omega)
  have HM2 := hidden (hM.ahead (w0 := w) (F1 := fun _ => False) hKw.out (fun k h => h.elim (fun h => .inr (by have := hFw.out k h; omega)) (fun h => h.elim)))
  clear hM HVL
  obtain ⟨v0, v1, v2, v3, v4, v5⟩ := HV2.out.cells
  have hvz := blk_lt HV2.out
  simp only [V.null] at v0 v1 v2
  go_wp2_with fail
  obtain ⟨d0, d1, d2, _⟩ := (HV2.out.set ⟨4, i, ⟨#[]⟩⟩).cells
  simp only at d0 d1 d2
  exact bodyPost_ret (v := .tuple #[V.val ⟨4, i, ⟨#[]⟩⟩, .int .i64 0]) (by simp [results, Try.results21, go_sem, d0, d1, d2, V.val]) rfl (hR.out _ _ ⟨i, p, F', H', s', rfl, HM2.out.behind ((Keeps.refl (fun k => k = w.heap.size) w2).var (r := w.heap.size) (fun _ => rfl) _ _ _) (fun k h => by rw [h]; exact ⟨hnf.out, by omega⟩)⟩)
theorem heap_NewBox_ok (w : World) (F : Nat → Prop) (hb : Nat) (H : List (Option (Nat × Cl))) (s : HSt) (v : V) (h : IsHeap w F hb H s) (ho : HOk H s) (hf : s.live < s.limit) :
    Calls Try.prog 53 #[.pointer (some ⟨hb, 0, none⟩), v.val] w fun e w' => ∃ i p F' H' s', e = .returned (.tuple #[V.val ⟨4, (i : Nat), ⟨#[]⟩⟩, .int .i64 0]) ∧ Made w w' F (fun _ => False) hb H s (boxCl v) i p F' H' s' := by
  have HVL := hidden (fun (W : World) (a : Addr) (hK : Keeps (fun _ => False) w W) (hl : Vals W (some a) [v]) => heap_value_ok W F hb H s (boxCl v) (some a) none none none 1 0 (fun _ => False) (fun _ => False) (h.calm hK) ho
    ⟨hl, fun e => (Option.some_ne_none _ e).elim, fun i x h => by simp [boxCl] at h, fun _ => rfl, rfl, rfl, Apart.no _, Apart.no _, Apart.no _, fun _ h => h.elim, fun _ h => h.elim, ⟨by simp [boxCl], by simp [boxCl], fun ys e => by simp [boxCl] at e, fun b' L s e => by simp [boxCl] at e⟩⟩ (by simp [boxCl]) hf)
  have hin := hidden (h.inw)
  clear h ho hf
  unfold V.val at HVL
  unfold V.val
  obtain ⟨vk, vn, vt⟩ := v
  refine post_gen fun R hR => ?_
  go_enter Try.func53, Try.ntmps53
  go_wp2_with fail
  refine (HVL.out _ ⟨w.heap.size + 1 + 1, 0, none⟩ ((((Keeps.refl _ w).alloc _).alloc _).alloc _) (Vals.lit _ [⟨vk, vn, vt⟩] _ (by simp))).mono ?_
  rintro e w2 ⟨i, p, F', H', s', rfl, hM⟩
  have HV2 := hidden (show IsVar w2 (w.heap.size + 1) V.null from hM.keeps.heap (blk_alloc (new2t w _ _) _) (fun h => by have := hin.out _ h; omega))
  have hnf := hidden (hM.off (r := w.heap.size + 1) (fun h => by have := hin.out _ h; omega) (fun h => h.elim id id) (by simp))
  have HM2 := hidden (hM.ahead (w0 := w) (F1 := fun _ => False) ((((Keeps.refl _ w).alloc _).alloc _).alloc _) (fun k h => .inl (h.elim id id)))
  clear hM HVL
  obtain ⟨v0, v1, v2, v3, v4, v5⟩ := HV2.out.cells
  have hvz := blk_lt HV2.out
  simp only [V.null] at v0 v1 v2
  go_wp2_with fail
  obtain ⟨d0, d1, d2, _⟩ := (HV2.out.set ⟨4, i, ⟨#[]⟩⟩).cells
  simp only at d0 d1 d2
  exact bodyPost_ret (v := .tuple #[V.val ⟨4, i, ⟨#[]⟩⟩, .int .i64 0]) (by simp [results, Try.results53, go_sem, d0, d1, d2, V.val]) rfl (hR.out _ _ ⟨i, p, F', H', s', rfl, HM2.out.behind ((Keeps.refl (fun k => k = w.heap.size + 1) w2).var (r := w.heap.size + 1) (fun _ => rfl) _ _ _) (fun k h => by rw [h]; exact ⟨hnf.out, by omega⟩)⟩)
theorem heap_NewTable_ok (w : World) (F : Nat → Prop) (hb : Nat) (H : List (Option (Nat × Cl))) (s : HSt) (tb : Nat) (Ft : Nat → Prop) (L : List Ent) (sr : Int) (h : IsHeap w F hb H s) (ho : HOk H s) (hf : s.live < s.limit) (ht : IsT w Ft tb L sr) (hs : sr < 1073741000) (hap : Apart F Ft) :
    Calls Try.prog 52 #[.pointer (some ⟨hb, 0, none⟩), .pointer (some ⟨tb, 0, none⟩)] w fun e w' => ∃ i p F' H' s', e = .returned (.tuple #[V.val ⟨4, (i : Nat), ⟨#[]⟩⟩, .int .i64 0]) ∧ Made w w' F Ft hb H s (tableCl tb L sr) i p F' H' s' := by
  have HVL := hidden (fun (W : World) (a : Addr) (hK : Keeps (fun _ => False) w W) (hl : Vals W (some a) [V.null]) => heap_value_ok W F hb H s (tableCl tb L sr) (some a) none none (some ⟨tb, 0, none⟩) 1 0 (fun _ => False) Ft (h.calm hK) ho
    ⟨hl, fun e => (Option.some_ne_none _ e).elim, fun i x h => by simp [tableCl] at h, fun _ => rfl, rfl, ⟨rfl, ht.none hK⟩, Apart.no _, hap, (fun _ h => h.elim), fun _ h => h.elim, (ht.none hK).inw, ⟨by simp [tableCl], by simp [tableCl], fun ys e => by simp [tableCl] at e, fun b' L s e => by simp [tableCl] at e; obtain ⟨-, -, rfl⟩ := e; exact hs⟩⟩ (by simp [tableCl]) hf)
  have HNL := hidden (fun (W : World) => value_Null W)
  have hin := hidden (h.inw)
  have hit := hidden (ht.inw)
  clear h ho hf ht hs hap
  unfold V.val at HVL HNL
  unfold V.null at HNL
  refine post_gen fun R hR => ?_
  go_enter Try.func52, Try.ntmps52
  go_wp2_with fail
  refine (HNL.out _).mono ?_
  rintro e w1 ⟨rfl, hK⟩
  have HV := hidden (show IsVar w1 w.heap.size V.null from hK.heap (IsVar.new w V.null) (fun h => h))
  have hKw := hidden (((Keeps.refl (fun _ => False) w).alloc _).trans hK (fun _ _ h => h))
  have hsz := hidden (show w.heap.size < w1.heap.size from blk_lt HV.out)
  clear hK HNL
  go_wp2_with fail
  refine (HVL.out _ ⟨w1.heap.size, 0, none⟩ (hKw.out.alloc _) (Vals.lit _ [V.null] _ rfl)).mono ?_
  rintro e w2 ⟨i, p, F', H', s', rfl, hM⟩
  have HV2 := hidden (show IsVar w2 w.heap.size V.null from hM.keeps.heap (blk_alloc HV.out _) (fun h => by have := hin.out _ h; omega))
  have hnf := hidden (hM.off (r := w.heap.size) (fun h => by have := hin.out _ h; omega) (fun h => h.elim id (fun h => by have := hit.out _ h; omega)) (by have := hsz.out; simp; omega))
  have HM2 := hidden (hM.ahead (w0 := w) (F1 := Ft) (hKw.out.alloc _) (fun k h => .inl (h.elim (fun h => h.elim) id)))
  clear hM HVL
  obtain ⟨v0, v1, v2, v3, v4, v5⟩ := HV2.out.cells
  have hvz := blk_lt HV2.out
  simp only [V.null] at v0 v1 v2
  go_wp2_with fail
  obtain ⟨d0, d1, d2, _⟩ := (HV2.out.set ⟨4, i, ⟨#[]⟩⟩).cells
  simp only at d0 d1 d2
  exact bodyPost_ret (v := .tuple #[V.val ⟨4, i, ⟨#[]⟩⟩, .int .i64 0]) (by simp [results, Try.results52, go_sem, d0, d1, d2, V.val]) rfl (hR.out _ _ ⟨i, p, F', H', s', rfl, HM2.out.behind ((Keeps.refl (fun k => k = w.heap.size) w2).var (r := w.heap.size) (fun _ => rfl) _ _ _) (fun k h => by rw [h]; exact ⟨hnf.out, by omega⟩)⟩)
theorem heap_NewArray_full (w : World) (F : Nat → Prop) (hb : Nat) (H : List (Option (Nat × Cl))) (s : HSt) (A : Option Addr) (cA : Nat) (xs : List V) (h : IsHeap w F hb H s) (hx : Vals w A xs) (hxl : xs.length ≤ 1048576) (hnil : A = none → xs = []) (hf : s.limit ≤ s.live) :
    Calls Try.prog 21 #[.pointer (some ⟨hb, 0, none⟩), .slice A xs.length cA] w fun e w' => e = .returned (.tuple #[V.val V.null, .int .i64 40]) ∧ Keeps (fun _ => False) w w' := by
  have HN := hidden (fun (W : World) (hK : Keeps (fun _ => False) w W) => list_New W A cA xs (hx.keeps hK (fun _ _ _ _ h => h)) (by omega) hnil)
  have HVL := hidden (fun (W : World) (b : Nat) (hK : Keeps (fun _ => False) w W) => heap_value_full W F hb H s (arrayCl xs) none none (some ⟨b, 0, none⟩) none 0 0 (h.calm hK) (by simp [arrayCl]) hf)
  clear h hx hxl hnil hf
  unfold V.val V.null at HVL
  refine post_gen fun R hR => ?_
  go_enter Try.func21, Try.ntmps21
  go_wp2_with fail
  refine (HN.out _ ((Keeps.refl _ w).alloc _)).mono ?_
  rintro e w1 ⟨b, F1, rfl, hL, hK, hF⟩
  have HV := hidden (show IsVar w1 w.heap.size V.null from hK.heap (IsVar.new w V.null) (fun h => h))
  have hKw := hidden (((Keeps.refl (fun _ => False) w).alloc _).trans hK (fun _ _ h => h))
  clear hK hF hL HN
  go_wp2_with fail
  refine (HVL.out _ b hKw.out).mono ?_
  rintro e w2 ⟨rfl, hK⟩
  have HV2 := hidden (HV.out.keeps hK (fun h => h))
  have HK2 := hidden (hKw.out.trans hK (fun _ _ h => h))
  clear hK HVL
  obtain ⟨v0, v1, v2, v3, v4, v5⟩ := HV2.out.cells
  have hvz := blk_lt HV2.out
  simp only [V.null] at v0 v1 v2
  go_wp2_with fail
  obtain ⟨d0, d1, d2, _⟩ := (HV2.out.set V.null).cells
  simp only [V.null] at d0 d1 d2
  exact bodyPost_ret (v := .tuple #[V.val V.null, .int .i64 40]) (by simp [results, Try.results21, go_sem, d0, d1, d2, V.val, V.null]) rfl (hR.out _ _ ⟨rfl, HK2.out.var (r := w.heap.size) (fun h => by omega) _ _ _⟩)
theorem heap_NewBox_full (w : World) (F : Nat → Prop) (hb : Nat) (H : List (Option (Nat × Cl))) (s : HSt) (v : V) (h : IsHeap w F hb H s) (hf : s.limit ≤ s.live) :
    Calls Try.prog 53 #[.pointer (some ⟨hb, 0, none⟩), v.val] w fun e w' => e = .returned (.tuple #[V.val V.null, .int .i64 40]) ∧ Keeps (fun _ => False) w w' := by
  have HVL := hidden (fun (W : World) (a : Addr) (hK : Keeps (fun _ => False) w W) => heap_value_full W F hb H s (boxCl v) (some a) none none none 1 0 (h.calm hK) (by simp [boxCl]) hf)
  clear h hf
  unfold V.val V.null at HVL
  unfold V.val
  obtain ⟨vk, vn, vt⟩ := v
  refine post_gen fun R hR => ?_
  go_enter Try.func53, Try.ntmps53
  go_wp2_with fail
  refine (HVL.out _ ⟨w.heap.size + 1 + 1, 0, none⟩ ((((Keeps.refl _ w).alloc _).alloc _).alloc _)).mono ?_
  rintro e w2 ⟨rfl, hK⟩
  have HV2 := hidden (show IsVar w2 (w.heap.size + 1) V.null from hK.heap (blk_alloc (new2t w _ _) _) (fun h => h))
  have HK2 := hidden (((((Keeps.refl _ w).alloc _).alloc _).alloc _).trans hK (fun _ _ h => h))
  clear hK HVL
  obtain ⟨v0, v1, v2, v3, v4, v5⟩ := HV2.out.cells
  have hvz := blk_lt HV2.out
  simp only [V.null] at v0 v1 v2
  go_wp2_with fail
  obtain ⟨d0, d1, d2, _⟩ := (HV2.out.set V.null).cells
  simp only [V.null] at d0 d1 d2
  refine bodyPost_ret (v := .tuple #[V.val V.null, .int .i64 40]) ?_ rfl (hR.out _ _ ⟨by simp only [V.val, V.null], HK2.out.var (r := w.heap.size + 1) (fun h => by omega) _ _ _⟩)
  simp [results, Try.results53, go_sem, d0, d1, d2, V.val, V.null]
theorem heap_NewTable_full (w : World) (F : Nat → Prop) (hb : Nat) (H : List (Option (Nat × Cl))) (s : HSt) (tb : Nat) (h : IsHeap w F hb H s) (hf : s.limit ≤ s.live) :
    Calls Try.prog 52 #[.pointer (some ⟨hb, 0, none⟩), .pointer (some ⟨tb, 0, none⟩)] w fun e w' => e = .returned (.tuple #[V.val V.null, .int .i64 40]) ∧ Keeps (fun _ => False) w w' := by
  have HVL := hidden (fun (W : World) (a : Addr) (hK : Keeps (fun _ => False) w W) => heap_value_full W F hb H s (tableCl tb [] 0) (some a) none none (some ⟨tb, 0, none⟩) 1 0 (h.calm hK) (by simp [tableCl]) hf)
  have HNL := hidden (fun (W : World) => value_Null W)
  clear h hf
  unfold V.val V.null at HVL HNL
  refine post_gen fun R hR => ?_
  go_enter Try.func52, Try.ntmps52
  go_wp2_with fail
  refine (HNL.out _).mono ?_
  rintro e w1 ⟨rfl, hK⟩
  have HV := hidden (show IsVar w1 w.heap.size V.null from hK.heap (IsVar.new w V.null) (fun h => h))
  have hKw := hidden (((Keeps.refl (fun _ => False) w).alloc _).trans hK (fun _ _ h => h))
  clear hK HNL
  go_wp2_with fail
  refine (HVL.out _ ⟨w1.heap.size, 0, none⟩ (hKw.out.alloc _)).mono ?_
  rintro e w2 ⟨rfl, hK⟩
  have HV2 := hidden (show IsVar w2 w.heap.size V.null from hK.heap (blk_alloc HV.out _) (fun h => h))
  have HK2 := hidden ((hKw.out.alloc _).trans hK (fun _ _ h => h))
  clear hK HVL
  obtain ⟨v0, v1, v2, v3, v4, v5⟩ := HV2.out.cells
  have hvz := blk_lt HV2.out
  simp only [V.null] at v0 v1 v2
  go_wp2_with fail
  obtain ⟨d0, d1, d2, _⟩ := (HV2.out.set V.null).cells
  simp only [V.null] at d0 d1 d2
  refine bodyPost_ret (v := .tuple #[V.val V.null, .int .i64 40]) ?_ rfl (hR.out _ _ ⟨by simp only [V.val, V.null], HK2.out.var (r := w.heap.size) (fun h => by omega) _ _ _⟩)
  simp [results, Try.results52, go_sem, d0, d1, d2, V.val, V.null]
theorem ints_lit (w : World) (n : Int) (t : TypeId) {m : Nat} (hm : m = w.heap.size) : Ints (w.alloc (.cells #[.int .i64 n] t)) (some ⟨m, 0, none⟩) [n] := fun i x h => by
  subst hm
  cases i with
  | zero => simp at h; subst h; exact ⟨_, _, rfl, blk_cell (blk_new w _) 0⟩
  | succ i => simp at h
theorem heap_Aim_ok (w : World) (F : Nat → Prop) (hb : Nat) (H : List (Option (Nat × Cl))) (s : HSt) (j q : Nat) (d : Cl) (h : IsHeap w F hb H s) (ho : HOk H s) (hj : H[j]? = some (some (q, d))) (hf : s.live < s.limit) :
    Calls Try.prog 57 #[.pointer (some ⟨hb, 0, none⟩), .int .i64 j] w fun e w' => ∃ i p F' H' s', e = .returned (.tuple #[.int .i64 (i : Nat), .int .i64 0]) ∧ Made w w' F (fun _ => False) hb H s (weakCl j) i p F' H' s' := by
  have HG := hidden (heap_Get_ok h hj)
  have HA := hidden (fun (W : World) (hK : Keeps (fun _ => False) w W) (a : Addr) (hl : Ints W (some a) [(j : Int)]) => heap_Alloc_made (c := weakCl j) (Av := none) (An := some a) (lp := none) (tp := none) (cv := 0) (cn := 1) (Fl := fun _ => False) (Ft := fun _ => False) (h.calm hK) ho
    ⟨Vals.nil _ _, fun _ => rfl, hl, fun e => (Option.some_ne_none _ e).elim, rfl, rfl, Apart.no _, Apart.no _, Apart.no _, fun _ h => h.elim, fun _ h => h.elim, ⟨by simp [weakCl], by simp [weakCl], fun ys e => by simp [weakCl] at e, fun b' L s e => by simp [weakCl] at e⟩⟩ (by simp [weakCl]) hf)
  clear h ho hj hf
  refine post_gen fun R hR => ?_
  go_enter Try.func57, Try.ntmps57
  go_wp2_with fail
  refine HG.out.mono ?_
  rintro e _ ⟨rfl, rfl⟩
  go_wp2_with fail
  refine (HA.out _ ((Keeps.refl _ w).alloc _) ⟨w.heap.size, 0, none⟩ (ints_lit _ _ _ rfl)).mono ?_
  rintro e w2 ⟨i, p, F', H', s', rfl, hM⟩
  have HM := hidden (hM.ahead (w0 := w) (F1 := fun _ => False) ((Keeps.refl _ w).alloc _) (fun k h => .inl (h.elim id id)))
  clear hM HA
  go_wp2_with fail
  exact hR.out _ _ ⟨i, p, F', H', s', rfl, HM.out⟩
theorem heap_Aim_full (w : World) (F : Nat → Prop) (hb : Nat) (H : List (Option (Nat × Cl))) (s : HSt) (j q : Nat) (d : Cl) (h : IsHeap w F hb H s) (hj : H[j]? = some (some (q, d))) (hf : s.limit ≤ s.live) :
    Calls Try.prog 57 #[.pointer (some ⟨hb, 0, none⟩), .int .i64 j] w fun e w' => e = .returned (.tuple #[.int .i64 0, .int .i64 40]) ∧ Keeps (fun _ => False) w w' := by
  have HG := hidden (heap_Get_ok h hj)
  have HA := hidden (fun (W : World) (hK : Keeps (fun _ => False) w W) (a : Addr) => heap_Alloc_full W F hb H s (weakCl j) none (some a) none none 0 1 (h.calm hK) (by simp [weakCl]) hf)
  clear h hj hf
  refine post_gen fun R hR => ?_
  go_enter Try.func57, Try.ntmps57
  go_wp2_with fail
  refine HG.out.mono ?_
  rintro e _ ⟨rfl, rfl⟩
  go_wp2_with fail
  refine (HA.out _ ((Keeps.refl _ w).alloc _) ⟨w.heap.size, 0, none⟩).mono ?_
  rintro e w2 ⟨rfl, hK⟩
  have HK := hidden (((Keeps.refl _ w).alloc _).trans hK (fun _ _ h => h))
  clear hK HA
  go_wp2_with fail
  exact hR.out _ _ ⟨rfl, HK.out⟩
theorem heap_Aim_range (w : World) (F : Nat → Prop) (hb : Nat) (H : List (Option (Nat × Cl))) (s : HSt) (n : Int) (h : IsHeap w F hb H s) (hn : n < 0 ∨ (H.length : Int) ≤ n) :
    Calls Try.prog 57 #[.pointer (some ⟨hb, 0, none⟩), .int .i64 n] w fun e w' => e = .returned (.tuple #[.int .i64 0, .int .i64 1]) ∧ w = w' := by
  have HG := hidden (heap_Get_range h hn)
  clear h hn
  refine post_gen fun R hR => ?_
  go_enter Try.func57, Try.ntmps57
  go_wp2_with fail
  refine HG.out.mono ?_
  rintro e _ ⟨rfl, rfl⟩
  go_wp2_with fail
  exact hR.out _ _ ⟨rfl, rfl⟩
theorem heap_Aim_freed (w : World) (F : Nat → Prop) (hb : Nat) (H : List (Option (Nat × Cl))) (s : HSt) (j : Nat) (h : IsHeap w F hb H s) (hj : H[j]? = some none) :
    Calls Try.prog 57 #[.pointer (some ⟨hb, 0, none⟩), .int .i64 j] w fun e w' => e = .returned (.tuple #[.int .i64 0, .int .i64 41]) ∧ w = w' := by
  have HG := hidden (heap_Get_freed h hj)
  clear h hj
  refine post_gen fun R hR => ?_
  go_enter Try.func57, Try.ntmps57
  go_wp2_with fail
  refine HG.out.mono ?_
  rintro e _ ⟨rfl, rfl⟩
  go_wp2_with fail
  exact hR.out _ _ ⟨rfl, rfl⟩
end Go.Proofs.Ytpaefeknbpfpmaa
/- Layer 6: the heap: what some cells reach: marks, work. -/
namespace Go.Proofs.Ytpaefeknbpfpmaa
open Go.RowKit
set_option maxRecDepth 100000

def boolCells (l : List Bool) : List Value := l.map Value.bool
/-- Marks, and the cells that are marked but not yet gone through. -/
structure Work where
  ms : List Bool
  ws : List Int
open Classical in
/-- A cell is marked, if there is one and it isn't yet. -/
noncomputable def Work.add (H : List (Option (Nat × Cl))) (s : Work) (n : Int) : Work :=
  if 0 ≤ n ∧ s.ms[n.toNat]? = some false ∧ ∃ x, H[n.toNat]? = some (some x) then ⟨s.ms.set n.toNat true, s.ws ++ [n]⟩ else s
/-- How the marks and the work lie. -/
structure RSt (w : World) (bm bh bw hb gm : Nat) (Fw : Nat → Prop) (s : Work) (Am : Option Addr) (cm : Nat) (vw : Value) : Prop where
  mb : w.heap[bm]? = some (.cells #[.slice Am s.ms.length cm] 69 (0, 0))
  mr : Row w (fun k => k = gm) 4 1 (.slice Am s.ms.length cm) s.ms.length (boolCells s.ms)
  wb : w.heap[bw]? = some (.cells #[vw] 43 (0, 0))
  wr : Row w Fw 3 1 vw s.ws.length (intCells s.ws)
  hx : w.heap[bh]? = some (.cells #[.pointer (some ⟨hb, 0, none⟩)] 47 (0, 0))
  ne : bm ≠ bh ∧ bm ≠ bw ∧ bh ≠ bw ∧ gm ≠ bm ∧ gm ≠ bh ∧ gm ≠ bw
  off : ¬ Fw bm ∧ ¬ Fw bh ∧ ¬ Fw bw ∧ ¬ Fw gm
theorem RSt.calm {w w1 : World} {bm bh bw hb gm : Nat} {Fw : Nat → Prop} {s : Work} {Am : Option Addr} {cm : Nat} {vw : Value} (h : RSt w bm bh bw hb gm Fw s Am cm vw) (hk : Keeps (fun _ => False) w w1) : RSt w1 bm bh bw hb gm Fw s Am cm vw :=
  ⟨hk.heap h.mb (fun h => h), h.mr.keeps hk (Apart.no _), hk.heap h.wb (fun h => h), h.wr.keeps hk (Apart.no _), hk.heap h.hx (fun h => h), h.ne, h.off⟩
theorem bool_set {w : World} {F : Nat → Prop} {g n c : Nat} {S : List Bool} (h : Row w F 4 1 (.slice (some ⟨g, 0, none⟩) n c) n (boolCells S)) (i : Nat) (b : Bool) : Row (w.setCell ⟨g, i, none⟩ (.bool b)) F 4 1 (.slice (some ⟨g, 0, none⟩) n c) n (boolCells (S.set i b)) := by
  have h1 := h.1.stored i (.bool b)
  refine ⟨?_, h.2⟩
  unfold boolCells
  rw [List.map_set]
  exact h1.1
set_option maxHeartbeats 1000000 in
theorem reached_add (w : World) (F Fw : Nat → Prop) (bm bh bw hb gm : Nat) (H : List (Option (Nat × Cl))) (s : HSt) (st : Work) (Am : Option Addr) (cm : Nat) (vw : Value) (h : IsHeap w F hb H s) (hs : RSt w bm bh bw hb gm Fw st Am cm vw) (hl : st.ms.length = H.length) (n : Int) (hH : H.length ≤ 1048576) (hw : st.ws.length ≤ 1048576) :
    Calls Try.prog 74 #[.int .i64 n, .pointer (some ⟨bm, 0, none⟩), .pointer (some ⟨bh, 0, none⟩), .pointer (some ⟨bw, 0, none⟩)] w fun e w' => ∃ Fw' vw', e = .returned (.tuple #[]) ∧ RSt w' bm bh bw hb gm Fw' (st.add H n) Am cm vw' ∧ Keeps (fun k => k = gm ∨ k = bw ∨ Fw k) w w' ∧ Fresh Fw Fw' w := by
  obtain ⟨Fam, vc, vf, hX⟩ := h
  obtain ⟨Ac, cc, rfl⟩ := hX.cells.form
  have b0 := blk_cell hX.blk 0
  simp only [List.getElem?_toArray, List.getElem?_cons_zero] at b0
  have hbz := blk_lt hX.blk
  have HS := hidden hs
  have m0 := blk_cell hs.mb 0
  have h0 := blk_cell hs.hx 0
  have k0 := blk_cell hs.wb 0
  simp only [List.getElem?_toArray, List.getElem?_cons_zero] at m0 h0 k0
  have mz := blk_lt hs.mb
  have hz := blk_lt hs.hx
  have kz := blk_lt hs.wb
  have hcap := hX.cells.cap
  have hcm := hs.mr.cap
  refine post_gen fun R hR => ?_
  have same : Hid (∀ e9 w9, e9 = .returned (.tuple #[]) → Keeps (fun _ => False) w w9 → st.add H n = st → R e9 w9) := hidden (by
    intro e9 w9 he hk e
    subst he
    refine hR.out _ _ ⟨Fw, vw, rfl, ?_, hk.mono (fun _ _ h => h.elim), Fresh.refl _ _⟩
    rw [e]
    exact HS.out.calm hk)
  by_cases h1 : n < 0
  · have j1 : decide (0 ≤ n) = false := by simp; omega
    have e : st.add H n = st := if_neg (fun h => by omega)
    have S2 := hidden (fun e9 w9 he hk => same.out e9 w9 he hk e)
    clear hX hs HS hR same e
    go_enter Try.func74, Try.ntmps74
    go_wp2_with fail
    go_end0
    exact S2.out _ _ rfl (Keeps.refl _ _)
  · obtain ⟨i, rfl⟩ : ∃ i : Nat, n = i := ⟨n.toNat, by omega⟩
    have j1 : decide (0 ≤ (i : Int)) = true := by simp
    by_cases h2 : i < H.length
    · have j2 : decide ((i : Int) < (st.ms.length : Int)) = true := by simp; omega
      obtain ⟨gc, rfl, -, hgz, hc, -⟩ := row1_cell hX.cells (i := i) (v := ptr H[i]) (by rw [List.getElem?_map, List.getElem?_eq_getElem h2]; rfl)
      obtain ⟨gm', rfl, hgm, hmz, hm, hmf⟩ := row1_cell hs.mr (i := i) (v := .bool st.ms[i]) (by rw [boolCells, List.getElem?_map, List.getElem?_eq_getElem (by omega)]; rfl)
      obtain rfl := hgm
      have i1 : (i : Int) < (H.length : Int) := by omega
      have i2 : (i : Int) < (st.ms.length : Int) := by omega
      have hHi : H[i]? = some H[i] := List.getElem?_eq_getElem h2
      have hMi : st.ms[i]? = some st.ms[i] := List.getElem?_eq_getElem (by omega)
      have HHI := hidden hHi
      have HMI := hidden hMi
      clear hHi hMi
      generalize H[i] = x at *
      generalize st.ms[i] = y at *
      cases x with
      | none =>
        have e : st.add H i = st := if_neg (fun h => by obtain ⟨-, -, x, hx⟩ := h; rw [Int.toNat_natCast, HHI.out] at hx; cases hx)
        have S2 := hidden (fun e9 w9 he hk => same.out e9 w9 he hk e)
        simp only [ptr] at hc
        clear hX hs HS hR same e hl HHI HMI
        go_enter Try.func74, Try.ntmps74
        go_wp2_with fail
        go_end0
        exact S2.out _ _ rfl (Keeps.refl _ _)
      | some x =>
        obtain ⟨p, d⟩ := x
        simp only [ptr] at hc
        cases y with
        | true =>
          have e : st.add H i = st := if_neg (fun h => by obtain ⟨-, hy, -⟩ := h; rw [Int.toNat_natCast, HMI.out] at hy; cases hy)
          have S2 := hidden (fun e9 w9 he hk => same.out e9 w9 he hk e)
          clear hX hs HS hR same e hl HHI HMI
          go_enter Try.func74, Try.ntmps74
          go_wp2_with fail
          go_end0
          exact S2.out _ _ rfl (Keeps.refl _ _)
        | false =>
          have e : st.add H i = ⟨st.ms.set i true, st.ws ++ [(i : Int)]⟩ := by
            unfold Work.add
            rw [if_pos ⟨by omega, by rw [Int.toNat_natCast]; exact HMI.out, (p, d), by rw [Int.toNat_natCast]; exact HHI.out⟩, Int.toNat_natCast]
          obtain ⟨Aw, cw, rfl⟩ := hs.wr.form
          have hcw := hs.wr.cap
          have k0f := blk_frozen hs.wb 0
          have K1 := hidden (show Keeps (fun k => k = gm') w (w.setCell ⟨gm', i, none⟩ (.bool true)) from (Keeps.refl (fun k => k = gm') w).setCell (p := ⟨gm', i, none⟩) (fun _ => rfl) _)
          have n1 : bw ≠ gm' := fun e => HS.out.ne.2.2.2.2.2 e.symm
          have n2 : bm ≠ gm' := fun e => HS.out.ne.2.2.2.1 e.symm
          have n3 : bh ≠ gm' := fun e => HS.out.ne.2.2.2.2.1 e.symm
          have R1 := hidden (hs.wr.set (p := ⟨gm', i, none⟩) (fun k hk e => by have := hs.wr.2 k hk; have e' : k = gm' := e; subst e'; exact hs.off.2.2.2 this) (.bool true))
          clear hX same hl HHI HMI hs
          go_enter Try.func74, Try.ntmps74
          go_wp2_with (at_builtin; refine app_list rfl Fw _ _ _ _ _ _ 1 8 rfl Try.underlying43 info_int rfl (by decide) _ _ _ rfl (R1.out.alloc _) _ rfl _ _ (int_lit (w.setCell ⟨gm', i, none⟩ (.bool true)) i (by simp [World.setCell])) (by omega) (by omega) ?_; intro A2 c2 w2 hR2 hK2; have HR2 := hidden hR2; have HK2 := hidden hK2; have WB2 := hidden (hK2.heap ((K1.out.alloc _).heap HS.out.wb n1) (fun e => HS.out.off.2.2.1 (HS.out.wr.2 _ e))); have k1 := blk_cell WB2.out 0; have k1f := blk_frozen WB2.out 0; simp only [List.getElem?_toArray, List.getElem?_cons_zero] at k1; have kz2 := blk_lt WB2.out; clear hR2 hK2)
          go_end0
          have KA := hidden (show Keeps Fw ((w.setCell ⟨gm', i, none⟩ (.bool true)).alloc (.cells #[.int .i64 i] 3)) w2 from HK2.out.mono (fun k _ e => HS.out.wr.2 k e))
          have K2 : Keeps (fun k => k = gm' ∨ Fw k) w w2 := ((K1.out.alloc _).mono (T := fun k => k = gm' ∨ Fw k) (fun _ _ h => .inl h)).trans KA.out (fun _ _ h => .inr h)
          have K3 : Keeps (fun k => k = gm' ∨ k = bw ∨ Fw k) w (w2.setCell ⟨bw, 0, none⟩ (.slice A2 (st.ws.length + 1) c2)) := (K2.mono (T := fun k => k = gm' ∨ k = bw ∨ Fw k) (fun _ _ h => h.imp id .inr)).setCell (p := ⟨bw, 0, none⟩) (fun _ => .inr (.inl rfl)) _
          have K4 : Keeps (fun k => k = bw ∨ Fw k) (w.setCell ⟨gm', i, none⟩ (.bool true)) (w2.setCell ⟨bw, 0, none⟩ (.slice A2 (st.ws.length + 1) c2)) := ((((Keeps.refl (fun k => k = bw ∨ Fw k) (w.setCell ⟨gm', i, none⟩ (.bool true))).alloc _).trans KA.out (fun _ _ h => .inr h))).setCell (p := ⟨bw, 0, none⟩) (fun _ => .inl rfl) _
          obtain ⟨q1, q2, q3, q4, q5, q6⟩ := HS.out.ne
          obtain ⟨o1, o2, o3, o4⟩ := HS.out.off
          have hRw := HR2.out.mono (G := fun k => Fw k ∨ w.heap.size + 1 ≤ k) (fun k _ h => h.imp id (fun h => by simp [World.setCell] at h; omega))
          have hRs := hRw.set (p := ⟨bw, 0, none⟩) (fun k hk e => by have e' : k = bw := e; subst e'; exact (hRw.2 _ hk).elim o3 (fun h => by omega)) (.slice A2 (st.ws.length + 1) c2)
          refine hR.out _ _ ⟨fun k => Fw k ∨ w.heap.size + 1 ≤ k, .slice A2 (st.ws.length + 1) c2, rfl, ?_, K3, fun k h => h.imp id (fun h => by omega)⟩
          rw [e]
          refine ⟨?_, ?_, blk_set WB2.out 0 _, ?_, K3.heap HS.out.hx (fun h => h.elim n3 (fun h => h.elim q3 o2)), ⟨q1, q2, q3, q4, q5, q6⟩, ⟨fun h => h.elim o1 (fun h => by omega), fun h => h.elim o2 (fun h => by omega), fun h => h.elim o3 (fun h => by omega), fun h => h.elim o4 (fun h => by omega)⟩⟩
          · rw [show (Work.mk (st.ms.set i true) (st.ws ++ [(i : Int)])).ms.length = st.ms.length from List.length_set ..]
            exact K3.heap HS.out.mb (fun h => h.elim n2 (fun h => h.elim q2 o1))
          · rw [show (Work.mk (st.ms.set i true) (st.ws ++ [(i : Int)])).ms.length = st.ms.length from List.length_set ..]
            exact (bool_set HS.out.mr i true).keeps K4 (fun k h1 h2 => by subst h1; exact h2.elim q6 o4)
          · show Row _ _ _ _ _ (st.ws ++ [(i : Int)]).length (intCells (st.ws ++ [(i : Int)]))
            rw [List.length_append, List.length_singleton, intCells_append]
            exact hRs
    · have j2 : decide ((i : Int) < (st.ms.length : Int)) = false := by simp; omega
      have e : st.add H i = st := if_neg (fun h => by obtain ⟨-, -, x, hx⟩ := h; have := (List.getElem?_eq_some_iff.1 hx).1; simp at this; omega)
      have S2 := hidden (fun e9 w9 he hk => same.out e9 w9 he hk e)
      clear hX hs HS hR same e
      go_enter Try.func74, Try.ntmps74
      go_wp2_with fail
      go_end0
      exact S2.out _ _ rfl (Keeps.refl _ _)
end Go.Proofs.Ytpaefeknbpfpmaa
/- Layer 6: the heap: what some cells reach: plain. -/
namespace Go.Proofs.Ytpaefeknbpfpmaa
open Go.RowKit
set_option maxRecDepth 100000

abbrev Hp := List (Option (Nat × Cl))
def Hp.has (H : Hp) (i : Nat) : Prop := ∃ x, H[i]? = some (some x)
/-- What some cells reach, they too. -/
inductive Reach (H : Hp) (rs : List Int) : Nat → Prop
  | root {i : Nat} (hi : (i : Int) ∈ rs) (hx : Hp.has H i) : Reach H rs i
  | step {i j p : Nat} {c : Cl} (h : Reach H rs i) (hi : H[i]? = some (some (p, c))) (hj : (j : Int) ∈ c.strong) (hy : Hp.has H j) : Reach H rs j
theorem Reach.has {H : Hp} {rs : List Int} {i : Nat} (h : Reach H rs i) : Hp.has H i := by
  cases h with
  | root _ hx => exact hx
  | step _ _ _ hy => exact hy
structure Adds (H : Hp) (st st' : Work) (l : List Int) : Prop where
  len : st'.ms.length = st.ms.length
  stay : ∀ i : Nat, st.ms[i]? = some true → st'.ms[i]? = some true
  new : ∀ i : Nat, st'.ms[i]? = some true → st.ms[i]? = some true ∨ ((i : Int) ∈ l ∧ Hp.has H i ∧ (i : Int) ∈ st'.ws)
  all : ∀ i : Nat, (i : Int) ∈ l → Hp.has H i → i < st.ms.length → st'.ms[i]? = some true
  sub : ∀ n ∈ st.ws, n ∈ st'.ws
  ws : ∀ n ∈ st'.ws, n ∈ st.ws ∨ ∃ i : Nat, n = i ∧ st'.ms[i]? = some true
  sum : st'.ws.length + st'.ms.countP (! ·) = st.ws.length + st.ms.countP (! ·)
  le : st'.ms.countP (! ·) ≤ st.ms.countP (! ·)
theorem Adds.refl (H : Hp) (st : Work) : Adds H st st [] := ⟨rfl, fun _ h => h, fun _ h => .inl h, fun _ h => by simp at h, fun _ h => h, fun _ h => .inl h, rfl, Nat.le_refl _⟩
theorem Adds.trans {H : Hp} {a b c : Work} {l m : List Int} (h : Adds H a b l) (k : Adds H b c m) : Adds H a c (l ++ m) :=
  ⟨k.len.trans h.len, fun i hi => k.stay i (h.stay i hi), fun i hi => by
    rcases k.new i hi with h1 | ⟨h1, h2, h3⟩
    · rcases h.new i h1 with h4 | ⟨h4, h5, h6⟩
      · exact .inl h4
      · exact .inr ⟨List.mem_append_left _ h4, h5, k.sub _ h6⟩
    · exact .inr ⟨List.mem_append_right _ h1, h2, h3⟩, fun i hi hx hl => by
    rcases List.mem_append.1 hi with h1 | h1
    · exact k.stay i (h.all i h1 hx hl)
    · exact k.all i h1 hx (by rw [h.len]; exact hl), fun n hn => k.sub n (h.sub n hn), fun n hn => by
    rcases k.ws n hn with h1 | h1
    · rcases h.ws n h1 with h2 | ⟨i, h2, h3⟩
      · exact .inl h2
      · exact .inr ⟨i, h2, k.stay i h3⟩
    · exact .inr h1, k.sum.trans h.sum, Nat.le_trans k.le h.le⟩
theorem Work.add_ok (H : Hp) (st : Work) (n : Int) : Adds H st (st.add H n) [n] := by
  unfold Work.add
  split
  · rename_i hc
    obtain ⟨h0, h1, x, hx⟩ := hc
    obtain ⟨i, rfl⟩ : ∃ i : Nat, n = i := ⟨n.toNat, by omega⟩
    rw [Int.toNat_natCast] at *
    have hil := (List.getElem?_eq_some_iff.1 h1).1
    have hie := (List.getElem?_eq_some_iff.1 h1).2
    have hcn : (st.ms.set i true).countP (! ·) + 1 = st.ms.countP (! ·) := by
      have h2 := List.countP_set (p := (! ·)) (a := true) hil
      have h3 : 0 < st.ms.countP (! ·) := List.countP_pos_iff.2 ⟨false, by rw [← hie]; exact List.getElem_mem hil, rfl⟩
      rw [h2, hie]
      simp
      omega
    refine ⟨List.length_set .., fun j hj => ?_, fun j hj => ?_, fun j hj hy hl => ?_, fun m hm => List.mem_append_left _ hm, fun m hm => ?_, ?_, ?_⟩
    · by_cases e : i = j
      · subst e; rw [h1] at hj; cases hj
      · rw [List.getElem?_set_ne e]; exact hj
    · by_cases e : i = j
      · subst e; exact .inr ⟨List.mem_singleton.2 rfl, ⟨x, hx⟩, by simp⟩
      · rw [List.getElem?_set_ne e] at hj; exact .inl hj
    · have e : j = i := by have := List.mem_singleton.1 hj; omega
      subst e
      exact List.getElem?_set_self hil
    · rcases List.mem_append.1 hm with h | h
      · exact .inl h
      · exact .inr ⟨i, List.mem_singleton.1 h, List.getElem?_set_self hil⟩
    · simp only [List.length_append, List.length_singleton]
      omega
    · simp only
      omega
  · rename_i hc
    refine ⟨rfl, fun _ h => h, fun _ h => .inl h, fun i hi hx hl => ?_, fun _ h => h, fun _ h => .inl h, rfl, Nat.le_refl _⟩
    have e : n = i := (List.mem_singleton.1 hi).symm
    subst e
    rw [Int.toNat_natCast] at hc
    rw [List.getElem?_eq_getElem hl] at hc ⊢
    cases hb : st.ms[i] with
    | true => rfl
    | false => exact absurd ⟨by omega, by rw [hb], hx⟩ hc
noncomputable def Work.adds (H : Hp) (st : Work) (l : List Int) : Work := l.foldl (Work.add H) st
theorem Work.adds_snoc (H : Hp) (st : Work) (l : List Int) (n : Int) : st.adds H (l ++ [n]) = (st.adds H l).add H n := by simp [Work.adds]
theorem Work.adds_ok (H : Hp) : ∀ (l : List Int) (st : Work), Adds H st (st.adds H l) l
  | [], st => Adds.refl H st
  | n :: l, st => (Work.add_ok H st n).trans (Work.adds_ok H l (st.add H n))
/-- Through the work: what is so of marks and work. -/
structure RInv (H : Hp) (rs : List Int) (st : Work) : Prop where
  len : st.ms.length = H.length
  sound : ∀ i : Nat, st.ms[i]? = some true → Reach H rs i
  ws : ∀ n ∈ st.ws, ∃ i : Nat, n = i ∧ st.ms[i]? = some true
  closed : ∀ i : Nat, st.ms[i]? = some true → (i : Int) ∉ st.ws → ∀ p c, H[i]? = some (some (p, c)) → ∀ j : Nat, (j : Int) ∈ c.strong → Hp.has H j → st.ms[j]? = some true
  roots : ∀ i : Nat, (i : Int) ∈ rs → Hp.has H i → st.ms[i]? = some true
  sum : st.ws.length + st.ms.countP (! ·) ≤ H.length
def work0 (n : Nat) : Work := ⟨List.replicate n false, []⟩
theorem work0_none (n i : Nat) : (work0 n).ms[i]? ≠ some true := fun h => by
  obtain ⟨h1, h2⟩ := List.getElem?_eq_some_iff.1 h
  simp [work0] at h2
theorem Hp.has_lt {H : Hp} {i : Nat} (h : Hp.has H i) : i < H.length := by
  obtain ⟨x, hx⟩ := h
  exact (List.getElem?_eq_some_iff.1 hx).1
theorem RInv.start {H : Hp} {rs : List Int} {st : Work} (h : Adds H (work0 H.length) st rs) : RInv H rs st := by
  have hl : st.ms.length = H.length := by rw [h.len]; simp [work0]
  refine ⟨hl, fun i hi => ?_, fun n hn => ?_, fun i hi hni => ?_, fun i hi hx => h.all i hi hx (by simpa [work0] using Hp.has_lt hx), ?_⟩
  · rcases h.new i hi with h1 | ⟨h1, h2, -⟩
    · exact absurd h1 (work0_none _ _)
    · exact .root h1 h2
  · rcases h.ws n hn with h1 | h1
    · simp [work0] at h1
    · exact h1
  · rcases h.new i hi with h1 | ⟨-, -, h3⟩
    · exact absurd h1 (work0_none _ _)
    · exact absurd h3 hni
  · have := h.sum
    rw [this]
    simp [work0]
    exact Nat.le_trans List.countP_le_length (by simp)
theorem RInv.step {H : Hp} {rs : List Int} {st st' : Work} {i p : Nat} {c : Cl} {ws0 : List Int} (h : RInv H rs st) (hw : st.ws = ws0 ++ [(i : Int)]) (hi : H[i]? = some (some (p, c))) (ha : Adds H ⟨st.ms, ws0⟩ st' c.strong) : RInv H rs st' := by
  have him : st.ms[i]? = some true := by
    obtain ⟨k, hk, hm⟩ := h.ws i (by rw [hw]; simp)
    obtain rfl : i = k := by omega
    exact hm
  have hlen : st'.ms.length = H.length := ha.len.trans h.len
  refine ⟨hlen, fun k hk => ?_, fun n hn => ?_, fun k hk hkn q d hd j hj hy => ?_, fun k hk hx => ha.stay k (h.roots k hk hx), ?_⟩
  · rcases ha.new k hk with h1 | ⟨h1, h2, -⟩
    · exact h.sound k h1
    · exact .step (h.sound i him) hi h1 h2
  · rcases ha.ws n hn with h1 | h1
    · obtain ⟨k, e, hm⟩ := h.ws n (by rw [hw]; exact List.mem_append_left _ h1)
      exact ⟨k, e, ha.stay k hm⟩
    · exact h1
  · rcases ha.new k hk with h1 | ⟨-, -, h3⟩
    · by_cases e : k = i
      · subst e
        rw [hi] at hd
        simp at hd
        obtain ⟨-, rfl⟩ := hd
        exact ha.all j hj hy (by show j < st.ms.length; rw [h.len]; exact Hp.has_lt hy)
      · refine ha.stay j (h.closed k h1 (fun hm => ?_) q d hd j hj hy)
        rw [hw] at hm
        rcases List.mem_append.1 hm with h4 | h4
        · exact hkn (ha.sub _ h4)
        · have := List.mem_singleton.1 h4; omega
    · exact absurd h3 hkn
  · have h1 := ha.sum
    have h2 := h.sum
    rw [hw] at h2
    simp at h1 h2 ⊢
    omega
theorem RInv.done {H : Hp} {rs : List Int} {st : Work} (h : RInv H rs st) (hw : st.ws = []) (i : Nat) : st.ms[i]? = some true ↔ Reach H rs i := by
  refine ⟨h.sound i, fun hr => ?_⟩
  induction hr with
  | root hi hx => exact h.roots _ hi hx
  | step _ hi hj hy ih => exact h.closed _ ih (by rw [hw]; simp) _ _ hi _ hj hy
/-- How much is still to do. -/
def Work.left (st : Work) : Nat := 2 * st.ms.countP (! ·) + st.ws.length
theorem Adds.left {H : Hp} {ms : List Bool} {ws0 : List Int} {st' : Work} {l : List Int} (ha : Adds H ⟨ms, ws0⟩ st' l) : st'.left ≤ 2 * ms.countP (! ·) + ws0.length := by
  have h1 := ha.sum
  have h2 := ha.le
  unfold Work.left
  simp only at h1 h2
  omega
end Go.Proofs.Ytpaefeknbpfpmaa
/- Layer 6: the heap: Reached. -/
namespace Go.Proofs.Ytpaefeknbpfpmaa
open Go.RowKit
set_option maxRecDepth 100000

theorem info_bool : (Try.prog.info? 4).map (fun i => (i.zero, i.size, i.bytes)) = some (some (.bool false), 1, 1) := by kernel_rfl
theorem made_false (n : Nat) : (madeCells (Value.bool false).cells (n * 1)).toList = boolCells (List.replicate n false) := by
  refine List.ext_getElem? fun i => ?_
  by_cases h : i < n <;> simp [madeCells, boolCells, Value.cells, h, Nat.mod_one]
theorem Ints.far {w wi : World} {A : Option Addr} {xs : List Int} (h : Ints w A xs) (hk : Keeps (fun k => w.heap.size ≤ k) w wi) : Ints wi A xs := h.keeps hk (fun h0 b o hA hS => by
  obtain ⟨b', o', e, hc⟩ := h 0 xs[0] (List.getElem?_eq_getElem h0)
  have := World.block_lt_of_cell? w _ hc
  rw [hA] at e
  simp at e
  obtain ⟨rfl, rfl⟩ := e
  simp at this
  omega)
/-- How the world lies within Reached. -/
structure RW (w wr : World) (hb n bm : Nat) (Fw : Nat → Prop) (st : Work) : Prop where
  lie : ∃ vw, RSt wr bm w.heap.size (bm + 1) hb (w.heap.size + 1) Fw st (some ⟨w.heap.size + 1, 0, none⟩) n vw
  F : ∀ k, Fw k → bm + 2 ≤ k
  inw : In Fw wr
  K : Keeps (fun k => w.heap.size ≤ k) w wr
theorem RW.add {w wr : World} {hb n bm : Nat} {Fw : Nat → Prop} {st : Work} {F : Nat → Prop} {H : Hp} {s : HSt} (h : RW w wr hb n bm Fw st) (hb2 : w.heap.size + 2 ≤ bm) (hh : IsHeap w F hb H s) (hl : st.ms.length = H.length) (m : Int) (hH : H.length ≤ 1048576) (hw : st.ws.length ≤ 1048576) :
    Calls Try.prog 74 #[.int .i64 m, .pointer (some ⟨bm, 0, none⟩), .pointer (some ⟨w.heap.size, 0, none⟩), .pointer (some ⟨bm + 1, 0, none⟩)] wr fun e w' => ∃ Fw', e = .returned (.tuple #[]) ∧ RW w w' hb n bm Fw' (st.add H m) ∧ Keeps (fun k => k = w.heap.size + 1 ∨ k = bm + 1 ∨ Fw k) wr w' ∧ Fresh Fw Fw' wr := by
  obtain ⟨⟨vw, hR⟩, hF, hin, hK⟩ := h
  refine (reached_add wr F Fw _ _ _ hb _ H s st _ _ vw (hh.keeps hK (fun k h1 h2 => by have := hh.inw k h1; omega)) hR hl m hH hw).mono ?_
  rintro e w' ⟨Fw', vw', rfl, h1, h2, h3⟩
  refine ⟨fun k => Fw' k ∧ k < w'.heap.size, rfl, ⟨⟨vw', ⟨h1.mb, h1.mr, h1.wb, h1.wr.mono (fun k h4 h5 => ⟨h5, h4⟩), h1.hx, h1.ne, ⟨fun h => h1.off.1 h.1, fun h => h1.off.2.1 h.1, fun h => h1.off.2.2.1 h.1, fun h => h1.off.2.2.2 h.1⟩⟩⟩, fun k hk => ?_, fun k hk => hk.2, hK.trans h2 (fun k _ h => ?_)⟩, h2, fun k hk => h3 k hk.1⟩
  · rcases h3 k hk.1 with h4 | h4
    · exact hF k h4
    · have := blk_lt hR.wb
      omega
  · rcases h with rfl | rfl | h
    · omega
    · omega
    · have := hF k h; omega
theorem RW.calm {w wr w' : World} {hb n bm : Nat} {Fw : Nat → Prop} {st : Work} (h : RW w wr hb n bm Fw st) (hk : Keeps (fun _ => False) wr w') : RW w w' hb n bm Fw st := by
  obtain ⟨⟨vw, hR⟩, hF, hin, hK⟩ := h
  exact ⟨⟨vw, hR.calm hk⟩, hF, hin.keeps hk, hK.trans hk (fun _ _ h => h.elim)⟩
theorem RW.pop {w wr : World} {hb n bm gw cw : Nat} {Fw : Nat → Prop} {st : Work} {ws0 : List Int} {i : Int} (h : RW w wr hb n bm Fw st) (hb2 : w.heap.size + 2 ≤ bm) (hw : st.ws = ws0 ++ [i]) (hk : wr.cell? ⟨bm + 1, 0, none⟩ = some (.slice (some ⟨gw, 0, none⟩) (ws0.length + 1) cw)) :
    RW w (wr.setCell ⟨bm + 1, 0, none⟩ (.slice (some ⟨gw, 0, none⟩) ws0.length cw)) hb n bm Fw ⟨st.ms, ws0⟩ := by
  obtain ⟨⟨vw, hR⟩, hF, hin, hK⟩ := h
  have k0 := blk_cell hR.wb 0
  simp only [List.getElem?_toArray, List.getElem?_cons_zero] at k0
  rw [hk] at k0
  obtain rfl := Option.some.inj k0
  have KS : Keeps (fun k => k = bm + 1) wr (wr.setCell ⟨bm + 1, 0, none⟩ (.slice (some ⟨gw, 0, none⟩) ws0.length cw)) := (Keeps.refl (fun k => k = bm + 1) wr).setCell (p := ⟨bm + 1, 0, none⟩) (fun _ => rfl) _
  obtain ⟨q1, q2, q3, q4, q5, q6⟩ := hR.ne
  have hwl : st.ws.length = ws0.length + 1 := by rw [hw]; simp
  have h0 := hR.wr
  rw [hwl] at h0
  have h1 := (h0.take (m := ws0.length) (by omega)).set (p := ⟨bm + 1, 0, none⟩) (fun k hk e => by have e' : k = bm + 1 := e; subst e'; exact hR.off.2.2.1 (h0.2 _ hk)) (.slice (some ⟨gw, 0, none⟩) ws0.length cw)
  have e : (intCells st.ws).take (ws0.length * 1) = intCells ws0 := by rw [hw, Nat.mul_one, intCells_append]; exact List.take_left' (by simp [intCells])
  rw [e] at h1
  refine ⟨⟨_, ⟨KS.heap hR.mb (by omega), hR.mr.keeps KS (fun k h1 h2 => by omega), blk_set hR.wb 0 _, h1, KS.heap hR.hx (by omega), ⟨q1, q2, q3, q4, q5, q6⟩, hR.off⟩⟩, hF, hin.keeps KS, hK.trans KS (fun k _ h => by omega)⟩
theorem row_most {w : World} {F : Nat → Prop} {e size n c : Nat} {A : Option Addr} {xs : List Value} (h : Row w F e size (.slice A n c) n xs) : n ≤ 9223372036854775807 := by
  by_cases h0 : 0 < n
  · obtain ⟨g, cur, -, -, -, h1, h2, -⟩ := h.blk h0
    unfold maxLen at h2
    omega
  · omega
theorem RW.start (w w1 : World) (hb n : Nat) (K1 : Keeps (fun _ => False) (w.alloc (.cells #[.pointer (some ⟨hb, 0, none⟩)] 47)) w1) (R1 : Row w1 (fun k => k = w.heap.size + 1) 4 1 (.slice (some ⟨w.heap.size + 1, 0, none⟩) n n) n (boolCells (List.replicate n false))) (hz : w.heap.size + 2 ≤ w1.heap.size) :
    RW w ((w1.alloc (.cells #[.slice (some ⟨w.heap.size + 1, 0, none⟩) n n] 69)).alloc (.cells #[.slice none 0 0] 43)) hb n w1.heap.size (fun _ => False) (work0 n) := by
  have hlen : (work0 n).ms.length = n := by simp [work0]
  have KA : Keeps (fun _ => False) w1 ((w1.alloc (.cells #[.slice (some ⟨w.heap.size + 1, 0, none⟩) n n] 69)).alloc (.cells #[.slice none 0 0] 43)) := ((Keeps.refl (fun _ => False) w1).alloc _).alloc _
  refine ⟨⟨.slice none 0 0, ⟨?_, ?_, ?_, Row.nil _ _ _ _, KA.heap (K1.heap (blk_new w _) (fun h => h)) (fun h => h), ⟨by omega, by omega, by omega, by omega, by omega, by omega⟩, ⟨fun h => h, fun h => h, fun h => h, fun h => h⟩⟩⟩, fun k h => h.elim, fun k h => h.elim, ?_⟩
  · rw [hlen]
    exact blk_alloc (blk_new w1 _) _
  · rw [hlen]
    exact R1.keeps KA (fun k h1 h2 => h2)
  · exact new2t w1 _ _
  · exact ((((Keeps.refl (fun k => w.heap.size ≤ k) w).alloc _).trans K1 (fun _ _ h => h.elim)).trans KA (fun k _ h => h.elim))
set_option maxHeartbeats 4000000 in
theorem heap_Reached (w : World) (F : Nat → Prop) (hb : Nat) (H : List (Option (Nat × Cl))) (s : HSt) (A : Option Addr) (c : Nat) (rs : List Int) (h : IsHeap w F hb H s) (hr : Ints w A rs) (hl : rs.length ≤ 1099511627776) (hH : H.length ≤ 1048576) :
    Calls Try.prog 26 #[.pointer (some ⟨hb, 0, none⟩), .slice A rs.length c] w fun e w' => ∃ Am cm F' ms, e = .returned (.slice Am H.length cm) ∧ Row w' F' 4 1 (.slice Am H.length cm) H.length (boolCells ms) ∧ ms.length = H.length ∧ (∀ i : Nat, ms[i]? = some true ↔ Reach H rs i) ∧ In F' w' ∧ Keeps (fun _ => False) w w' ∧ Fresh (fun _ => False) F' w := by
  have HH := hidden h
  have HRS := hidden hr
  have ADD := hidden (fun (wr : World) (bm : Nat) (Fw : Nat → Prop) (st : Work) (m : Int) (hl : st.ms.length = H.length) (hw : st.ws.length ≤ 1048576) (hb2 : w.heap.size + 2 ≤ bm) (hR : RW w wr hb H.length bm Fw st) => hR.add hb2 h hl m hH hw)
  obtain ⟨Fam, vc, vf, hX⟩ := h
  obtain ⟨Ac, cc, rfl⟩ := hX.cells.form
  have b0 := blk_cell hX.blk 0
  simp only [List.getElem?_toArray, List.getElem?_cons_zero] at b0
  have hbz := blk_lt hX.blk
  have hcap := hX.cells.cap
  have HX := hidden hX
  clear hX hr
  refine post_gen fun R hR => ?_
  go_enter Try.func26, Try.ntmps26
  go_wp2_with (at_make; refine mkn_list _ rfl _ _ _ rfl _ _ 1 1 Try.underlying69 info_bool _ _ _ _ H.length rfl rfl rfl rfl (by omega) (by omega) ?_; intro w1 hR1 hK1; rw [made_false] at hR1; have HR1 := hidden hR1; have HK1 := hidden hK1; clear hR1 hK1)
  have hs0 : (w.alloc (.cells #[.pointer (some ⟨hb, 0, none⟩)] 47)).heap.size = w.heap.size + 1 := by simp
  rw [hs0] at HR1
  try rw [hs0]
  have hz2 : w.heap.size + 2 ≤ w1.heap.size := by
    have h1 := HK1.out.size
    rcases Nat.eq_or_lt_of_le h1 with h2 | h2
    · exfalso
      have h3 := HR1.out.lt (w.heap.size + 1) rfl
      omega
    · omega
  have START := hidden (RW.start w w1 hb H.length HK1.out HR1.out hz2)
  have hbm := hidden hz2
  clear hs0 HR1 HK1 hz2
  go_loopw [22] (fun i wr => ∃ (k : Nat) (Fw : Nat → Prop), k ≤ rs.length ∧ i = .int .i64 k ∧ RW w wr hb H.length w1.heap.size Fw (Work.adds H (work0 H.length) (rs.take k))) (fun i _ => rs.length - (intOf i).toNat)
  case atStart => exact ⟨0, _, Nat.zero_le _, rfl, START.out⟩
  case round =>
    obtain ⟨k, Fw, hk, rfl, hRW⟩ := hrel
    have hz2 := hbm.out
    have HRW := hidden hRW
    clear hRW START
    by_cases hlt : k < rs.length
    · obtain ⟨rb, ro, rfl, hc⟩ := (HRS.out.far HRW.out.K) k rs[k] (List.getElem?_eq_getElem hlt)
      have hrz := World.block_lt_of_cell? wr _ hc
      have hok := Work.adds_ok H (rs.take k) (work0 H.length)
      have hsum := hok.sum
      have hlen : (Work.adds H (work0 H.length) (rs.take k)).ms.length = H.length := by rw [hok.len]; simp [work0]
      have hws : (Work.adds H (work0 H.length) (rs.take k)).ws.length ≤ 1048576 := by
        have : (work0 H.length).ms.countP (! ·) ≤ H.length := Nat.le_trans List.countP_le_length (by simp [work0])
        have e : (work0 H.length).ws.length = 0 := rfl
        omega
      have HT := hidden (show rs.take (k + 1) = rs.take k ++ [rs[k]] by rw [List.take_append_getElem hlt])
      have AD := hidden (ADD.out wr w1.heap.size Fw _ rs[k] hlen hws hz2 HRW.out)
      clear hok hsum hlen hws
      generalize rs[k] = x at *
      go_wp2_with fail
      refine AD.out.mono ?_
      rintro e w2 ⟨Fw2, rfl, h1, h2, h3⟩
      rw [← Work.adds_snoc, ← HT.out] at h1
      have H1 := hidden h1
      clear h1 h2 h3
      go_wp2_with fail
      go_roundw
      case rel => exact ⟨k + 1, Fw2, hlt, by go_num, H1.out⟩
      case measure => simp [intOf]; omega
    · obtain rfl : k = rs.length := by omega
      rw [List.take_length] at HRW
      have hz3 := hidden hz2
      clear hz2
      have hI := hidden (RInv.start (Work.adds_ok H rs (work0 H.length)))
      go_wp2_with fail
      go_loopg [] (Work.left (Work.adds H (work0 H.length) rs)) (fun k wr => ∃ (st : Work) (Fw : Nat → Prop), st.left ≤ k ∧ RInv H rs st ∧ RW w wr hb H.length w1.heap.size Fw st)
      case atStart => exact ⟨_, Fw, Nat.le_refl _, hI.out, HRW.out⟩
      case round =>
        clear HRW hI
        obtain ⟨st, Fw1, hle, hI, hRW⟩ := hrel
        have HI := hidden hI
        have HRW := hidden hRW
        obtain ⟨⟨vw, hS⟩, -, -, -⟩ := hRW
        have HS := hidden hS
        obtain ⟨Aw, cw, rfl⟩ := hS.wr.form
        have k0 := blk_cell hS.wb 0
        have k0f := blk_frozen hS.wb 0
        have kz := blk_lt hS.wb
        have x0 := blk_cell hS.hx 0
        have xz := blk_lt hS.hx
        simp only [List.getElem?_toArray, List.getElem?_cons_zero] at k0 x0
        rcases List.eq_nil_or_concat st.ws with hw | ⟨ws0, n, hw⟩
        · have m0 := blk_cell hS.mb 0
          have mz := blk_lt hS.mb
          simp only [List.getElem?_toArray, List.getElem?_cons_zero, hI.len] at m0
          have hwl : st.ws.length = 0 := by rw [hw]; rfl
          rw [hwl] at k0
          have HW := hidden hw
          clear hS hI hw hwl hle
          go_wp2_with fail
          refine hR.out _ _ ⟨some ⟨w.heap.size + 1, 0, none⟩, H.length, fun k => k = w.heap.size + 1, st.ms, rfl, ?_, HI.out.len, fun i => HI.out.done HW.out i, fun k hk => ?_, HRW.out.K.mono (fun k h1 h2 => absurd h1 (Nat.not_lt_of_le h2)), fun k hk => .inr (by have hk' : k = w.heap.size + 1 := hk; omega)⟩
          · have := HS.out.mr
            rw [HI.out.len] at this
            exact this
          · exact hk ▸ HS.out.mr.lt (w.heap.size + 1) rfl
        · rw [List.concat_eq_append] at hw
          obtain ⟨i, rfl, him⟩ := hI.ws n (by rw [hw]; simp)
          obtain ⟨⟨p, cl⟩, hHi⟩ := (hI.sound i him).has
          have hwl : st.ws.length = ws0.length + 1 := by rw [hw]; simp
          have hsum := hI.sum
          obtain ⟨gw, rfl, -, gwz, gc, -⟩ := row1_cell hS.wr (i := ws0.length) (v := .int .i64 i) (by rw [hw]; simp [intCells])
          have hcw := hS.wr.cap
          rw [hwl] at k0 hcw
          have hw2 : IntKind.i64.wrap ((ws0.length : Int) + 1 - 1) = ws0.length := by rw [IntKind.wrap_i64]; omega
          have hb1 : hb < wr.heap.size := Nat.lt_of_lt_of_le hbz HRW.out.K.size
          have hBn : w.heap.size ≠ w1.heap.size + 1 := by have := hz3.out; omega
          have hbn : hb ≠ w1.heap.size + 1 := by have := hz3.out; omega
          have b1 : wr.cell? ⟨hb, 0, none⟩ = some (.slice Ac H.length cc) := HRW.out.K.cell b0 (show ¬ w.heap.size ≤ hb by omega)
          have hil := (List.getElem?_eq_some_iff.1 hHi).1
          obtain ⟨gh, rfl, -, ghz, hc, -⟩ := row1_cell HX.out.cells (i := i) (v := .pointer (some ⟨p, 0, none⟩)) (by rw [List.getElem?_map, hHi]; rfl)
          have hc1 := HRW.out.K.cell hc (by show ¬ w.heap.size ≤ gh; omega)
          have ghz1 := World.block_lt_of_cell? wr _ hc1
          have ghn : gh ≠ w1.heap.size + 1 := by have := hz3.out; omega
          have hi1 : (i : Int) < (H.length : Int) := by omega
          have HHi := hidden hHi
          have HW := hidden hw
          have hlt2 : 2 * st.ms.countP (! ·) + ws0.length < gk := by unfold Work.left at hle; omega
          have HMR := hidden (show w.heap.size + 1 < wr.heap.size from HS.out.mr.lt (w.heap.size + 1) rfl)
          have POP := hidden (HRW.out.pop hz3.out hw k0)
          have KS := hidden (show Keeps (fun k => w.heap.size ≤ k) w (wr.setCell ⟨w1.heap.size + 1, 0, none⟩ (.slice (some ⟨gw, 0, none⟩) ws0.length cw)) from HRW.out.K.setCell (p := ⟨w1.heap.size + 1, 0, none⟩) (fun _ => by have := hz3.out; show w.heap.size ≤ w1.heap.size + 1; omega) _)
          have STR := hidden (cell_Strong _ p (Fam (i + 3)) cl ((HX.out.each i p cl hHi).keeps KS.out (fun k h1 h2 => by have := HX.out.inw k (HX.out.sub _ k h1); omega)))
          have hzs := hidden (show (wr.setCell ⟨w1.heap.size + 1, 0, none⟩ (.slice (some ⟨gw, 0, none⟩) ws0.length cw)).heap.size = wr.heap.size by simp [World.setCell])
          clear hS hI hw hHi him hc b0 hle
          go_wp2_with fail
          refine STR.out.mono ?_
          rintro e w3 ⟨A3, c3, F3, rfl, h1, h2, h3, h4⟩
          have hmost := row_most h1
          have RW3 := hidden (POP.out.calm h3)
          have ROW3 := hidden h1
          have IN3 := hidden h2
          have hF3 := hidden (show ∀ k, F3 k → wr.heap.size ≤ k from fun k h => (h4 k h).elim (fun h => h.elim) (fun h => by rw [hzs.out] at h; exact h))
          have AP3 := hidden (show Apart F3 (fun k => k = w.heap.size + 1 ∨ k = w1.heap.size + 1 ∨ Fw1 k) from fun k h1 h2 => by
            have := hF3.out k h1
            have h7 := HMR.out
            rcases h2 with h2 | h2 | h2
            · omega
            · omega
            · have := HRW.out.inw k h2; omega)
          clear h1 h2 h3 h4 STR POP
          go_wp2_with fail
          go_loopw [53] (fun j w4 => ∃ (k : Nat) (Fw : Nat → Prop), k ≤ cl.strong.length ∧ j = .int .i64 k ∧ RW w w4 hb H.length w1.heap.size Fw (Work.adds H ⟨st.ms, ws0⟩ (cl.strong.take k)) ∧ Row w4 F3 3 1 (.slice A3 cl.strong.length c3) cl.strong.length (intCells cl.strong) ∧ In F3 w4 ∧ Apart F3 (fun k => k = w.heap.size + 1 ∨ k = w1.heap.size + 1 ∨ Fw k)) (fun j _ => cl.strong.length - (intOf j).toNat)
          case atStart => exact ⟨0, _, Nat.zero_le _, rfl, RW3.out, ROW3.out, IN3.out, AP3.out⟩
          case round =>
            obtain ⟨k, Fw2, hk, rfl, g1, g2, g3, g4⟩ := hrel
            rename World => w4
            have G1 := hidden g1
            have G2 := hidden g2
            have G3 := hidden g3
            have G4 := hidden g4
            clear g1 g2 g3 g4 RW3 ROW3 IN3 AP3
            by_cases hlt : k < cl.strong.length
            · obtain ⟨sb, rfl, -, sz, sc, -⟩ := row1_cell G2.out (i := k) (v := .int .i64 cl.strong[k]) (by rw [intCells, List.getElem?_map, List.getElem?_eq_getElem hlt]; rfl)
              have hok := Work.adds_ok H (cl.strong.take k) ⟨st.ms, ws0⟩
              have hsum2 := hok.sum
              have hlen : (Work.adds H ⟨st.ms, ws0⟩ (cl.strong.take k)).ms.length = H.length := by rw [hok.len]; exact HI.out.len
              have hws : (Work.adds H ⟨st.ms, ws0⟩ (cl.strong.take k)).ws.length ≤ 1048576 := by
                simp only at hsum2
                omega
              have HT := hidden (show cl.strong.take (k + 1) = cl.strong.take k ++ [cl.strong[k]] by rw [List.take_append_getElem hlt])
              have AD := hidden (ADD.out w4 w1.heap.size Fw2 _ cl.strong[k] hlen hws hz3.out G1.out)
              clear hok hsum2 hlen hws
              generalize cl.strong[k] = x at *
              go_wp2_with fail
              refine AD.out.mono ?_
              rintro e w5 ⟨Fw5, rfl, h1, h2, h3⟩
              rw [← Work.adds_snoc, ← HT.out] at h1
              have H1 := hidden h1
              have H2 := hidden (G2.out.keeps h2 G4.out)
              have H3 := hidden (G3.out.keeps h2)
              have H4 := hidden (show Apart F3 (fun k => k = w.heap.size + 1 ∨ k = w1.heap.size + 1 ∨ Fw5 k) from fun k h4 h5 => by
                rcases h5 with h5 | h5 | h5
                · exact G4.out k h4 (.inl h5)
                · exact G4.out k h4 (.inr (.inl h5))
                · rcases h3 k h5 with h6 | h6
                  · exact G4.out k h4 (.inr (.inr h6))
                  · have := G3.out k h4; omega)
              clear h1 h2 h3
              go_wp2_with fail
              go_roundw
              case rel => exact ⟨k + 1, Fw5, hlt, by go_num, H1.out, H2.out, H3.out, H4.out⟩
              case measure => simp [intOf]; omega
            · obtain rfl : k = cl.strong.length := by omega
              rw [List.take_length] at G1
              have hok := Work.adds_ok H cl.strong ⟨st.ms, ws0⟩
              have hlf := Adds.left hok
              have HI2 := hidden (HI.out.step HW.out HHi.out hok)
              clear hok
              go_wp2_with fail
              go_roundg (Work.left (Work.adds H ⟨st.ms, ws0⟩ cl.strong))
              case measure => omega
              case rel => exact ⟨_, Fw2, Nat.le_refl _, HI2.out, G1.out⟩
end Go.Proofs.Ytpaefeknbpfpmaa
/- Layer 6: the heap: what Collect does to the cells: plain; how the heap lies behind a step of it. -/
namespace Go.Proofs.Ytpaefeknbpfpmaa
open Go.RowKit
set_option maxRecDepth 100000

section
variable {w w1 : World} {F S : Nat → Prop} {hb : Nat} {H : List (Option (Nat × Cl))} {s : HSt} {Fam : Nat → Nat → Prop} {vc vf : Value}
/-- Cells may go; the free places' row is another one. -/
theorem HeapX.turn {s' : HSt} {Fam2 : Nat → Prop} {vc' vf' : Value} {H' : List (Option (Nat × Cl))} (h : HeapX w F hb H s Fam vc vf)
    (hblk : w1.heap[hb]? = some (.cells #[vc', vf', .int .i64 s'.live, .int .i64 s'.limit, .int .i64 s'.freed, .int .i64 s'.runs] 121 (0, 0)))
    (hk : Keeps (fun k => k = hb ∨ Fam 1 k ∨ Fam 2 k) w w1)
    (h1 : Row w1 (Fam 1) 57 1 vc' H'.length (H'.map ptr))
    (h2 : Row w1 Fam2 3 1 vf' s'.fr.length (intCells s'.fr)) (f2 : Fresh (Fam 2) Fam2 w) (i2 : In Fam2 w1)
    (hH : ∀ (j q : Nat) (d : Cl), H'[j]? = some (some (q, d)) → H[j]? = some (some (q, d))) :
    HeapX w1 (fun k => F k ∨ Fam2 k) hb H' s' (famSet Fam 2 Fam2) vc' vf' := by
  have hin : ∀ j, In (Fam j) w := fun j k hk => h.inw k (h.sub j k hk)
  refine ⟨hblk, ?_, fun j k hjk => ?_, famSet_ap h.ap f2 hin, ?_, ?_, fun j q d hj => ?_, fun k hk2 => ?_⟩
  · rw [famSet_ne _ _ (by omega)]; exact h.here
  · by_cases e : j = 2
    · subst e; rw [famSet_at] at hjk; exact .inr hjk
    · rw [famSet_ne _ _ e] at hjk; exact .inl (h.sub j k hjk)
  · rw [famSet_ne _ _ (by omega)]; exact h1
  · rw [famSet_at]; exact h2
  · rw [famSet_ne _ _ (by omega)]
    refine (h.each j q d (hH j q d hj)).keeps hk (fun k a b => ?_)
    rcases b with rfl | b | b
    · exact h.ap 0 (j + 3) (by omega) k h.here a
    · exact h.ap 1 (j + 3) (by omega) k b a
    · exact h.ap 2 (j + 3) (by omega) k b a
  · rcases hk2 with hk2 | hk2
    · exact Nat.lt_of_lt_of_le (h.inw k hk2) hk.size
    · exact i2 k hk2
theorem HeapX.mine (h : HeapX w F hb H s Fam vc vf) (k : Nat) (hk : k = hb ∨ Fam 1 k ∨ Fam 2 k) : F k := by
  rcases hk with rfl | hk | hk
  · exact h.sub 0 _ h.here
  · exact h.sub 1 k hk
  · exact h.sub 2 k hk
end
/-- What a cell's first number becomes. -/
theorem CellX.setNum {w : World} {p gn cn : Nat} {F : Nat → Prop} {c : Cl} {G : Nat → Nat → Prop} {vv : Value} {lp tp : Option Addr} {t : Int} {l : List Int} (h : CellX w p F c G vv (.slice (some ⟨gn, 0, none⟩) c.nums.length cn) lp tp) (hn : c.nums = t :: l) (u : Int) :
    IsCell (w.setCell ⟨gn, 0, none⟩ (.int .i64 u)) p F { c with nums := u :: l } ∧ Keeps F w (w.setCell ⟨gn, 0, none⟩ (.int .i64 u)) := by
  have hg : G 3 gn := h.nums.2 gn rfl
  have KS : Keeps (fun k => k = gn) w (w.setCell ⟨gn, 0, none⟩ (.int .i64 u)) := (Keeps.refl (fun k => k = gn) w).setCell (p := ⟨gn, 0, none⟩) (fun _ => rfl) _
  have hne : ∀ i, i ≠ 3 → Apart (G i) (fun k => k = gn) := fun i hi k h1 h2 => h.ap i 3 hi k h1 (h2 ▸ hg)
  have hlen : (u :: l).length = c.nums.length := by rw [hn]; rfl
  refine ⟨⟨G, vv, .slice (some ⟨gn, 0, none⟩) c.nums.length cn, lp, tp, KS.heap h.blk (fun e => h.off 3 (e ▸ hg)), h.here, h.sub, h.off, h.ap, h.vals.keeps KS (hne 0 (by decide)), h.list.keeps KS (hne 1 (by decide)), h.tab.keeps KS (hne 2 (by decide)), ?_, h.inw.keeps KS, ⟨h.small.vals, by show (u :: l).length ≤ _; rw [hlen]; exact h.small.nums, h.small.list, h.small.tab⟩⟩, KS.mono (fun k _ e => e ▸ h.sub 3 gn hg)⟩
  have h3 : Row (w.setCell ⟨gn, 0, none⟩ (.int .i64 u)) (G 3) 2 1 (.slice (some ⟨gn, 0, none⟩) c.nums.length cn) c.nums.length (intCells (c.nums.set 0 u)) := by
    have h3 := h.nums.1.stored 0 (.int .i64 u)
    rw [intCells_set] at h3
    exact ⟨h3.1, h.nums.2⟩
  show Row _ _ _ _ (.slice _ c.nums.length _) (u :: l).length (intCells (u :: l))
  rw [hlen]
  rw [hn] at h3 ⊢
  exact h3
/-- The first k cells that aren't marked are gone. -/
structure Swept (H : Hp) (ms : List Bool) (k : Nat) (Hk : Hp) (fr : List Int) : Prop where
  len : Hk.length = H.length
  gone : ∀ j, j < k → Hp.has H j → ms[j]? ≠ some true → Hk[j]? = some none
  stay : ∀ j, (k ≤ j ∨ ms[j]? = some true ∨ ¬ Hp.has H j) → Hk[j]? = H[j]?
  mem : ∀ n : Int, n ∈ fr ↔ ∃ j : Nat, n = j ∧ j < k ∧ Hp.has H j ∧ ms[j]? ≠ some true
  nodup : fr.Nodup
  cnt : Hk.countP (·.isSome) + fr.length = H.countP (·.isSome)
theorem Swept.start (H : Hp) (ms : List Bool) : Swept H ms 0 H [] := ⟨rfl, fun j h => by omega, fun _ _ => rfl, fun n => by simp, List.nodup_nil, rfl⟩
theorem Swept.skip {H : Hp} {ms : List Bool} {k : Nat} {Hk : Hp} {fr : List Int} (h : Swept H ms k Hk fr) (hs : ms[k]? = some true ∨ ¬ Hp.has H k) : Swept H ms (k + 1) Hk fr := by
  have key : ∀ j, Hp.has H j → ms[j]? ≠ some true → j < k + 1 → j < k := fun j h1 h2 h3 => by
    rcases Nat.lt_or_ge j k with h4 | h4
    · exact h4
    · obtain rfl : j = k := by omega
      rcases hs with h5 | h5
      · exact absurd h5 h2
      · exact absurd h1 h5
  refine ⟨h.len, fun j h1 h2 h3 => h.gone j (key j h2 h3 h1) h2 h3, fun j h1 => ?_, fun n => ?_, h.nodup, h.cnt⟩
  · rcases h1 with h1 | h1
    · exact h.stay j (.inl (by omega))
    · exact h.stay j (.inr h1)
  · rw [h.mem]
    constructor
    · rintro ⟨j, h1, h2, h3, h4⟩; exact ⟨j, h1, by omega, h3, h4⟩
    · rintro ⟨j, h1, h2, h3, h4⟩; exact ⟨j, h1, key j h3 h4 h2, h3, h4⟩
theorem Swept.free {H : Hp} {ms : List Bool} {k : Nat} {Hk : Hp} {fr : List Int} (h : Swept H ms k Hk fr) (hs : ms[k]? ≠ some true) (hh : Hp.has H k) : Swept H ms (k + 1) (Hk.set k none) (fr ++ [(k : Int)]) := by
  have hkl : k < Hk.length := by rw [h.len]; exact Hp.has_lt hh
  have hkk : Hk[k]? = H[k]? := h.stay k (.inl (Nat.le_refl _))
  refine ⟨by rw [List.length_set]; exact h.len, fun j h1 h2 h3 => ?_, fun j h1 => ?_, fun n => ?_, ?_, ?_⟩
  · by_cases e : k = j
    · subst e; exact List.getElem?_set_self hkl
    · rw [List.getElem?_set_ne e]; exact h.gone j (by omega) h2 h3
  · have e : k ≠ j := by
      rintro rfl
      rcases h1 with h1 | h1 | h1
      · omega
      · exact hs h1
      · exact h1 hh
    rw [List.getElem?_set_ne e]
    exact h.stay j (h1.imp (fun h => by omega) id)
  · rw [List.mem_append, h.mem, List.mem_singleton]
    constructor
    · rintro (⟨j, h1, h2, h3, h4⟩ | h1)
      · exact ⟨j, h1, by omega, h3, h4⟩
      · exact ⟨k, h1, by omega, hh, hs⟩
    · rintro ⟨j, h1, h2, h3, h4⟩
      by_cases e : j = k
      · subst e; exact .inr h1
      · exact .inl ⟨j, h1, by omega, h3, h4⟩
  · rw [List.nodup_append]
    refine ⟨h.nodup, by simp, fun a ha b hb e => ?_⟩
    have h1 := List.mem_singleton.1 hb
    obtain ⟨j, h2, h3, -⟩ := (h.mem a).1 ha
    omega
  · have h1 := List.countP_set (p := fun x : Option (Nat × Cl) => x.isSome) (a := none) hkl
    have h2 : Hk[k].isSome = true := by
      obtain ⟨x, hx⟩ := hh
      have := (List.getElem?_eq_some_iff.1 (hkk.trans hx)).2
      rw [this]; rfl
    have h3 : 0 < Hk.countP (·.isSome) := List.countP_pos_iff.2 ⟨_, List.getElem_mem hkl, h2⟩
    have h4 := h.cnt
    rw [h1, h2, List.length_append, List.length_singleton]
    simp
    omega
/-- A weak cell whose aim is gone. -/
noncomputable def Cl.fix (ms : List Bool) (c : Cl) : Cl :=
  match c.nums with
  | [] => c
  | t :: l => if c.kind = 9 ∧ 0 ≤ t ∧ ms[t.toNat]? ≠ some true then { c with nums := (-1) :: l } else c
/-- The weak ones among the first k cells are seen to. -/
structure Fixed (H : Hp) (ms : List Bool) (k : Nat) (Hk : Hp) : Prop where
  len : Hk.length = H.length
  did : ∀ j, j < k → Hk[j]? = (H[j]?).map (Option.map fun x => (x.1, x.2.fix ms))
  stay : ∀ j, k ≤ j → Hk[j]? = H[j]?
theorem Fixed.start (H : Hp) (ms : List Bool) : Fixed H ms 0 H := ⟨rfl, fun j h => by omega, fun _ _ => rfl⟩
theorem Fixed.skip {H : Hp} {ms : List Bool} {k : Nat} {Hk : Hp} (h : Fixed H ms k Hk) (hs : H[k]? = (H[k]?).map (Option.map fun x => (x.1, x.2.fix ms))) : Fixed H ms (k + 1) Hk := by
  refine ⟨h.len, fun j h1 => ?_, fun j h1 => h.stay j (by omega)⟩
  by_cases e : j = k
  · subst e; rw [h.stay j (Nat.le_refl _)]; exact hs
  · exact h.did j (by omega)
theorem Fixed.set {H : Hp} {ms : List Bool} {k p : Nat} {c : Cl} {Hk : Hp} (h : Fixed H ms k Hk) (hs : H[k]? = some (some (p, c))) : Fixed H ms (k + 1) (Hk.set k (some (p, c.fix ms))) := by
  have hkl : k < Hk.length := by rw [h.len]; exact (List.getElem?_eq_some_iff.1 hs).1
  refine ⟨by rw [List.length_set]; exact h.len, fun j h1 => ?_, fun j h1 => ?_⟩
  · by_cases e : k = j
    · subst e; rw [List.getElem?_set_self hkl, hs]; rfl
    · rw [List.getElem?_set_ne e]; exact h.did j (by omega)
  · rw [List.getElem?_set_ne (by omega)]; exact h.stay j (by omega)
end Go.Proofs.Ytpaefeknbpfpmaa
/- Layer 6: the heap: Collect. -/
namespace Go.Proofs.Ytpaefeknbpfpmaa
open Go.RowKit
set_option maxRecDepth 100000

/-- How the world lies within Collect: cells H', numbers s', marks. -/
structure CW (w wr : World) (F : Nat → Prop) (hb : Nat) (H' : Hp) (s' : HSt) (vc : Value) (Am : Option Addr) (n cm : Nat) (ms : List Bool) : Prop where
  lie : ∃ F' Fam vf, HeapX wr F' hb H' s' Fam vc vf ∧ Fresh F F' w ∧ ∃ Fm, Row wr Fm 4 1 (.slice Am n cm) n (boolCells ms) ∧ Apart F' Fm ∧ In Fm wr
  K : Keeps F w wr
set_option maxHeartbeats 4000000 in
theorem heap_Collect (w : World) (F : Nat → Prop) (hb : Nat) (H : List (Option (Nat × Cl))) (s : HSt) (A : Option Addr) (c : Nat) (rs : List Int) (h : IsHeap w F hb H s) (hr : Ints w A rs) (hl : rs.length ≤ 1099511627776) (hH : H.length ≤ 1048576) (hq : 0 ≤ s.runs ∧ s.runs < 1152921504606846976 ∧ 0 ≤ s.freed ∧ s.freed < 1152921504606846976 ∧ 0 ≤ s.live ∧ s.live ≤ 1048576) (hfl : s.fr.length ≤ 1048576) :
    Calls Try.prog 55 #[.pointer (some ⟨hb, 0, none⟩), .slice A rs.length c] w fun e w' => ∃ F' H1 H2 fr ms, e = .returned (.int .i64 fr.length) ∧ ms.length = H.length ∧ (∀ i : Nat, ms[i]? = some true ↔ Reach H rs i) ∧ Swept H ms H.length H1 fr ∧ Fixed H1 ms H.length H2 ∧ IsHeap w' F' hb H2 ⟨s.fr ++ fr, s.live - fr.length, s.limit, s.freed + fr.length, s.runs + 1⟩ ∧ Keeps F w w' ∧ Fresh F F' w := by
  have HH := hidden h
  have HRC := hidden (heap_Reached w F hb H s A c rs h hr hl hH)
  have HIN := hidden h.inw
  clear hr hl h
  refine post_gen fun R hR => ?_
  go_enter Try.func55, Try.ntmps55
  go_wp2_with fail
  refine HRC.out.mono ?_
  rintro e w1 ⟨Am, cm, Fm, ms, rfl, g1, g2, g3, g4, g5, g6⟩
  have HML := hidden g2
  have HMR := hidden g3
  have G1 := hidden g1
  have hz1 := g5.size
  obtain ⟨Fam, vc, vf, hX⟩ := HH.out.calm g5
  obtain ⟨Ac, cc, rfl⟩ := hX.cells.form
  have C1 := hidden (show CW w w1 F hb H s (.slice Ac H.length cc) Am H.length cm ms from ⟨⟨F, Fam, vf, hX, Fresh.refl _ _, Fm, g1, fun k h1 h2 => (g6 k h2).elim (fun h => h) (fun h => by have := HIN.out k h1; omega), g4⟩, g5.mono (fun _ _ h => h.elim)⟩)
  have b5 := blk_cell hX.blk 5
  have b5f := blk_frozen hX.blk 5
  have b0 := blk_cell hX.blk 0
  simp only [List.getElem?_toArray, List.getElem?_cons_zero, List.getElem?_cons_succ] at b5 b0
  have hbz := blk_lt hX.blk
  have hw1 : IntKind.i64.wrap (s.runs + 1) = s.runs + 1 := by rw [IntKind.wrap_i64]; omega
  have C2 := hidden (show CW w (w1.setCell ⟨hb, 5, none⟩ (.int .i64 (s.runs + 1))) F hb H ⟨s.fr, s.live, s.limit, s.freed, s.runs + 1⟩ (.slice Ac H.length cc) Am H.length cm ms from by
    have KS : Keeps (fun k => k = hb) w1 (w1.setCell ⟨hb, 5, none⟩ (.int .i64 (s.runs + 1))) := (Keeps.refl (fun k => k = hb) w1).setCell (p := ⟨hb, 5, none⟩) (fun _ => rfl) _
    refine ⟨⟨_, _, vf, hX.turn (s' := ⟨s.fr, s.live, s.limit, s.freed, s.runs + 1⟩) (Fam2 := Fam 2) (blk_set hX.blk 5 _) (KS.mono (fun k _ h => .inl h)) (hX.cells.set hX.ne.1 _) (hX.free.set hX.ne.2 _) (Fresh.refl _ _) (fun k h => by have := hX.inw k (hX.sub 2 k h); simpa [World.setCell] using this) (fun _ _ _ h => h), fun k h => .inl (h.elim id (hX.sub 2 k)), Fm, g1.set (fun k hk e => ?_) _, fun k h1 h2 => (g6 k h2).elim (fun h => h) (fun h => by have := HIN.out k (h1.elim id (hX.sub 2 k)); omega), fun k h => by have := g4 k h; simpa [World.setCell] using this⟩, (g5.mono (T := F) (fun _ _ h => h.elim)).trans KS (fun k _ h => by subst h; exact hX.sub 0 _ hX.here)⟩
    have e' : k = hb := e
    subst e'
    exact (g6 _ (g1.2 _ hk)).elim (fun h => h) (fun h => by have := HIN.out _ (hX.sub 0 _ hX.here); omega))
  clear hX g1 g2 g3 g4 g5 g6 C1 HH
  go_wp2_with fail
  have hBW := hidden (show H.length ≤ 1048576 from hH)
  go_loopw [6, 27] (fun n i wr => ∃ (k : Nat) (Hk : Hp) (fr : List Int), k ≤ H.length ∧ i = .int .i64 k ∧ n = .int .i64 fr.length ∧ Swept H ms k Hk fr ∧ CW w wr F hb Hk ⟨s.fr ++ fr, s.live, s.limit, s.freed, s.runs + 1⟩ (.slice Ac H.length cc) Am H.length cm ms) (fun _ i _ => H.length - (intOf i).toNat)
  case atStart => exact ⟨0, H, [], Nat.zero_le _, rfl, rfl, Swept.start H ms, by rw [List.append_nil]; exact C2.out⟩
  case round =>
    obtain ⟨k, Hk, fr, hk, rfl, rfl, hSw, hCW⟩ := hrel
    have SW := hidden hSw
    have CW1 := hidden hCW
    clear C2
    by_cases hlt : k < H.length
    · have hcnt := hSw.cnt
      have hcl : H.countP (·.isSome) ≤ H.length := List.countP_le_length
      have hlen1 : (s.fr ++ fr).length ≤ 2097152 := by rw [List.length_append]; omega
      have hml : k < ms.length := by rw [HML.out]; exact hlt
      have hLL := hidden (rfl : s.fr ++ fr = s.fr ++ fr)
      generalize hL : s.fr ++ fr = L at hCW CW1 hlen1
      have HL := hidden hL
      clear hLL hL
      obtain ⟨⟨F', Fam1, vf1, hX, hF, Fm1, hM, hap, hin⟩, hK⟩ := hCW
      obtain ⟨Af, cf, rfl⟩ := hX.free.form
      have hcel := hX.cells
      rw [hSw.len] at hcel
      have hcap := hcel.cap
      have hkk : Hk[k]? = some H[k] := (hSw.stay k (.inl (Nat.le_refl _))).trans (List.getElem?_eq_getElem hlt)
      obtain ⟨gc, rfl, hgc, gcz, pc, pcf⟩ := row1_cell hcel (i := k) (v := ptr H[k]) (by rw [List.getElem?_map, hkk]; rfl)
      have hmk : ms[k]? = some ms[k] := List.getElem?_eq_getElem hml
      obtain ⟨gm, rfl, hgm, gmz, mc, -⟩ := row1_cell hM (i := k) (v := .bool ms[k]) (by rw [boolCells, List.getElem?_map, hmk]; rfl)
      have hmk' := hml
      have hHk : H[k]? = some H[k] := List.getElem?_eq_getElem hlt
      have HHK := hidden hHk
      have HMK := hidden hmk
      have hi1 : (k : Int) < (H.length : Int) := by omega
      have HX := hidden hX
      have HM := hidden hM
      have HAP := hidden hap
      have HF := hidden hF
      have HINM := hidden hin
      have HK := hidden hK
      have HKK := hidden hkk
      generalize hpe : H[k] = x at *
      generalize hme : ms[k] = y at *
      clear hpe hme
      cases x with
      | none =>
        simp only [ptr] at pc
        have S2 := hidden (SW.out.skip (.inr (fun ⟨x, hx⟩ => by rw [HHK.out] at hx; cases hx)))
        clear hX hM hap hF hin hK hcel hHk hmk hkk hSw hcnt hcl
        go_wp2_with fail
        go_roundw
        case rel => exact ⟨k + 1, Hk, fr, hlt, by go_num, rfl, S2.out, by rw [HL.out]; exact CW1.out⟩
        case measure => simp [intOf]; omega
      | some x =>
        obtain ⟨p, d⟩ := x
        simp only [ptr] at pc
        cases y with
        | true =>
          have S2 := hidden (SW.out.skip (.inl HMK.out))
          clear hX hM hap hF hin hK hcel hHk hmk hkk hSw hcnt hcl
          go_wp2_with fail
          go_roundw
          case rel => exact ⟨k + 1, Hk, fr, hlt, by go_num, rfl, S2.out, by rw [HL.out]; exact CW1.out⟩
          case measure => simp [intOf]; omega
        | false =>
          have S2 := hidden (SW.out.free (by rw [HMK.out]; decide) ⟨_, HHK.out⟩)
          have c0 := blk_cell hX.blk 0
          have c1 := blk_cell hX.blk 1
          simp only [List.getElem?_toArray, List.getElem?_cons_zero, List.getElem?_cons_succ] at c0 c1
          have hbz1 := blk_lt hX.blk
          have n1 : gc ≠ hb := hX.ne.1 gc rfl
          have n2 : hb ≠ gc := fun e => n1 e.symm
          have hfr1 : fr.length < 1048577 := by omega
          have hw3 : IntKind.i64.wrap ((fr.length : Int) + 1) = (fr.length : Int) + 1 := by rw [IntKind.wrap_i64]; omega
          have FR1 := hidden (show Row (wr.setCell ⟨gc, k, none⟩ (.pointer none)) (Fam1 2) 3 1 (.slice Af L.length cf) L.length (intCells L) from hX.free.set (p := ⟨gc, k, none⟩) (fun j hj e => by have e' : j = gc := e; subst e'; exact hX.ap 2 1 (by decide) j (hX.free.2 j hj) (hX.cells.2 j rfl)) (.pointer none))
          have HC := hidden hcel
          clear hX hM hap hF hin hK hcel hHk hmk hkk hSw hcnt hcl
          go_wp2_with (at_builtin; refine app_list rfl (Fam1 2) _ _ _ _ _ _ 1 8 rfl Try.underlying43 info_int rfl (by decide) _ _ _ rfl (FR1.out.alloc _) _ rfl _ _ (int_lit (wr.setCell ⟨gc, k, none⟩ (.pointer none)) k (by simp [World.setCell])) (by omega) (by omega) ?_; intro A9 c9 w9 hR9 hK9; have HR9 := hidden hR9; have HK9 := hidden (hK9.mono (T := Fam1 2) (fun j _ e => HX.out.free.2 j e)); have B9 := hidden (HK9.out.heap (blk_alloc (blk_far (p := ⟨gc, k, none⟩) HX.out.blk n2 (.pointer none)) _) (fun e => HX.out.ap 0 2 (by decide) hb HX.out.here e)); have k1 := blk_cell B9.out 1; have k1f := blk_frozen B9.out 1; have hbz9 := blk_lt B9.out; clear hR9 hK9)
          go_roundw
          case rel =>
            refine ⟨k + 1, Hk.set k none, fr ++ [(k : Int)], hlt, by go_num, by simp, S2.out, ?_⟩
            rw [← List.append_assoc, HL.out]
            have KC : Keeps (fun j => j = hb ∨ Fam1 1 j ∨ Fam1 2 j) wr (wr.setCell ⟨gc, k, none⟩ (.pointer none)) := (Keeps.refl (fun j => j = hb ∨ Fam1 1 j ∨ Fam1 2 j) wr).setCell (p := ⟨gc, k, none⟩) (fun _ => .inr (.inl hgc)) _
            have KX : Keeps (fun j => j = hb ∨ Fam1 1 j ∨ Fam1 2 j) wr (w9.setCell ⟨hb, 1, none⟩ (.slice A9 (L.length + 1) c9)) := ((KC.alloc _).trans HK9.out (fun _ _ h => .inr (.inr h))).setCell (p := ⟨hb, 1, none⟩) (fun _ => .inl rfl) _
            have R1 : Row (wr.setCell ⟨gc, k, none⟩ (.pointer none)) (Fam1 1) 57 1 (.slice (some ⟨gc, 0, none⟩) H.length cc) H.length ((Hk.map ptr).set k (.pointer none)) := ⟨(HC.out.1.stored k (.pointer none)).1, HC.out.2⟩
            have R2 := ((R1.alloc (.cells #[.int .i64 k] 3)).keeps HK9.out (HX.out.ap 1 2 (by decide))).set (p := ⟨hb, 1, none⟩) HX.out.ne.1 (.slice A9 (L.length + 1) c9)
            have hzA : ((wr.setCell ⟨gc, k, none⟩ (.pointer none)).alloc (.cells #[.int .i64 k] 3)).heap.size = wr.heap.size + 1 := by simp [World.setCell]
            have R3 := HR9.out.mono (G := fun j => (Fam1 2 j ∨ wr.heap.size ≤ j) ∧ j < w9.heap.size) (fun j h1 h2 => ⟨h2.imp id (fun h => by rw [hzA] at h; omega), h1⟩)
            have R4 := R3.set (p := ⟨hb, 1, none⟩) (fun j hj e => by
              have e' : j = hb := e
              subst e'
              rcases (R3.2 _ hj).1 with h | h
              · exact HX.out.ap 0 2 (by decide) _ HX.out.here h
              · omega) (.slice A9 (L.length + 1) c9)
            have hfe : (HSt.mk (L ++ [(k : Int)]) s.live s.limit s.freed (s.runs + 1)).fr.length = L.length + 1 := by simp
            refine ⟨⟨_, _, .slice A9 (L.length + 1) c9, HX.out.turn (s' := ⟨L ++ [(k : Int)], s.live, s.limit, s.freed, s.runs + 1⟩) (Fam2 := fun j => (Fam1 2 j ∨ wr.heap.size ≤ j) ∧ j < w9.heap.size) (H' := Hk.set k none) (blk_set B9.out 1 _) KX ?_ ?_ (fun j h => h.1) (fun j h => by simpa [World.setCell] using h.2) (fun j q d h => ?_), fun j h => ?_, Fm1, HM.out.keeps KX (fun j h1 h2 => HAP.out j (HX.out.mine j h2) h1), fun j h1 h2 => ?_, HINM.out.keeps KX⟩, HK.out.fresh HF.out (KX.mono (fun j _ h => HX.out.mine j h))⟩
            · rw [List.length_set, SW.out.len, List.map_set]
              exact R2
            · rw [hfe, show intCells (HSt.mk (L ++ [(k : Int)]) s.live s.limit s.freed (s.runs + 1)).fr = intCells L ++ [.int .i64 k] by simp [intCells]]
              exact R4
            · by_cases e : k = j
              · subst e
                rw [List.getElem?_set_self (by rw [SW.out.len]; exact hlt)] at h
                cases h
              · rw [List.getElem?_set_ne e] at h
                exact h
            · rcases h with h | h
              · exact HF.out j h
              · rcases h.1 with h | h
                · exact HF.out j (HX.out.sub 2 j h)
                · exact .inr (Nat.le_trans HK.out.size h)
            · rcases h1 with h1 | h1
              · exact HAP.out j h1 h2
              · rcases h1.1 with h1 | h1
                · exact HAP.out j (HX.out.sub 2 j h1) h2
                · have := HINM.out j h2; omega
          case measure => simp [intOf]; omega
    · obtain rfl : k = H.length := by omega
      have hcnt := hSw.cnt
      have hcl : H.countP (·.isSome) ≤ H.length := List.countP_le_length
      have hlen1 : (s.fr ++ fr).length ≤ 2097152 := by rw [List.length_append]; omega
      have hfr1 : fr.length < 1048577 := by omega
      have hL : Hid (fr.length < 1048577 ∧ (s.fr ++ fr).length ≤ 2097152) := hidden ⟨hfr1, hlen1⟩
      obtain ⟨⟨F', Fam1, vf1, hX, -⟩, -⟩ := hCW
      have c0 := blk_cell hX.blk 0
      simp only [List.getElem?_toArray, List.getElem?_cons_zero] at c0
      have hbz1 := blk_lt hX.blk
      clear hX hSw hcnt hcl hfr1 hlen1
      go_wp2_with fail
      go_loopw [64] (fun i wr => ∃ (k : Nat) (H2 : Hp), k ≤ H.length ∧ i = .int .i64 k ∧ Fixed Hk ms k H2 ∧ CW w wr F hb H2 ⟨s.fr ++ fr, s.live, s.limit, s.freed, s.runs + 1⟩ (.slice Ac H.length cc) Am H.length cm ms) (fun i _ => H.length - (intOf i).toNat)
      case atStart => exact ⟨0, Hk, Nat.zero_le _, rfl, Fixed.start Hk ms, CW1.out⟩
      case round =>
        obtain ⟨k, H2, hk, rfl, hFx, hCW⟩ := hrel
        rename World => wq
        have FX := hidden hFx
        have CW2 := hidden hCW
        clear CW1 c0 hbz1
        by_cases hlt : k < H.length
        · have hml : k < ms.length := by rw [HML.out]; exact hlt
          have hlk : k < Hk.length := by rw [SW.out.len]; exact hlt
          obtain ⟨⟨F2, Fam2, vf2, hX, hF, Fm2, hM, hap, hin⟩, hK⟩ := hCW
          have hcel := hX.cells
          rw [hFx.len, SW.out.len] at hcel
          have hcap := hcel.cap
          have hkk : H2[k]? = some Hk[k] := (hFx.stay k (Nat.le_refl _)).trans (List.getElem?_eq_getElem hlk)
          have hHk : Hk[k]? = some Hk[k] := List.getElem?_eq_getElem hlk
          obtain ⟨gc, rfl, hgc, gcz, pc, pcf⟩ := row1_cell hcel (i := k) (v := ptr Hk[k]) (by rw [List.getElem?_map, hkk]; rfl)
          have hi1 : (k : Int) < (H.length : Int) := by omega
          have HX := hidden hX
          have HM := hidden hM
          have HAP := hidden hap
          have HF := hidden hF
          have HINM := hidden hin
          have HK := hidden hK
          have HKK := hidden hkk
          have HHK := hidden hHk
          generalize hpe : Hk[k] = x at *
          clear hpe
          cases x with
          | none =>
            simp only [ptr] at pc
            have S2 := hidden (FX.out.skip (by rw [HHK.out]; rfl))
            clear hX hM hap hF hin hK hcel hHk hkk hFx
            go_wp2_with fail
            go_roundw
            case rel => exact ⟨k + 1, H2, hlt, by go_num, S2.out, CW2.out⟩
            case measure => simp [intOf]; omega
          | some x =>
            obtain ⟨p, d⟩ := x
            simp only [ptr] at pc
            have hC := hX.each k p d hkk
            have HC := hidden hC
            obtain ⟨G, vv, vn, lp, tp, hCX⟩ := hC
            have d0 := blk_cell hCX.blk 0
            simp only [List.getElem?_toArray, List.getElem?_cons_zero] at d0
            have hpz := blk_lt hCX.blk
            clear hCX
            by_cases h9 : d.kind = 9
            · have TG := hidden (cell_Target wq p (Fam2 (k + 3)) d HC.out)
              rw [if_pos h9] at TG
              rw [h9] at d0
              have skip := hidden (fun (e : d.fix ms = d) => FX.out.skip (by rw [HHK.out]; show _ = some (some (p, d.fix ms)); rw [e]))
              have CWK := hidden (fun (w2 : World) (hk : Keeps (fun _ => False) wq w2) => show CW w w2 F hb H2 ⟨s.fr ++ fr, s.live, s.limit, s.freed, s.runs + 1⟩ (.slice (some ⟨gc, 0, none⟩) H.length cc) Am H.length cm ms from ⟨⟨F2, Fam2, vf2, HX.out.keeps hk (Apart.no _), HF.out, Fm2, HM.out.keeps hk (Apart.no _), HAP.out, HINM.out.keeps hk⟩, HK.out.trans hk (fun _ _ h => h.elim)⟩)
              have H9 := hidden h9
              have hmk : ∀ i, i < H.length → ms[i]? = some (ms[i]?.getD false) := fun i hi => by rw [List.getElem?_eq_getElem (by rw [HML.out]; exact hi)]; rfl
              have HMK := hidden hmk
              clear hX hM hap hF hin hK hcel hHk hkk hFx h9 hmk
              cases hnn : d.nums with
              | nil =>
                have e : d.fix ms = d := by unfold Cl.fix; rw [hnn]
                have S2 := hidden (skip.out e)
                rw [hnn] at TG
                clear e skip
                have TG2 := hidden (show Calls Try.prog 70 #[.pointer (some ⟨p, 0, none⟩)] wq fun e w' => e = .returned (.int .i64 (-1)) ∧ Keeps (fun _ => False) wq w' from TG.out)
                clear TG
                go_wp2_with fail
                refine TG2.out.mono ?_
                rintro e w2 ⟨rfl, hK2⟩
                have HK2 := hidden hK2
                clear hK2
                go_wp2_with fail
                go_roundw
                case rel => exact ⟨k + 1, H2, hlt, by go_num, S2.out, CWK.out _ HK2.out⟩
                case measure => simp [intOf]; omega
              | cons t l =>
                have hfix : d.fix ms = if 0 ≤ t ∧ ms[t.toNat]? ≠ some true then { d with nums := (-1) :: l } else d := by
                  unfold Cl.fix
                  rw [hnn]
                  by_cases hc : 0 ≤ t ∧ ms[t.toNat]? ≠ some true
                  · rw [if_pos hc]; exact if_pos ⟨H9.out, hc⟩
                  · rw [if_neg hc]; exact if_neg (fun h => hc h.2)
                have HFIX := hidden hfix
                have HNN := hidden hnn
                rw [hnn] at TG
                have TG2 := hidden (show Calls Try.prog 70 #[.pointer (some ⟨p, 0, none⟩)] wq fun e w' => e = .returned (.int .i64 t) ∧ Keeps (fun _ => False) wq w' from TG.out)
                clear TG hfix hnn
                go_wp2_with fail
                refine TG2.out.mono ?_
                rintro e w2 ⟨rfl, hK2⟩
                have HK2 := hidden hK2
                have PUT := hidden (show ms[t.toNat]? ≠ some true → 0 ≤ t → ∃ gn cn, w2.cell? ⟨p, 4, none⟩ = some (.slice (some ⟨gn, 0, none⟩) (l.length + 1) cn) ∧ l.length + 1 ≤ cn ∧ p < w2.heap.size ∧ gn < w2.heap.size ∧ w2.frozen? ⟨gn, 0, none⟩ = false ∧ (∃ v, w2.cell? ⟨gn, 0, none⟩ = some v) ∧ CW w (w2.setCell ⟨gn, 0, none⟩ (.int .i64 (-1))) F hb (H2.set k (some (p, d.fix ms))) ⟨s.fr ++ fr, s.live, s.limit, s.freed, s.runs + 1⟩ (.slice (some ⟨gc, 0, none⟩) H.length cc) Am H.length cm ms from by
                  intro hms ht
                  obtain ⟨G, vv, vn, lp, tp, hCX⟩ := HC.out.keeps HK2.out (Apart.no _)
                  obtain ⟨An, cn, rfl⟩ := hCX.nums.form
                  obtain ⟨gn, rfl, hgn, gnz, nc, nf⟩ := row1_cell hCX.nums (i := 0) (v := .int .i64 t) (by rw [HNN.out]; rfl)
                  have hcap2 := hCX.nums.cap
                  have d4 := blk_cell hCX.blk 4
                  simp only [List.getElem?_toArray, List.getElem?_cons_zero, List.getElem?_cons_succ] at d4
                  have hdl : d.nums.length = l.length + 1 := by rw [HNN.out]; rfl
                  obtain ⟨q1, q2⟩ := hCX.setNum HNN.out (-1)
                  have hX2 := HX.out.keeps HK2.out (Apart.no _)
                  obtain ⟨r1, r2, r3⟩ := hX2.setCell HKK.out q2 q1 (Fresh.refl _ _)
                  rw [hdl] at d4 hcap2
                  have hef : d.fix ms = { d with nums := (-1) :: l } := by rw [HFIX.out, if_pos ⟨ht, hms⟩]
                  rw [hef]
                  have hin2 : In F2 w2 := hX2.inw
                  refine ⟨gn, cn, d4, hcap2, blk_lt hCX.blk, gnz, nf, ⟨_, nc⟩, ⟨_, _, _, r1, fun j h => HF.out j (h.elim id (hX2.sub _ j)), Fm2, (HM.out.keeps HK2.out (Apart.no _)).keeps r2 (fun j h1 h2 => HAP.out j h2 h1), fun j h1 h2 => HAP.out j (h1.elim id (hX2.sub _ j)) h2, (HINM.out.keeps HK2.out).keeps r2⟩, (HK.out.trans HK2.out (fun _ _ h => h.elim)).fresh HF.out r2⟩)
                have S3 := hidden (show Fixed Hk ms (k + 1) (H2.set k (some (p, d.fix ms))) from FX.out.set HHK.out)
                have HMM := hidden (HM.out.keeps hK2 (Apart.no _))
                clear hK2 TG2
                by_cases h0 : 0 ≤ t
                · obtain ⟨i, rfl⟩ : ∃ i : Nat, t = i := ⟨t.toNat, by omega⟩
                  rw [Int.toNat_natCast] at PUT HFIX
                  by_cases hi : i < H.length
                  · obtain ⟨gm, rfl, hgm, gmz, mc, -⟩ := row1_cell HMM.out (i := i) (v := .bool (ms[i]?.getD false)) (by rw [boolCells, List.getElem?_map, HMK.out i hi]; rfl)
                    have hii : (i : Int) < (H.length : Int) := by omega
                    have hij : ¬ (H.length : Int) ≤ (i : Int) := by omega
                    have HMI := hidden (HMK.out i hi)
                    cases hbb : ms[i]?.getD false with
                    | true =>
                      rw [hbb] at mc HMI
                      have e : d.fix ms = d := by rw [HFIX.out]; exact if_neg (fun h => h.2 HMI.out)
                      have S2 := hidden (skip.out e)
                      clear e skip hbb PUT
                      go_wp2_with fail
                      go_roundw
                      case rel => exact ⟨k + 1, H2, hlt, by go_num, S2.out, CWK.out _ HK2.out⟩
                      case measure => simp [intOf]; omega
                    | false =>
                      rw [hbb] at mc HMI
                      obtain ⟨gn, cn, p1, p2, p3, p4, p5, ⟨v, p6⟩, p7⟩ := PUT.out (by rw [HMI.out]; decide) (by omega)
                      have P7 := hidden p7
                      clear p7 skip hbb PUT
                      go_wp2_with fail
                      go_roundw
                      case rel => exact ⟨k + 1, _, hlt, by go_num, S3.out, P7.out⟩
                      case measure => simp [intOf]; omega
                  · have hij : (H.length : Int) ≤ (i : Int) := by omega
                    obtain ⟨gn, cn, p1, p2, p3, p4, p5, ⟨v, p6⟩, p7⟩ := PUT.out (by rw [List.getElem?_eq_none (by rw [HML.out]; omega)]; simp) (by omega)
                    have P7 := hidden p7
                    clear p7 skip PUT
                    go_wp2_with fail
                    go_roundw
                    case rel => exact ⟨k + 1, _, hlt, by go_num, S3.out, P7.out⟩
                    case measure => simp [intOf]; omega
                · have e : d.fix ms = d := by rw [HFIX.out]; exact if_neg (fun h => h0 h.1)
                  have S2 := hidden (skip.out e)
                  clear e skip PUT
                  go_wp2_with fail
                  go_roundw
                  case rel => exact ⟨k + 1, H2, hlt, by go_num, S2.out, CWK.out _ HK2.out⟩
                  case measure => simp [intOf]; omega
            · have hfx : d.fix ms = d := by
                unfold Cl.fix
                split
                · rfl
                · rw [if_neg (fun h => h9 h.1)]
              have S2 := hidden (FX.out.skip (by rw [HHK.out]; show _ = some (some (p, d.fix ms)); rw [hfx]))
              have j9 : (d.kind != 9) = true := by simpa using h9
              clear hX hM hap hF hin hK hcel hHk hkk hFx hfx h9
              go_wp2_with fail
              go_roundw
              case rel => exact ⟨k + 1, H2, hlt, by go_num, S2.out, CW2.out⟩
              case measure => simp [intOf]; omega
        · obtain rfl : k = H.length := by omega
          obtain ⟨⟨F2, Fam2, vf2, hX, hF, Fm2, hM, hap, hin⟩, hK⟩ := hCW
          have b2 := blk_cell hX.blk 2
          have b4 := blk_cell hX.blk 4
          have b2f := blk_frozen hX.blk 2
          have b4f := blk_frozen hX.blk 4
          simp only [List.getElem?_toArray, List.getElem?_cons_zero, List.getElem?_cons_succ] at b2 b4
          have hbz1 := blk_lt hX.blk
          have hfr1 := hL.out.1
          have hw3 : IntKind.i64.wrap (s.live - (fr.length : Int)) = s.live - fr.length := by rw [IntKind.wrap_i64]; omega
          have hw4 : IntKind.i64.wrap (s.freed + (fr.length : Int)) = s.freed + fr.length := by rw [IntKind.wrap_i64]; omega
          have HX := hidden hX
          have HF := hidden hF
          have HK := hidden hK
          clear hX hM hap hF hin hK hFx
          go_wp2_with fail
          have KS : Keeps (fun k => k = hb) wq ((wq.setCell ⟨hb, 2, none⟩ (.int .i64 (s.live - fr.length))).setCell ⟨hb, 4, none⟩ (.int .i64 (s.freed + fr.length))) := ((Keeps.refl (fun k => k = hb) wq).setCell (p := ⟨hb, 2, none⟩) (fun _ => rfl) _).setCell (p := ⟨hb, 4, none⟩) (fun _ => rfl) _
          have T := HX.out.turn (s' := ⟨s.fr ++ fr, s.live - fr.length, s.limit, s.freed + fr.length, s.runs + 1⟩) (Fam2 := Fam2 2) (H' := H2) (blk_set (blk_set HX.out.blk 2 _) 4 _) (KS.mono (fun k _ h => .inl h)) ((HX.out.cells.set (p := ⟨hb, 2, none⟩) HX.out.ne.1 _).set (p := ⟨hb, 4, none⟩) HX.out.ne.1 _) ((HX.out.free.set (p := ⟨hb, 2, none⟩) HX.out.ne.2 _).set (p := ⟨hb, 4, none⟩) HX.out.ne.2 _) (Fresh.refl _ _) (fun k h => by have := HX.out.inw k (HX.out.sub 2 k h); simpa [World.setCell] using this) (fun _ _ _ h => h)
          exact hR.out _ _ ⟨_, Hk, H2, fr, ms, rfl, HML.out, HMR.out, SW.out, FX.out, ⟨_, _, _, T⟩, HK.out.fresh HF.out (KS.mono (fun k _ h => by subst h; exact HX.out.sub 0 _ HX.out.here)), fun k h => HF.out k (h.elim id (HX.out.sub 2 k))⟩
end Go.Proofs.Ytpaefeknbpfpmaa
/- Layer 6: the heap: the kinds' names. -/
namespace Go.Proofs.Ytpaefeknbpfpmaa
open Go.RowKit
set_option maxRecDepth 100000

/-- The words behind which a blank stands, of a text's first bytes; where the next one begins. -/
def flds (s : ByteArray) : Nat → List ByteArray × Nat
  | 0 => ([], 0)
  | n + 1 => if s.data.toList[n]? = some 32 then ((flds s n).1 ++ [s.extract (flds s n).2 n], n + 1) else flds s n
theorem flds_le (s : ByteArray) : ∀ n, (flds s n).2 ≤ n ∧ (flds s n).1.length ≤ n
  | 0 => ⟨Nat.le_refl _, Nat.le_refl _⟩
  | n + 1 => by
    have := flds_le s n
    unfold flds
    split
    · simp; omega
    · omega
def fieldsOf (s : ByteArray) : List ByteArray := (flds s s.size).1 ++ [s.extract (flds s s.size).2 s.size]
theorem Keeps.iterAt {S : Nat → Prop} {a w : World} (h : Keeps S a w) {k : Nat} (hk : k < a.heap.size → S k) (s : ByteArray) (pos : Nat) : Keeps S a (w.iterAt k s pos) :=
  ⟨h.os, h.tape, h.output, by rw [Lib.iterAt_size]; exact h.size, fun i hi hn => (Lib.iterAt_other w k i s pos (fun e => hn (by subst e; exact hk hi))).trans (h.block i hi hn)⟩
set_option maxHeartbeats 1000000 in
theorem heap_fields (w : World) (s : ByteArray) (hs : s.size ≤ 1048576) (ha : ∀ (i : Nat) (h : i < s.size), (s[i]'h).toNat < 128) :
    Calls Try.prog 77 #[.string s] w fun e w' => ∃ A c F, e = .returned (.slice A (fieldsOf s).length c) ∧ Row w' F 9 1 (.slice A (fieldsOf s).length c) (fieldsOf s).length (strCellsOf (fieldsOf s)) ∧ Keeps (fun _ => False) w w' := by
  refine post_gen fun R hR => ?_
  have HA := hidden ha
  clear ha
  go_enter Try.func77, Try.ntmps77
  go_wp2_with fail
  go_loopw [3, 4] (fun o f wr => ∃ (pos m : Nat) (l : List ByteArray) (A : Option Addr) (c : Nat) (F' : Nat → Prop), pos ≤ s.size ∧ flds s pos = (l, m) ∧ m ≤ pos ∧ l.length ≤ pos ∧ o = .slice A l.length c ∧ f = .int .i64 m ∧ wr.heap[w.heap.size]? = some (.stringIter s pos) ∧ Row wr F' 9 1 (.slice A l.length c) l.length (strCellsOf l) ∧ (∀ k, F' k → w.heap.size + 1 ≤ k) ∧ Keeps (fun k => w.heap.size ≤ k) w wr) (fun _ _ wr => s.size - wr.iterPos w.heap.size)
  case atStart => exact ⟨0, 0, [], none, 0, fun _ => False, Nat.zero_le _, rfl, Nat.le_refl _, Nat.le_refl _, rfl, rfl, World.iter_heap w s 0, Row.nil _ _ _ _, fun _ h => h.elim, (Keeps.refl _ w).alloc _⟩
  case round =>
    obtain ⟨pos, m, l, A, c, F', hpos, hfl, hm, hll, rfl, rfl, hit, hRow, hF, hK⟩ := hrel
    have hBz : w.heap.size < wr.heap.size := (Array.getElem?_eq_some_iff.1 hit).1
    by_cases hp : pos < s.size
    · have hnx : ∀ ty, (Instr.next (.pointer (some ⟨w.heap.size, 0, none⟩)) true ty).run Try.prog wr = _ := fun ty => Lib.run_next_ascii_at wr w.heap.size s pos ty hit hp (HA.out pos hp)
      have hit2 := Lib.iterAt_heap wr w.heap.size s pos (pos + 1) hit
      have hsz2 : (wr.iterAt w.heap.size s (pos + 1)).heap.size = wr.heap.size := Lib.iterAt_size ..
      have hby : s.data.toList[pos]? = some s[pos] := by
        have : pos < s.data.toList.length := by simpa using hp
        rw [List.getElem?_eq_getElem this]; rfl
      have KI : Keeps (fun k => k = w.heap.size) wr (wr.iterAt w.heap.size s (pos + 1)) := (Keeps.refl (fun k => k = w.heap.size) wr).iterAt (fun _ => rfl) _ _
      have HK2 := hidden (hK.trans KI (fun k _ h => Nat.le_of_eq h.symm))
      have HR2 := hidden (hRow.keeps KI (fun k h1 h2 => by have := hF k h1; omega))
      have HF := hidden hF
      have HIT := hidden hit2
      have HITO := hidden hit
      have HFL := hidden hfl
      have HBY := hidden hby
      generalize s[pos] = b at *
      clear hit2 hRow hF hK KI hfl hby
      by_cases h32 : b = 32
      · subst h32
        have HN := hidden (show flds s (pos + 1) = (l ++ [s.extract m pos], pos + 1) by
          show (if s.data.toList[pos]? = some 32 then _ else _) = _
          rw [if_pos HBY.out, HFL.out])
        have i1 : (m : Int) ≤ (pos : Int) := by omega
        have i2 : (pos : Int) ≤ (s.size : Int) := by omega
        have hw1 : IntKind.i64.wrap ((pos : Int) + 1) = (pos : Int) + 1 := by rw [IntKind.wrap_i64]; omega
        clear hit
        go_wp2_with (at_builtin; refine app_list rfl F' _ _ _ _ _ _ 1 16 rfl Try.underlying128 info_string rfl (by decide) _ _ _ rfl (HR2.out.alloc _) _ rfl _ _ ((Strs.lit' _ [_] _ (by first | rfl | exact hsz2.symm | simp [World.iterAt])).src (c := 1) Try.underlying128) (by simp; omega) (by simp; omega) ?_; intro A2 c2 w2 hR2 hK2; have HRN := hidden hR2; have HKN := hidden hK2; clear hR2 hK2)
        have KN := hidden (HKN.out.mono (T := F') (fun k _ e => HR2.out.2 k e))
        have ITN := hidden (KN.out.heap (blk_alloc HIT.out _) (fun e => by have := HF.out _ e; omega))
        have KK := hidden ((HK2.out.alloc _).trans KN.out (fun k _ h => by have := HF.out k h; omega))
        have RN := hidden (HRN.out.mono (G := fun k => F' k ∨ wr.heap.size ≤ k) (fun k _ h => h.imp id (fun h => by simp [World.iterAt] at h; omega)))
        clear HRN HKN
        go_wp2_with fail
        go_roundw
        case rel =>
          refine ⟨pos + 1, pos + 1, l ++ [s.extract m pos], A2, c2, fun k => F' k ∨ wr.heap.size ≤ k, hp, HN.out, Nat.le_refl _, by simp; omega, by simp, by go_num, ITN.out, ?_, fun k h => ?_, KK.out⟩
          · have := RN.out
            simpa [strCellsOf] using this
          · rcases h with h | h
            · exact HF.out k h
            · omega
        case measure =>
          simp only [World.iterPos, ITN.out, HITO.out]
          omega
      · have HN := hidden (show flds s (pos + 1) = (l, m) by
          show (if s.data.toList[pos]? = some 32 then _ else _) = _
          rw [if_neg (by rw [HBY.out]; simpa using h32), HFL.out])
        have j32 : ((b.toNat : Int) == 32) = false := by
          simp only [beq_eq_false_iff_ne, ne_eq]
          intro e
          exact h32 (UInt8.toNat_inj.1 (by simp; omega))
        clear hit
        go_wp2_with fail
        go_roundw
        case rel => exact ⟨pos + 1, m, l, A, c, F', hp, HN.out, by omega, by omega, rfl, rfl, HIT.out, HR2.out, HF.out, HK2.out⟩
        case measure =>
          simp only [World.iterPos, HIT.out, HITO.out]
          omega
    · obtain rfl : pos = s.size := by omega
      have hnx : ∀ ty, (Instr.next (.pointer (some ⟨w.heap.size, 0, none⟩)) true ty).run Try.prog wr = _ := fun ty => Lib.run_next_end_at wr w.heap.size s s.size ty hit hp
      have HR2 := hidden hRow
      have HF := hidden hF
      have HK2 := hidden hK
      have HFL := hidden hfl
      have hsz2 : wr.heap.size = wr.heap.size := rfl
      clear hRow hF hK hfl
      have i1 : (m : Int) ≤ (s.size : Int) := by omega
      go_wp2_with (at_builtin; refine app_list rfl F' _ _ _ _ _ _ 1 16 rfl Try.underlying128 info_string rfl (by decide) _ _ _ rfl (HR2.out.alloc _) _ rfl _ _ ((Strs.lit' _ [_] _ (by first | rfl | exact hsz2.symm | simp [World.iterAt])).src (c := 1) Try.underlying128) (by simp; omega) (by simp; omega) ?_; intro A2 c2 w2 hR2 hK2; have HRN := hidden hR2; have HKN := hidden hK2; clear hR2 hK2)
      have KN := hidden (HKN.out.mono (T := F') (fun k _ e => HR2.out.2 k e))
      have KK := hidden ((HK2.out.alloc _).trans KN.out (fun k _ h => by have := HF.out k h; omega))
      have hfe : fieldsOf s = l ++ [s.extract m s.size] := by unfold fieldsOf; rw [HFL.out]
      rw [hfe] at hR
      have hlen : (l ++ [s.extract m s.size]).length = l.length + 1 := by simp
      rw [hlen] at hR
      refine hR.out _ _ ⟨A2, c2, fun _ => True, rfl, ?_, KK.out.mono (fun k h1 h2 => absurd h1 (Nat.not_lt_of_le h2))⟩
      have e : strCellsOf (l ++ [s.extract m s.size]) = strCellsOf l ++ strCellsOf [s.extract m s.size] := by simp [strCellsOf]
      rw [e]
      exact HRN.out.mono (fun _ _ _ => trivial)
/-- The kinds' names, one behind the other. -/
def kindText : ByteArray := ⟨([97, 114, 114, 97, 121, 32, 116, 97, 98, 108, 101, 32, 99, 108, 97, 115, 115, 32, 105, 110, 115, 116, 97, 110, 99, 101, 32, 102, 117, 110, 99, 116, 105, 111, 110, 32].append [102, 117, 110, 99, 116, 105, 111, 110, 32, 103, 101, 110, 101, 114, 97, 116, 111, 114, 32, 116, 104, 114, 101, 97, 100, 32, 119, 101, 97, 107, 114, 101, 102, 32, 98, 111, 120]).toArray⟩
def kindNames : List ByteArray := ["array".toUTF8, "table".toUTF8, "class".toUTF8, "instance".toUTF8, "function".toUTF8, "function".toUTF8, "generator".toUTF8, "thread".toUTF8, "weakref".toUTF8, "box".toUTF8]
theorem kindText_fields : fieldsOf kindText = kindNames := by decide +kernel
theorem kindText_ascii : ∀ (i : Nat) (h : i < kindText.size), (kindText[i]'h).toNat < 128 := by decide +kernel
def kindName (k : Int) : ByteArray := if 1 ≤ k ∧ k < 11 then kindNames.getD (k.toNat - 1) ⟨#[]⟩ else ⟨#[]⟩
theorem heap_Name (w : World) (k : Int) : Calls Try.prog 31 #[.int .i64 k] w fun e w' => e = .returned (.string (kindName k)) ∧ Keeps (fun _ => False) w w' := by
  have HF := hidden (heap_fields w kindText (by decide +kernel) kindText_ascii)
  rw [kindText_fields] at HF
  refine post_gen fun R hR => ?_
  go_enter Try.func31, Try.ntmps31
  go_wp2_with fail
  refine HF.out.mono ?_
  rintro e w1 ⟨A, c, F, rfl, hRow, hK⟩
  have HRow := hidden hRow
  have HK := hidden hK
  have hl : kindNames.length = 10 := rfl
  have hcap := hRow.cap
  rw [hl] at hcap
  clear hRow hK
  simp only [hl]
  by_cases h1 : k < 1
  · have e : kindName k = ⟨#[]⟩ := if_neg (by omega)
    rw [e] at hR
    go_wp2_with fail
    exact hR.out _ _ ⟨rfl, HK.out⟩
  · by_cases h2 : k < 11
    · obtain ⟨i, rfl⟩ : ∃ i : Nat, k = (i : Int) + 1 := ⟨(k - 1).toNat, by omega⟩
      have hi : i < 10 := by omega
      have hi2 : (i : Int) < 10 := by omega
      have hnle : ¬ (11 : Int) ≤ (i : Int) + 1 := by omega
      have hw1 : IntKind.i64.wrap ((i : Int) + 1 - 1) = (i : Int) := by rw [IntKind.wrap_i64]; omega
      have e : kindName ((i : Int) + 1) = kindNames[i]'(by rw [hl]; exact hi) := by
        unfold kindName
        rw [if_pos (by omega), show ((i : Int) + 1).toNat - 1 = i by omega, List.getD_eq_getElem?_getD, List.getElem?_eq_getElem (by rw [hl]; exact hi)]
        rfl
      obtain ⟨g, rfl, -, gz, hc, -⟩ := row1_cell HRow.out (i := i) (v := .string (kindNames[i]'(by rw [hl]; exact hi))) (by rw [strCellsOf, List.getElem?_map, List.getElem?_eq_getElem (by rw [hl]; exact hi)]; rfl)
      rw [e] at hR
      generalize (kindNames[i]'(by rw [hl]; exact hi)) = nm at *
      go_wp2_with fail
      exact hR.out _ _ ⟨rfl, HK.out⟩
    · have e : kindName k = ⟨#[]⟩ := if_neg (by omega)
      have h3 : (11 : Int) ≤ k := by omega
      rw [e] at hR
      go_wp2_with fail
      exact hR.out _ _ ⟨rfl, HK.out⟩
end Go.Proofs.Ytpaefeknbpfpmaa
/- Layer 6: the heap: behind a Collect: plain. -/
namespace Go.Proofs.Ytpaefeknbpfpmaa
open Go.RowKit
set_option maxRecDepth 100000

/-- What is so behind a Collect. -/
structure Coll (H : Hp) (s : HSt) (rs : List Int) (H2 : Hp) (s2 : HSt) (fr : List Int) (ms : List Bool) : Prop where
  ok : HOk H2 s2
  len : H2.length = H.length
  mlen : ms.length = H.length
  mark : ∀ i : Nat, ms[i]? = some true ↔ Reach H rs i
  at_ : ∀ i, atH H2 i = if ms[i]? = some true then (atH H i).map (fun x => (x.1, x.2.fix ms)) else none
  live : s2.live = s.live - fr.length
  limit : s2.limit = s.limit
  freed : s2.freed = s.freed + fr.length
  runs : s2.runs = s.runs + 1
  mem : ∀ n : Int, n ∈ fr ↔ ∃ j : Nat, n = j ∧ Hp.has H j ∧ ms[j]? ≠ some true
  nodup : fr.Nodup
theorem has_at {H : Hp} {i : Nat} : Hp.has H i ↔ (atH H i).isSome := by
  unfold Hp.has
  constructor
  · rintro ⟨x, hx⟩; rw [atH_some.2 hx]; rfl
  · intro h
    obtain ⟨x, hx⟩ := Option.isSome_iff_exists.1 h
    exact ⟨x, atH_some.1 hx⟩
theorem Coll.of {H : Hp} {s : HSt} {rs : List Int} {H1 H2 : Hp} {fr : List Int} {ms : List Bool} (ho : HOk H s) (hl : ms.length = H.length) (hm : ∀ i : Nat, ms[i]? = some true ↔ Reach H rs i) (hs : Swept H ms H.length H1 fr) (hf : Fixed H1 ms H.length H2) :
    Coll H s rs H2 ⟨s.fr ++ fr, s.live - fr.length, s.limit, s.freed + fr.length, s.runs + 1⟩ fr ms := by
  have h12 : H2 = H1.map (Option.map fun x => (x.1, x.2.fix ms)) := by
    refine List.ext_getElem? fun j => ?_
    rw [List.getElem?_map]
    rcases Nat.lt_or_ge j H.length with h | h
    · exact hf.did j h
    · rw [List.getElem?_eq_none (by rw [hf.len, hs.len]; exact h), List.getElem?_eq_none (by rw [hs.len]; exact h)]; rfl
  have hcnt : H2.countP (·.isSome) = H1.countP (·.isSome) := by
    rw [h12, List.countP_map]
    congr 1
    funext x
    cases x <;> rfl
  have hlen : H2.length = H.length := hf.len.trans hs.len
  have hmem : ∀ n : Int, n ∈ fr ↔ ∃ j : Nat, n = j ∧ Hp.has H j ∧ ms[j]? ≠ some true := fun n => by
    rw [hs.mem]
    constructor
    · rintro ⟨j, h1, -, h3, h4⟩; exact ⟨j, h1, h3, h4⟩
    · rintro ⟨j, h1, h3, h4⟩; exact ⟨j, h1, Hp.has_lt h3, h3, h4⟩
  have hat : ∀ i, atH H2 i = if ms[i]? = some true then (atH H i).map (fun x => (x.1, x.2.fix ms)) else none := fun i => by
    have e2 : atH H2 i = (atH H1 i).map (fun x => (x.1, x.2.fix ms)) := by
      unfold atH
      rw [h12, List.getElem?_map]
      cases H1[i]? with
      | none => rfl
      | some x => cases x <;> rfl
    rw [e2]
    split
    · rename_i h
      unfold atH
      rw [hs.stay i (.inr (.inl h))]
    · rename_i h
      by_cases hh : Hp.has H i
      · unfold atH
        rw [hs.gone i (Hp.has_lt hh) hh h]; rfl
      · have e := hs.stay i (.inr (.inr hh))
        have : atH H1 i = none := by
          unfold atH
          rw [e]
          cases hx : H[i]? with
          | none => rfl
          | some x =>
            cases x with
            | none => rfl
            | some y => exact absurd ⟨y, hx⟩ hh
        rw [this]; rfl
  have hc := hs.cnt
  have hlv := ho.live
  refine ⟨⟨ho.lim, ?_, ?_, ?_, ?_, fun i => ?_⟩, hlen, hl, hm, hat, rfl, rfl, rfl, rfl, hmem, hs.nodup⟩
  · show s.live - fr.length = _
    rw [hcnt]; omega
  · show s.live - fr.length ≤ s.limit
    have := ho.full; omega
  · show (H2.length : Int) ≤ s.limit
    rw [hlen]; exact ho.len
  · show (s.fr ++ fr).Nodup
    rw [List.nodup_append]
    refine ⟨ho.nodup, hs.nodup, fun a ha b hb e => ?_⟩
    subst e
    obtain ⟨n, rfl, hn⟩ := (ho.free a).1 ha
    obtain ⟨j, h1, ⟨x, hx⟩, -⟩ := (hmem _).1 hb
    obtain rfl : n = j := by omega
    rw [hn] at hx; cases hx
  · show i ∈ s.fr ++ fr ↔ _
    rw [List.mem_append, ho.free, hmem]
    have key : ∀ n : Nat, H2[n]? = some none ↔ H1[n]? = some none := fun n => by
      rw [h12, List.getElem?_map]
      cases H1[n]? with
      | none => simp
      | some x => cases x <;> simp
    constructor
    · rintro (⟨n, rfl, hn⟩ | ⟨j, rfl, h3, h4⟩)
      · exact ⟨n, rfl, (key n).2 (by rw [hs.stay n (.inr (.inr (fun ⟨x, hx⟩ => by rw [hn] at hx; cases hx)))]; exact hn)⟩
      · exact ⟨j, rfl, (key j).2 (hs.gone j (Hp.has_lt h3) h3 h4)⟩
    · rintro ⟨n, rfl, hn⟩
      have h1 := (key n).1 hn
      by_cases hh : Hp.has H n ∧ ms[n]? ≠ some true
      · exact .inr ⟨n, rfl, hh.1, hh.2⟩
      · refine .inl ⟨n, rfl, ?_⟩
        rw [← hs.stay n ?_]
        · exact h1
        · by_cases h2 : Hp.has H n
          · exact .inr (.inl (Classical.byContradiction fun h3 => hh ⟨h2, h3⟩))
          · exact .inr (.inr h2)
theorem heap_collect (w : World) (F : Nat → Prop) (hb : Nat) (H : List (Option (Nat × Cl))) (s : HSt) (A : Option Addr) (c : Nat) (rs : List Int) (h : IsHeap w F hb H s) (ho : HOk H s) (hr : Ints w A rs) (hl : rs.length ≤ 1099511627776) (hq : 0 ≤ s.runs ∧ s.runs < 1152921504606846976 ∧ 0 ≤ s.freed ∧ s.freed < 1152921504606846976) :
    Calls Try.prog 55 #[.pointer (some ⟨hb, 0, none⟩), .slice A rs.length c] w fun e w' => ∃ F' H2 s2 fr ms, e = .returned (.int .i64 (fr : List Int).length) ∧ Coll H s rs H2 s2 fr ms ∧ IsHeap w' F' hb H2 s2 ∧ Keeps F w w' ∧ Fresh F F' w := by
  have h1 := ho.lim
  have h2 := ho.live
  have h3 := ho.full
  have h4 := ho.len
  have h5 := ho.fr_len
  refine (heap_Collect w F hb H s A c rs h hr hl (by omega) ⟨hq.1, hq.2.1, hq.2.2.1, hq.2.2.2, by omega, by omega⟩ (by omega)).mono ?_
  rintro e w' ⟨F', H1, H2, fr, ms, rfl, g1, g2, g3, g4, g5, g6, g7⟩
  exact ⟨F', H2, _, fr, ms, rfl, Coll.of ho g1 g2 g3 g4, g5, g6, g7⟩
section
variable {w : World} {F : Nat → Prop} {hb : Nat} {H : List (Option (Nat × Cl))} {s : HSt}
theorem heap_Type_ref (h : IsHeap w F hb H s) {i p : Nat} {c : Cl} (hi : H[i]? = some (some (p, c))) (t : ByteArray) :
    Calls Try.prog 36 #[.pointer (some ⟨hb, 0, none⟩), V.val ⟨4, i, t⟩] w fun e w' => e = .returned (.string (kindName c.kind)) ∧ Keeps (fun _ => False) w w' := by
  have HO := hidden (fun (W : World) (hk : Keeps (fun _ => False) w W) => heap_Of_ok (h.calm hk) hi 0 t (.inl rfl))
  have HN := hidden (fun (W : World) => heap_Name W c.kind)
  have HI := hidden hi
  unfold V.val at HO ⊢
  obtain ⟨Fam, vc, vf, hX⟩ := h
  obtain ⟨G, vv, vn, lp, tp, hC⟩ := hX.each i p c hi
  have HC := hidden hC.blk
  clear hX hC hi
  refine post_gen fun R hR => ?_
  go_enter Try.func36, Try.ntmps36
  go_wp2_with fail
  refine (HO.out _ ((Keeps.refl _ w).alloc _)).mono ?_
  rintro e w1 ⟨rfl, hK⟩
  have HK := hidden (((Keeps.refl (fun _ => False) w).alloc _).trans hK (fun _ _ h => h))
  have c1 := HK.out.heap HC.out (fun h => h)
  have c0 := blk_cell c1 0
  simp only [List.getElem?_toArray, List.getElem?_cons_zero] at c0
  have cz := blk_lt c1
  clear hK c1
  go_wp2_with fail
  refine (HN.out _).mono ?_
  rintro e w2 ⟨rfl, hK⟩
  have HK2 := hidden (HK.out.trans hK (fun _ _ h => h))
  clear hK
  go_wp2_with fail
  exact hR.out _ _ ⟨rfl, HK2.out⟩
theorem heap_valType (t : ByteArray) (n : Int) (w : World) : Calls Try.prog 79 #[V.val ⟨3, n, t⟩] w fun e w' => e = .returned (.string ⟨#[115, 116, 114, 105, 110, 103]⟩) ∧ Keeps (fun _ => False) w w' := by
  refine post_gen fun R hR => ?_
  unfold V.val
  go_enter Try.func79, Try.ntmps79
  go_wp2_with fail
  exact hR.out _ _ ⟨rfl, (Keeps.refl _ _).alloc _⟩
theorem heap_Type_str (w : World) (hb : Nat) (t : ByteArray) (n : Int) :
    Calls Try.prog 36 #[.pointer (some ⟨hb, 0, none⟩), V.val ⟨3, n, t⟩] w fun e w' => e = .returned (.string ⟨#[115, 116, 114, 105, 110, 103]⟩) ∧ Keeps (fun _ => False) w w' := by
  have HO := hidden (fun (W : World) => heap_Of_type W hb ⟨3, n, t⟩ 0 (show (3 : Int) ≠ 4 by decide))
  have HN := hidden (fun (W : World) => heap_valType t n W)
  unfold V.val at HO HN ⊢
  refine post_gen fun R hR => ?_
  go_enter Try.func36, Try.ntmps36
  go_wp2_with fail
  refine (HO.out _).mono ?_
  rintro e w1 ⟨rfl, hK⟩
  have HK := hidden (((Keeps.refl (fun _ => False) w).alloc _).trans hK (fun _ _ h => h))
  have c1 := HK.out
  have b1 := hK.heap (blk_new w (.cells #[.int .i64 3, .int .i64 n, .string t] 30)) (fun h => h)
  have v0 := blk_cell b1 0
  have v1 := blk_cell b1 1
  have v2 := blk_cell b1 2
  simp only [List.getElem?_toArray, List.getElem?_cons_zero, List.getElem?_cons_succ] at v0 v1 v2
  have vz := blk_lt b1
  clear hK c1 b1
  go_wp2_with fail
  refine (HN.out _).mono ?_
  rintro e w2 ⟨rfl, hK⟩
  have HK2 := hidden (HK.out.trans hK (fun _ _ h => h))
  clear hK
  go_wp2_with fail
  exact hR.out _ _ ⟨rfl, HK2.out⟩
end
end Go.Proofs.Ytpaefeknbpfpmaa
/- Layer 6: the heap: Check, where all is right. -/
namespace Go.Proofs.Ytpaefeknbpfpmaa
open Go.RowKit
set_option maxRecDepth 100000

set_option maxHeartbeats 2000000 in
theorem heap_Check_ok (w : World) (F : Nat → Prop) (hb : Nat) (H : List (Option (Nat × Cl))) (s : HSt) (A : Option Addr) (c : Nat) (rs : List Int) (h : IsHeap w F hb H s) (hr : Ints w A rs) (hl : rs.length ≤ 1099511627776) (hH : H.length ≤ 1048576)
    (hroots : ∀ r ∈ rs, ∃ n : Nat, r = n ∧ Hp.has H n) (hcl : ∀ i, Reach H rs i → ∀ p c, H[i]? = some (some (p, c)) → ∀ r ∈ c.strong, ∃ n : Nat, r = n ∧ Hp.has H n) :
    Calls Try.prog 59 #[.pointer (some ⟨hb, 0, none⟩), .slice A rs.length c] w fun e w' => e = .returned (.int .i64 0) ∧ Keeps (fun _ => False) w w' := by
  have HH := hidden h
  have HRS := hidden hr
  have HRO := hidden hroots
  have HCL := hidden hcl
  have HRC := hidden (heap_Reached w F hb H s A c rs h hr hl hH)
  clear h hr hroots hcl
  refine post_gen fun R hR => ?_
  go_enter Try.func59, Try.ntmps59
  go_wp2_with fail
  go_loopw [17] (fun i wr => ∃ k : Nat, k ≤ rs.length ∧ i = .int .i64 k ∧ wr = w) (fun i _ => rs.length - (intOf i).toNat)
  case atStart => exact ⟨0, Nat.zero_le _, rfl, rfl⟩
  case round =>
    obtain ⟨k, hk, rfl, hwr⟩ := hrel
    rename World => wa
    subst hwr
    by_cases hlt : k < rs.length
    · obtain ⟨n, hn, ⟨x, hx⟩⟩ := HRO.out rs[k] (List.getElem_mem hlt)
      obtain ⟨rb, ro, rfl, hc⟩ := HRS.out k n (by rw [List.getElem?_eq_getElem hlt, hn])
      have hrz := World.block_lt_of_cell? wa _ hc
      obtain ⟨p, d⟩ := x
      have HG := hidden (heap_Get_ok HH.out hx)
      clear hx
      go_wp2_with fail
      refine HG.out.mono ?_
      rintro e _ ⟨rfl, rfl⟩
      go_wp2_with fail
      go_roundw
      case rel => exact ⟨k + 1, hlt, by go_num, by first | rfl | trivial⟩
      case measure => simp [intOf]; omega
    · obtain rfl : k = rs.length := by omega
      go_wp2_with fail
      refine HRC.out.mono ?_
      rintro e w1 ⟨Am, cm, Fm, ms, rfl, g1, g2, g3, g4, g5, g6⟩
      have HML := hidden g2
      have HMR := hidden g3
      have G1 := hidden g1
      have G5 := hidden g5
      clear g1 g2 g3 g4 g5 g6
      go_wp2_with fail
      go_loopw [35] (fun i wr => ∃ k : Nat, k ≤ H.length ∧ i = .int .i64 k ∧ Keeps (fun _ => False) w1 wr) (fun i _ => H.length - (intOf i).toNat)
      case atStart => exact ⟨0, Nat.zero_le _, rfl, Keeps.refl _ _⟩
      case round =>
        obtain ⟨k, hk, rfl, hK⟩ := hrel
        rename World => wb
        have HK := hidden hK
        have H2 := hidden ((HH.out.calm G5.out).calm hK)
        have M2 := hidden (G1.out.keeps hK (Apart.no _))
        clear hK
        by_cases hlt : k < H.length
        · have hml : k < ms.length := by rw [HML.out]; exact hlt
          have hmk : ms[k]? = some ms[k] := List.getElem?_eq_getElem hml
          obtain ⟨gm, rfl, hgm, gmz, mc, -⟩ := row1_cell M2.out (i := k) (v := .bool ms[k]) (by rw [boolCells, List.getElem?_map, hmk]; rfl)
          have hi1 : (k : Int) < (H.length : Int) := by omega
          have HMK := hidden hmk
          clear hmk
          generalize ms[k] = y at *
          cases y with
          | false =>
            go_wp2_with fail
            go_roundw
            case rel => exact ⟨k + 1, hlt, by go_num, HK.out⟩
            case measure => simp [intOf]; omega
          | true =>
            have hre := (HMR.out k).1 HMK.out
            obtain ⟨⟨p, d⟩, hx⟩ := hre.has
            have hst := hidden (HCL.out k hre p d hx)
            obtain ⟨Fam, vc, vf, hX⟩ := H2.out
            obtain ⟨Ac, cc, rfl⟩ := hX.cells.form
            have b0 := blk_cell hX.blk 0
            simp only [List.getElem?_toArray, List.getElem?_cons_zero] at b0
            have hbz := blk_lt hX.blk
            obtain ⟨gc, rfl, -, gcz, pc, -⟩ := row1_cell hX.cells (i := k) (v := .pointer (some ⟨p, 0, none⟩)) (by rw [List.getElem?_map, hx]; rfl)
            have STR := hidden (cell_Strong wb p (Fam (k + 3)) d (hX.each k p d hx))
            clear hX hx hre
            go_wp2_with fail
            refine STR.out.mono ?_
            rintro e w3 ⟨A3, c3, F3, rfl, h1, h2, h3, h4⟩
            have hmost := row_most h1
            have ROW3 := hidden h1
            have K3 := hidden (HK.out.trans h3 (fun _ _ h => h))
            have H3 := hidden (H2.out.calm h3)
            clear h1 h2 h3 h4 STR
            go_wp2_with fail
            go_loopw [51] (fun j w4 => ∃ k : Nat, k ≤ d.strong.length ∧ j = .int .i64 k ∧ w4 = w3) (fun j _ => d.strong.length - (intOf j).toNat)
            case atStart => exact ⟨0, Nat.zero_le _, rfl, rfl⟩
            case round =>
              obtain ⟨q, hq, rfl, hw4⟩ := hrel
              rename World => w4
              subst hw4
              by_cases hlt2 : q < d.strong.length
              · obtain ⟨n, hn, ⟨⟨p2, d2⟩, hx2⟩⟩ := hst.out d.strong[q] (List.getElem_mem hlt2)
                obtain ⟨gs, rfl, -, gsz, sc, -⟩ := row1_cell ROW3.out (i := q) (v := .int .i64 n) (by rw [intCells, List.getElem?_map, List.getElem?_eq_getElem hlt2, ← hn]; rfl)
                have HG := hidden (heap_Get_ok H3.out hx2)
                clear hx2
                go_wp2_with fail
                refine HG.out.mono ?_
                rintro e _ ⟨rfl, rfl⟩
                go_wp2_with fail
                go_roundw
                case rel => exact ⟨q + 1, hlt2, by go_num, by first | rfl | trivial⟩
                case measure => simp [intOf]; omega
              · obtain rfl : q = d.strong.length := by omega
                go_wp2_with fail
                go_roundw
                case rel => exact ⟨k + 1, hlt, by go_num, K3.out⟩
                case measure => simp [intOf]; omega
        · obtain rfl : k = H.length := by omega
          go_wp2_with fail
          exact hR.out _ _ ⟨rfl, G5.out.trans HK.out (fun _ _ h => h)⟩
end Go.Proofs.Ytpaefeknbpfpmaa
/- Layer 6: the heap: a cell's table or list turns where it lies. -/
namespace Go.Proofs.Ytpaefeknbpfpmaa
open Go.RowKit
set_option maxRecDepth 100000

section
variable {w : World} {F : Nat → Prop} {hb : Nat} {H : Hp} {s : HSt} {i p : Nat} {c : Cl}
/-- What turns of a cell's table is the heap's. -/
theorem held_tab (h : IsHeap w F hb H s) (hi : H[i]? = some (some (p, c))) {tb : Nat} {L : List Ent} {sr : Int} (hc : c.tab = some (tb, L, sr)) :
    ∃ Ft, IsT w Ft tb L sr ∧ (∀ k, Ft k → F k) ∧ ∀ (w1 : World) (F' : Nat → Prop) (L' : List Ent) (sr' : Int), Keeps Ft w w1 → IsT w1 F' tb L' sr' → Fresh Ft F' w → sr' < 1073741000 →
      ∃ F2, IsHeap w1 F2 hb (H.set i (some (p, { c with tab := some (tb, L', sr') }))) s ∧ Keeps F w w1 ∧ Fresh F F2 w := by
  obtain ⟨Fam, vc, vf, hX⟩ := h
  obtain ⟨G, vv, vn, lp, tp, hC⟩ := hX.each i p c hi
  have ht := hC.tab
  rw [hc] at ht
  obtain ⟨rfl, ht⟩ := ht
  refine ⟨G 2, ht, fun k hk => hX.sub _ k (hC.sub 2 k hk), fun w1 F' L' sr' hk h1 hf hs => ?_⟩
  obtain ⟨g1, g2, g3⟩ := hC.setTab hk h1 hf hs
  obtain ⟨r1, r2, r3⟩ := hX.setCell hi g2 g1 g3
  exact ⟨_, ⟨_, _, _, r1⟩, r2, r3⟩
/-- What turns of a cell's list is the heap's. -/
theorem held_list (h : IsHeap w F hb H s) (hi : H[i]? = some (some (p, c))) {xs : List V} (hc : c.list = some xs) :
    ∃ Fl b, w.cell? ⟨p, 2, none⟩ = some (.pointer (some ⟨b, 0, none⟩)) ∧ p < w.heap.size ∧ IsList w Fl b xs ∧ (∀ k, Fl k → F k) ∧ ∀ (w1 : World) (F' : Nat → Prop) (ys : List V), Keeps Fl w w1 → IsList w1 F' b ys → Fresh Fl F' w → ys.length ≤ 1048576 →
      ∃ F2, IsHeap w1 F2 hb (H.set i (some (p, { c with list := some ys }))) s ∧ Keeps F w w1 ∧ Fresh F F2 w := by
  obtain ⟨Fam, vc, vf, hX⟩ := h
  obtain ⟨G, vv, vn, lp, tp, hC⟩ := hX.each i p c hi
  have hl := hC.list
  rw [hc] at hl
  obtain ⟨b, rfl, hl⟩ := hl
  refine ⟨G 1, b, ?_, blk_lt hC.blk, hl, fun k hk => hX.sub _ k (hC.sub 1 k hk), fun w1 F' ys hk h1 hf hs => ?_⟩
  · have := blk_cell hC.blk 2
    simpa using this
  · obtain ⟨g1, g2, g3⟩ := hC.setList (xs := xs) hk h1 hf hs
    obtain ⟨r1, r2, r3⟩ := hX.setCell hi g2 g1 g3
    exact ⟨_, ⟨_, _, _, r1⟩, r2, r3⟩
theorem HOk.turn (h : HOk H s) (hi : H[i]? = some (some (p, c))) (x : Nat × Cl) : HOk (H.set i (some x)) s := by
  have hil := (List.getElem?_eq_some_iff.1 hi).1
  have hie := (List.getElem?_eq_some_iff.1 hi).2
  refine ⟨h.lim, ?_, h.full, by rw [List.length_set]; exact h.len, h.nodup, fun n => ?_⟩
  · rw [h.live, List.countP_set hil, hie]
    have : 0 < H.countP (·.isSome) := List.countP_pos_iff.2 ⟨_, List.getElem_mem hil, by rw [hie]; rfl⟩
    simp
    omega
  · rw [h.free]
    constructor
    · rintro ⟨m, rfl, hm⟩
      refine ⟨m, rfl, ?_⟩
      rw [List.getElem?_set_ne (fun e => by subst e; rw [hi] at hm; cases hm)]
      exact hm
    · rintro ⟨m, rfl, hm⟩
      refine ⟨m, rfl, ?_⟩
      by_cases e : i = m
      · subst e; rw [List.getElem?_set_self hil] at hm; cases hm
      · rw [List.getElem?_set_ne e] at hm; exact hm
theorem atH_set (H : Hp) (i j : Nat) (hi : i < H.length) (x : Nat × Cl) : atH (H.set i (some x)) j = if i = j then some x else atH H j := by
  unfold atH
  by_cases e : i = j
  · subst e; rw [if_pos rfl, List.getElem?_set_self hi]; rfl
  · rw [if_neg e, List.getElem?_set_ne e]
end
end Go.Proofs.Ytpaefeknbpfpmaa
