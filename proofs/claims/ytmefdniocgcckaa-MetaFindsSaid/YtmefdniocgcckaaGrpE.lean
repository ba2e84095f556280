/- Texts that belong together: HeapG HeapH HeapI HeapJ HeapK HeapL HeapM HeapN HeapO HeapP HeapQ HeapR HeapS. -/
import Derived.Test.YtmefdniocgcckaaGrpD
import Derived.Test.YtmefdniocgcckaaGrpB
import Derived.Lib.OthersKept
set_option linter.unusedSimpArgs false
set_option linter.unusedVariables false
/- Layer 6: the heap: a cell more, as a value: value, NewArray, NewTable, NewBox, Aim. -/
namespace Go.Proofs.Ytmefdniocgcckaa
open Go.RowKit
set_option maxRecDepth 100000

theorem heap_Ref (n : Int) (w : World) : Calls Try.prog 12 #[.int .i64 n] w fun e w' => e = .returned (V.val ⟨4, n, ⟨#[]⟩⟩) ∧ Keeps (fun _ => False) w w' := by
  refine post_gen fun R hR => ?_
  go_enter Try.func12, Try.ntmps12
  go_wp2
  exact bodyPost_ret (v := V.val ⟨4, n, ⟨#[]⟩⟩) (by simp [results, Try.results12, go_sem, V.val]) rfl (hR.out _ _ ⟨rfl, (Keeps.refl _ _).alloc _⟩)
theorem Given.none {w w1 : World} {F Fl Ft : Nat → Prop} {c : Cl} {Av An lp tp : Option Addr} (h : Given w F Fl Ft c Av An lp tp) (hk : Keeps (fun _ => False) w w1) : Given w1 F Fl Ft c Av An lp tp :=
  ⟨h.vals.keeps hk (fun _ _ _ _ h => h), h.nv, h.nums.keeps hk (fun _ _ _ _ h => h), h.nn, h.list.keeps hk (Apart.no _), h.tab.keeps hk (Apart.no _), h.fl, h.ft, h.lt, h.il.keeps hk, h.it.keeps hk, h.small⟩
/-- A cell more has come. -/
structure Made (w w' : World) (F F0 : Nat → Prop) (hb : Nat) (H : List (Option (Nat × Cl))) (s : HSt) (c : Cl) (i p : Nat) (F' : Nat → Prop) (H' : List (Option (Nat × Cl))) (s' : HSt) : Prop where
  heap : IsHeap w' F' hb H' s'
  ok : HOk H' s'
  new : NewAt H H' i (p, c)
  live : s'.live = s.live + 1
  limit : s'.limit = s.limit
  freed : s'.freed = s.freed
  runs : s'.runs = s.runs
  lt : i < 1048576
  keeps : Keeps F w w'
  fresh : Fresh (fun k => F k ∨ F0 k) F' w
section
variable {w w' w0 : World} {F F0 F1 : Nat → Prop} {hb : Nat} {H : List (Option (Nat × Cl))} {s : HSt} {c : Cl} {i p : Nat} {F' : Nat → Prop} {H' : List (Option (Nat × Cl))} {s' : HSt}
theorem Made.ahead (h : Made w w' F F0 hb H s c i p F' H' s') (hk : Keeps (fun _ => False) w0 w) (hf : ∀ k, F0 k → F1 k ∨ w0.heap.size ≤ k) : Made w0 w' F F1 hb H s c i p F' H' s' :=
  ⟨h.heap, h.ok, h.new, h.live, h.limit, h.freed, h.runs, h.lt, (hk.mono (T := F) (fun _ _ h => h.elim)).trans h.keeps (fun _ _ h => h), fun k hk' => by
    rcases h.fresh k hk' with (h | h) | h
    · exact .inl (.inl h)
    · exact (hf k h).imp .inr id
    · exact .inr (Nat.le_trans hk.size h)⟩
theorem Made.behind {S : Nat → Prop} {w1 : World} (h : Made w w' F F0 hb H s c i p F' H' s') (hk : Keeps S w' w1) (hS : ∀ k, S k → ¬ F' k ∧ w.heap.size ≤ k) : Made w w1 F F0 hb H s c i p F' H' s' :=
  ⟨h.heap.keeps hk (fun k h1 h2 => (hS k h2).1 h1), h.ok, h.new, h.live, h.limit, h.freed, h.runs, h.lt, h.keeps.trans hk (fun k hi h2 => by have := (hS k h2).2; omega), h.fresh⟩
theorem heap_Alloc_made (h : IsHeap w F hb H s) (ho : HOk H s) {Av An lp tp : Option Addr} {cv cn : Nat} {Fl Ft : Nat → Prop} (hg : Given w F Fl Ft c Av An lp tp) (hk : 1 ≤ c.kind ∧ c.kind < 11) (hf : s.live < s.limit) :
    Calls Try.prog 10 #[.pointer (some ⟨hb, 0, none⟩), .agg #[.int .i64 c.kind, .slice Av c.vals.length cv, .pointer lp, .pointer tp, .slice An c.nums.length cn, .string c.text]] w fun e w' => ∃ i p F' H' s', e = .returned (.tuple #[.int .i64 (i : Nat), .int .i64 0]) ∧ Made w w' F (fun k => Fl k ∨ Ft k) hb H s c i p F' H' s' := by
  refine (heap_Alloc w F hb H s c Av An lp tp cv cn Fl Ft h ho hg hk hf).mono ?_
  rintro e w' ⟨i, p, F', H', s', rfl, h1, h2, h3, h4, h5, h6, h7, h8, h9, h10⟩
  exact ⟨i, p, F', H', s', rfl, h1, h2, h3, h4, h5, h6, h7, h8, h9, h10⟩
end
theorem heap_value_ok (w : World) (F : Nat → Prop) (hb : Nat) (H : List (Option (Nat × Cl))) (s : HSt) (c : Cl) (Av An lp tp : Option Addr) (cv cn : Nat) (Fl Ft : Nat → Prop) (h : IsHeap w F hb H s) (ho : HOk H s) (hg : Given w F Fl Ft c Av An lp tp) (hk : 1 ≤ c.kind ∧ c.kind < 11) (hf : s.live < s.limit) :
    Calls Try.prog 31 #[.pointer (some ⟨hb, 0, none⟩), .agg #[.int .i64 c.kind, .slice Av c.vals.length cv, .pointer lp, .pointer tp, .slice An c.nums.length cn, .string c.text]] w fun e w' => ∃ i p F' H' s', e = .returned (.tuple #[V.val ⟨4, (i : Nat), ⟨#[]⟩⟩, .int .i64 0]) ∧ Made w w' F (fun k => Fl k ∨ Ft k) hb H s c i p F' H' s' := by
  have HA := hidden (fun (W : World) (hK : Keeps (fun _ => False) w W) => heap_Alloc_made (cv := cv) (cn := cn) (h.calm hK) ho (hg.none hK) hk hf)
  have HRF := hidden (fun (W : World) (n : Int) => heap_Ref n W)
  unfold V.val at HRF
  have hin := hidden (h.inw)
  have hil := hidden hg.il
  have hit := hidden hg.it
  clear h ho hg hk hf
  refine post_gen fun R hR => ?_
  go_enter Try.func31, Try.ntmps31
  go_wp2_with fail
  refine (HA.out _ (((Keeps.refl _ w).alloc _).alloc _)).mono ?_
  rintro e w1 ⟨i, p, F', H', s', rfl, hM⟩
  have HV := hidden (show IsVar w1 (w.heap.size + 1) V.null from hM.keeps.heap (new2t w _ _) (fun h => by have := hin.out _ h; omega))
  have HM := hidden (hM.ahead (w0 := w) (F1 := fun k => Fl k ∨ Ft k) (((Keeps.refl _ w).alloc _).alloc _) (fun k h => .inl h))
  have hnf := hidden (show ¬ F' (w.heap.size + 1) from fun h => by
    rcases hM.fresh _ h with (h | h | h) | h
    · have := hin.out _ h; omega
    · have := hil.out _ h; omega
    · have := hit.out _ h; omega
    · simp at h; try omega)
  clear hM HA
  go_wp2_with fail
  refine (HRF.out _ _).mono ?_
  rintro e w2 ⟨rfl, hK⟩
  have HV2 := hidden (HV.out.keeps hK (fun h => h))
  have HM2 := hidden (HM.out.behind hK (fun k h => h.elim))
  clear hK HV HM
  obtain ⟨v0, v1, v2, v3, v4, v5⟩ := HV2.out.cells
  have hvz := blk_lt HV2.out
  simp only [V.null] at v0 v1 v2
  go_wp2_with fail
  obtain ⟨d0, d1, d2, _⟩ := (HV2.out.set ⟨4, i, ⟨#[]⟩⟩).cells
  simp only at d0 d1 d2
  exact bodyPost_ret (v := .tuple #[V.val ⟨4, i, ⟨#[]⟩⟩, .int .i64 0]) (by simp [results, Try.results31, go_sem, d0, d1, d2, V.val]) rfl (hR.out _ _ ⟨i, p, F', H', s', rfl, HM2.out.behind ((Keeps.refl (fun k => k = w.heap.size + 1) w2).var (r := w.heap.size + 1) (fun _ => rfl) _ _ _) (fun k h => by rw [h]; exact ⟨hnf.out, by omega⟩)⟩)
theorem heap_value_full (w : World) (F : Nat → Prop) (hb : Nat) (H : List (Option (Nat × Cl))) (s : HSt) (c : Cl) (Av An lp tp : Option Addr) (cv cn : Nat) (h : IsHeap w F hb H s) (hk : 1 ≤ c.kind ∧ c.kind < 11) (hf : s.limit ≤ s.live) :
    Calls Try.prog 31 #[.pointer (some ⟨hb, 0, none⟩), .agg #[.int .i64 c.kind, .slice Av c.vals.length cv, .pointer lp, .pointer tp, .slice An c.nums.length cn, .string c.text]] w fun e w' => e = .returned (.tuple #[V.val V.null, .int .i64 40]) ∧ Keeps (fun _ => False) w w' := by
  have HA := hidden (fun (W : World) (hK : Keeps (fun _ => False) w W) => heap_Alloc_full W F hb H s c Av An lp tp cv cn (h.calm hK) hk hf)
  have HRF := hidden (fun (W : World) => value_Null W)
  unfold V.val V.null at HRF
  clear h hk hf
  refine post_gen fun R hR => ?_
  go_enter Try.func31, Try.ntmps31
  go_wp2_with fail
  refine (HA.out _ (((Keeps.refl _ w).alloc _).alloc _)).mono ?_
  rintro e w1 ⟨rfl, hM⟩
  have HV := hidden (show IsVar w1 (w.heap.size + 1) V.null from hM.heap (new2t w _ _) (fun h => h))
  have HM := hidden ((((Keeps.refl (fun _ => False) w).alloc _).alloc _).trans hM (fun _ _ h => h))
  clear hM HA
  go_wp2_with fail
  refine (HRF.out _).mono ?_
  rintro e w2 ⟨rfl, hK⟩
  have HV2 := hidden (HV.out.keeps hK (fun h => h))
  have HM2 := hidden (HM.out.trans hK (fun _ _ h => h))
  clear hK HV HM
  obtain ⟨v0, v1, v2, v3, v4, v5⟩ := HV2.out.cells
  have hvz := blk_lt HV2.out
  simp only [V.null] at v0 v1 v2
  go_wp2_with fail
  obtain ⟨d0, d1, d2, _⟩ := (HV2.out.set V.null).cells
  simp only [V.null] at d0 d1 d2
  exact bodyPost_ret (v := .tuple #[V.val V.null, .int .i64 40]) (by simp [results, Try.results31, go_sem, d0, d1, d2, V.val, V.null]) rfl (hR.out _ _ ⟨rfl, HM2.out.var (r := w.heap.size + 1) (fun h => by omega) _ _ _⟩)
end Go.Proofs.Ytmefdniocgcckaa
/- Layer 6: the heap: NewArray, NewTable, NewBox, Aim. -/
namespace Go.Proofs.Ytmefdniocgcckaa
open Go.RowKit
set_option maxRecDepth 100000

def noB : ByteArray := ⟨#[]⟩
def arrayCl (lb : Nat) (xs : List V) : Cl := ⟨1, [], some (lb, xs), none, [], ⟨#[]⟩⟩
def tableCl (b : Nat) (L : List Ent) (s : Int) : Cl := ⟨2, [V.null], none, some (b, L, s), [], ⟨#[]⟩⟩
def boxCl (v : V) : Cl := ⟨10, [v], none, none, [], ⟨#[]⟩⟩
def weakCl (n : Int) : Cl := ⟨9, [], none, none, [n], ⟨#[]⟩⟩
theorem Made.off {w w' : World} {F F0 F' : Nat → Prop} {hb i p r : Nat} {H H' : List (Option (Nat × Cl))} {s s' : HSt} {c : Cl} (h : Made w w' F F0 hb H s c i p F' H' s') (hF : ¬ F r) (h0 : ¬ F0 r) (hr : r < w.heap.size) : ¬ F' r := fun hx => by
  rcases h.fresh r hx with (x | x) | x
  · exact hF x
  · exact h0 x
  · omega
theorem heap_NewTable_ok (w : World) (F : Nat → Prop) (hb : Nat) (H : List (Option (Nat × Cl))) (s : HSt) (tb : Nat) (Ft : Nat → Prop) (L : List Ent) (sr : Int) (h : IsHeap w F hb H s) (ho : HOk H s) (hf : s.live < s.limit) (ht : IsT w Ft tb L sr) (hs : sr < 1073741000) (hap : Apart F Ft) :
    Calls Try.prog 13 #[.pointer (some ⟨hb, 0, none⟩), .pointer (some ⟨tb, 0, none⟩)] w fun e w' => ∃ i p F' H' s', e = .returned (.tuple #[V.val ⟨4, (i : Nat), ⟨#[]⟩⟩, .int .i64 0]) ∧ Made w w' F Ft hb H s (tableCl tb L sr) i p F' H' s' := by
  have HVL := hidden (fun (W : World) (a : Addr) (hK : Keeps (fun _ => False) w W) (hl : Vals W (some a) [V.null]) => heap_value_ok W F hb H s (tableCl tb L sr) (some a) none none (some ⟨tb, 0, none⟩) 1 0 (fun _ => False) Ft (h.calm hK) ho
    ⟨hl, fun e => (Option.some_ne_none _ e).elim, fun i x h => by simp [tableCl] at h, fun _ => rfl, rfl, ⟨rfl, ht.none hK⟩, Apart.no _, hap, (fun _ h => h.elim), fun _ h => h.elim, (ht.none hK).inw, ⟨by simp [tableCl], by simp [tableCl], fun b' ys e => by simp [tableCl] at e, fun b' L s e => by simp [tableCl] at e; obtain ⟨-, -, rfl⟩ := e; exact hs⟩⟩ (by simp [tableCl]) hf)
  have HNL := hidden (fun (W : World) => value_Null W)
  have hin := hidden (h.inw)
  have hit := hidden (ht.inw)
  clear h ho hf ht hs hap
  unfold V.val at HVL HNL
  unfold V.null at HNL
  refine post_gen fun R hR => ?_
  go_enter Try.func13, Try.ntmps13
  go_wp2_with fail
  refine (HNL.out _).mono ?_
  rintro e w1 ⟨rfl, hK⟩
  have HV := hidden (show IsVar w1 w.heap.size V.null from hK.heap (IsVar.new w V.null) (fun h => h))
  have hKw := hidden (((Keeps.refl (fun _ => False) w).alloc _).trans hK (fun _ _ h => h))
  have hsz := hidden (show w.heap.size < w1.heap.size from blk_lt HV.out)
  clear hK HNL
  go_wp2_with fail
  refine (HVL.out _ ⟨w1.heap.size, 0, none⟩ (hKw.out.alloc _) (Vals.lit _ [V.null] _ rfl)).mono ?_
  rintro e w2 ⟨i, p, F', H', s', rfl, hM⟩
  have HV2 := hidden (show IsVar w2 w.heap.size V.null from hM.keeps.heap (blk_alloc HV.out _) (fun h => by have := hin.out _ h; omega))
  have hnf := hidden (hM.off (r := w.heap.size) (fun h => by have := hin.out _ h; omega) (fun h => h.elim id (fun h => by have := hit.out _ h; omega)) (by have := hsz.out; simp; omega))
  have HM2 := hidden (hM.ahead (w0 := w) (F1 := Ft) (hKw.out.alloc _) (fun k h => .inl (h.elim (fun h => h.elim) id)))
  clear hM HVL
  obtain ⟨v0, v1, v2, v3, v4, v5⟩ := HV2.out.cells
  have hvz := blk_lt HV2.out
  simp only [V.null] at v0 v1 v2
  go_wp2_with fail
  obtain ⟨d0, d1, d2, _⟩ := (HV2.out.set ⟨4, i, ⟨#[]⟩⟩).cells
  simp only at d0 d1 d2
  exact bodyPost_ret (v := .tuple #[V.val ⟨4, i, ⟨#[]⟩⟩, .int .i64 0]) (by simp [results, Try.results13, go_sem, d0, d1, d2, V.val]) rfl (hR.out _ _ ⟨i, p, F', H', s', rfl, HM2.out.behind ((Keeps.refl (fun k => k = w.heap.size) w2).var (r := w.heap.size) (fun _ => rfl) _ _ _) (fun k h => by rw [h]; exact ⟨hnf.out, by omega⟩)⟩)
theorem heap_NewTable_full (w : World) (F : Nat → Prop) (hb : Nat) (H : List (Option (Nat × Cl))) (s : HSt) (tb : Nat) (h : IsHeap w F hb H s) (hf : s.limit ≤ s.live) :
    Calls Try.prog 13 #[.pointer (some ⟨hb, 0, none⟩), .pointer (some ⟨tb, 0, none⟩)] w fun e w' => e = .returned (.tuple #[V.val V.null, .int .i64 40]) ∧ Keeps (fun _ => False) w w' := by
  have HVL := hidden (fun (W : World) (a : Addr) (hK : Keeps (fun _ => False) w W) => heap_value_full W F hb H s (tableCl tb [] 0) (some a) none none (some ⟨tb, 0, none⟩) 1 0 (h.calm hK) (by simp [tableCl]) hf)
  have HNL := hidden (fun (W : World) => value_Null W)
  clear h hf
  unfold V.val V.null at HVL HNL
  refine post_gen fun R hR => ?_
  go_enter Try.func13, Try.ntmps13
  go_wp2_with fail
  refine (HNL.out _).mono ?_
  rintro e w1 ⟨rfl, hK⟩
  have HV := hidden (show IsVar w1 w.heap.size V.null from hK.heap (IsVar.new w V.null) (fun h => h))
  have hKw := hidden (((Keeps.refl (fun _ => False) w).alloc _).trans hK (fun _ _ h => h))
  clear hK HNL
  go_wp2_with fail
  refine (HVL.out _ ⟨w1.heap.size, 0, none⟩ (hKw.out.alloc _)).mono ?_
  rintro e w2 ⟨rfl, hK⟩
  have HV2 := hidden (show IsVar w2 w.heap.size V.null from hK.heap (blk_alloc HV.out _) (fun h => h))
  have HK2 := hidden ((hKw.out.alloc _).trans hK (fun _ _ h => h))
  clear hK HVL
  obtain ⟨v0, v1, v2, v3, v4, v5⟩ := HV2.out.cells
  have hvz := blk_lt HV2.out
  simp only [V.null] at v0 v1 v2
  go_wp2_with fail
  obtain ⟨d0, d1, d2, _⟩ := (HV2.out.set V.null).cells
  simp only [V.null] at d0 d1 d2
  refine bodyPost_ret (v := .tuple #[V.val V.null, .int .i64 40]) ?_ rfl (hR.out _ _ ⟨by simp only [V.val, V.null], HK2.out.var (r := w.heap.size) (fun h => by omega) _ _ _⟩)
  simp [results, Try.results13, go_sem, d0, d1, d2, V.val, V.null]
theorem ints_lit (w : World) (n : Int) (t : TypeId) {m : Nat} (hm : m = w.heap.size) : Ints (w.alloc (.cells #[.int .i64 n] t)) (some ⟨m, 0, none⟩) [n] := fun i x h => by
  subst hm
  cases i with
  | zero => simp at h; subst h; exact ⟨_, _, rfl, blk_cell (blk_new w _) 0⟩
  | succ i => simp at h
end Go.Proofs.Ytmefdniocgcckaa
/- Layer 6: the heap: what some cells reach: marks, work. -/
namespace Go.Proofs.Ytmefdniocgcckaa
open Go.RowKit
set_option maxRecDepth 100000

def boolCells (l : List Bool) : List Value := l.map Value.bool
/-- Marks, and the cells that are marked but not yet gone through. -/
structure Work where
  ms : List Bool
  ws : List Int
open Classical in
/-- A cell is marked, if there is one and it isn't yet. -/
noncomputable def Work.add (H : List (Option (Nat × Cl))) (s : Work) (n : Int) : Work :=
  if 0 ≤ n ∧ s.ms[n.toNat]? = some false ∧ ∃ x, H[n.toNat]? = some (some x) then ⟨s.ms.set n.toNat true, s.ws ++ [n]⟩ else s
theorem bool_set {w : World} {F : Nat → Prop} {g n c : Nat} {S : List Bool} (h : Row w F 4 1 (.slice (some ⟨g, 0, none⟩) n c) n (boolCells S)) (i : Nat) (b : Bool) : Row (w.setCell ⟨g, i, none⟩ (.bool b)) F 4 1 (.slice (some ⟨g, 0, none⟩) n c) n (boolCells (S.set i b)) := by
  have h1 := h.1.stored i (.bool b)
  refine ⟨?_, h.2⟩
  unfold boolCells
  rw [List.map_set]
  exact h1.1
end Go.Proofs.Ytmefdniocgcckaa
/- Layer 6: the heap: what some cells reach: plain. -/
namespace Go.Proofs.Ytmefdniocgcckaa
open Go.RowKit
set_option maxRecDepth 100000

abbrev Hp := List (Option (Nat × Cl))
def Hp.has (H : Hp) (i : Nat) : Prop := ∃ x, H[i]? = some (some x)
/-- What some cells reach, they too. -/
inductive Reach (H : Hp) (rs : List Int) : Nat → Prop
  | root {i : Nat} (hi : (i : Int) ∈ rs) (hx : Hp.has H i) : Reach H rs i
  | step {i j p : Nat} {c : Cl} (h : Reach H rs i) (hi : H[i]? = some (some (p, c))) (hj : (j : Int) ∈ c.strong) (hy : Hp.has H j) : Reach H rs j
theorem Reach.has {H : Hp} {rs : List Int} {i : Nat} (h : Reach H rs i) : Hp.has H i := by
  cases h with
  | root _ hx => exact hx
  | step _ _ _ hy => exact hy
structure Adds (H : Hp) (st st' : Work) (l : List Int) : Prop where
  len : st'.ms.length = st.ms.length
  stay : ∀ i : Nat, st.ms[i]? = some true → st'.ms[i]? = some true
  new : ∀ i : Nat, st'.ms[i]? = some true → st.ms[i]? = some true ∨ ((i : Int) ∈ l ∧ Hp.has H i ∧ (i : Int) ∈ st'.ws)
  all : ∀ i : Nat, (i : Int) ∈ l → Hp.has H i → i < st.ms.length → st'.ms[i]? = some true
  sub : ∀ n ∈ st.ws, n ∈ st'.ws
  ws : ∀ n ∈ st'.ws, n ∈ st.ws ∨ ∃ i : Nat, n = i ∧ st'.ms[i]? = some true
  sum : st'.ws.length + st'.ms.countP (! ·) = st.ws.length + st.ms.countP (! ·)
  le : st'.ms.countP (! ·) ≤ st.ms.countP (! ·)
theorem Adds.refl (H : Hp) (st : Work) : Adds H st st [] := ⟨rfl, fun _ h => h, fun _ h => .inl h, fun _ h => by simp at h, fun _ h => h, fun _ h => .inl h, rfl, Nat.le_refl _⟩
theorem Adds.trans {H : Hp} {a b c : Work} {l m : List Int} (h : Adds H a b l) (k : Adds H b c m) : Adds H a c (l ++ m) :=
  ⟨k.len.trans h.len, fun i hi => k.stay i (h.stay i hi), fun i hi => by
    rcases k.new i hi with h1 | ⟨h1, h2, h3⟩
    · rcases h.new i h1 with h4 | ⟨h4, h5, h6⟩
      · exact .inl h4
      · exact .inr ⟨List.mem_append_left _ h4, h5, k.sub _ h6⟩
    · exact .inr ⟨List.mem_append_right _ h1, h2, h3⟩, fun i hi hx hl => by
    rcases List.mem_append.1 hi with h1 | h1
    · exact k.stay i (h.all i h1 hx hl)
    · exact k.all i h1 hx (by rw [h.len]; exact hl), fun n hn => k.sub n (h.sub n hn), fun n hn => by
    rcases k.ws n hn with h1 | h1
    · rcases h.ws n h1 with h2 | ⟨i, h2, h3⟩
      · exact .inl h2
      · exact .inr ⟨i, h2, k.stay i h3⟩
    · exact .inr h1, k.sum.trans h.sum, Nat.le_trans k.le h.le⟩
theorem Work.add_ok (H : Hp) (st : Work) (n : Int) : Adds H st (st.add H n) [n] := by
  unfold Work.add
  split
  · rename_i hc
    obtain ⟨h0, h1, x, hx⟩ := hc
    obtain ⟨i, rfl⟩ : ∃ i : Nat, n = i := ⟨n.toNat, by omega⟩
    rw [Int.toNat_natCast] at *
    have hil := (List.getElem?_eq_some_iff.1 h1).1
    have hie := (List.getElem?_eq_some_iff.1 h1).2
    have hcn : (st.ms.set i true).countP (! ·) + 1 = st.ms.countP (! ·) := by
      have h2 := List.countP_set (p := (! ·)) (a := true) hil
      have h3 : 0 < st.ms.countP (! ·) := List.countP_pos_iff.2 ⟨false, by rw [← hie]; exact List.getElem_mem hil, rfl⟩
      rw [h2, hie]
      simp
      omega
    refine ⟨List.length_set .., fun j hj => ?_, fun j hj => ?_, fun j hj hy hl => ?_, fun m hm => List.mem_append_left _ hm, fun m hm => ?_, ?_, ?_⟩
    · by_cases e : i = j
      · subst e; rw [h1] at hj; cases hj
      · rw [List.getElem?_set_ne e]; exact hj
    · by_cases e : i = j
      · subst e; exact .inr ⟨List.mem_singleton.2 rfl, ⟨x, hx⟩, by simp⟩
      · rw [List.getElem?_set_ne e] at hj; exact .inl hj
    · have e : j = i := by have := List.mem_singleton.1 hj; omega
      subst e
      exact List.getElem?_set_self hil
    · rcases List.mem_append.1 hm with h | h
      · exact .inl h
      · exact .inr ⟨i, List.mem_singleton.1 h, List.getElem?_set_self hil⟩
    · simp only [List.length_append, List.length_singleton]
      omega
    · simp only
      omega
  · rename_i hc
    refine ⟨rfl, fun _ h => h, fun _ h => .inl h, fun i hi hx hl => ?_, fun _ h => h, fun _ h => .inl h, rfl, Nat.le_refl _⟩
    have e : n = i := (List.mem_singleton.1 hi).symm
    subst e
    rw [Int.toNat_natCast] at hc
    rw [List.getElem?_eq_getElem hl] at hc ⊢
    cases hb : st.ms[i] with
    | true => rfl
    | false => exact absurd ⟨by omega, by rw [hb], hx⟩ hc
noncomputable def Work.adds (H : Hp) (st : Work) (l : List Int) : Work := l.foldl (Work.add H) st
theorem Work.adds_snoc (H : Hp) (st : Work) (l : List Int) (n : Int) : st.adds H (l ++ [n]) = (st.adds H l).add H n := by simp [Work.adds]
theorem Work.adds_ok (H : Hp) : ∀ (l : List Int) (st : Work), Adds H st (st.adds H l) l
  | [], st => Adds.refl H st
  | n :: l, st => (Work.add_ok H st n).trans (Work.adds_ok H l (st.add H n))
/-- Through the work: what is so of marks and work. -/
structure RInv (H : Hp) (rs : List Int) (st : Work) : Prop where
  len : st.ms.length = H.length
  sound : ∀ i : Nat, st.ms[i]? = some true → Reach H rs i
  ws : ∀ n ∈ st.ws, ∃ i : Nat, n = i ∧ st.ms[i]? = some true
  closed : ∀ i : Nat, st.ms[i]? = some true → (i : Int) ∉ st.ws → ∀ p c, H[i]? = some (some (p, c)) → ∀ j : Nat, (j : Int) ∈ c.strong → Hp.has H j → st.ms[j]? = some true
  roots : ∀ i : Nat, (i : Int) ∈ rs → Hp.has H i → st.ms[i]? = some true
  sum : st.ws.length + st.ms.countP (! ·) ≤ H.length
def work0 (n : Nat) : Work := ⟨List.replicate n false, []⟩
theorem work0_none (n i : Nat) : (work0 n).ms[i]? ≠ some true := fun h => by
  obtain ⟨h1, h2⟩ := List.getElem?_eq_some_iff.1 h
  simp [work0] at h2
theorem Hp.has_lt {H : Hp} {i : Nat} (h : Hp.has H i) : i < H.length := by
  obtain ⟨x, hx⟩ := h
  exact (List.getElem?_eq_some_iff.1 hx).1
theorem RInv.start {H : Hp} {rs : List Int} {st : Work} (h : Adds H (work0 H.length) st rs) : RInv H rs st := by
  have hl : st.ms.length = H.length := by rw [h.len]; simp [work0]
  refine ⟨hl, fun i hi => ?_, fun n hn => ?_, fun i hi hni => ?_, fun i hi hx => h.all i hi hx (by simpa [work0] using Hp.has_lt hx), ?_⟩
  · rcases h.new i hi with h1 | ⟨h1, h2, -⟩
    · exact absurd h1 (work0_none _ _)
    · exact .root h1 h2
  · rcases h.ws n hn with h1 | h1
    · simp [work0] at h1
    · exact h1
  · rcases h.new i hi with h1 | ⟨-, -, h3⟩
    · exact absurd h1 (work0_none _ _)
    · exact absurd h3 hni
  · have := h.sum
    rw [this]
    simp [work0]
    exact Nat.le_trans List.countP_le_length (by simp)
theorem RInv.step {H : Hp} {rs : List Int} {st st' : Work} {i p : Nat} {c : Cl} {ws0 : List Int} (h : RInv H rs st) (hw : st.ws = ws0 ++ [(i : Int)]) (hi : H[i]? = some (some (p, c))) (ha : Adds H ⟨st.ms, ws0⟩ st' c.strong) : RInv H rs st' := by
  have him : st.ms[i]? = some true := by
    obtain ⟨k, hk, hm⟩ := h.ws i (by rw [hw]; simp)
    obtain rfl : i = k := by omega
    exact hm
  have hlen : st'.ms.length = H.length := ha.len.trans h.len
  refine ⟨hlen, fun k hk => ?_, fun n hn => ?_, fun k hk hkn q d hd j hj hy => ?_, fun k hk hx => ha.stay k (h.roots k hk hx), ?_⟩
  · rcases ha.new k hk with h1 | ⟨h1, h2, -⟩
    · exact h.sound k h1
    · exact .step (h.sound i him) hi h1 h2
  · rcases ha.ws n hn with h1 | h1
    · obtain ⟨k, e, hm⟩ := h.ws n (by rw [hw]; exact List.mem_append_left _ h1)
      exact ⟨k, e, ha.stay k hm⟩
    · exact h1
  · rcases ha.new k hk with h1 | ⟨-, -, h3⟩
    · by_cases e : k = i
      · subst e
        rw [hi] at hd
        simp at hd
        obtain ⟨-, rfl⟩ := hd
        exact ha.all j hj hy (by show j < st.ms.length; rw [h.len]; exact Hp.has_lt hy)
      · refine ha.stay j (h.closed k h1 (fun hm => ?_) q d hd j hj hy)
        rw [hw] at hm
        rcases List.mem_append.1 hm with h4 | h4
        · exact hkn (ha.sub _ h4)
        · have := List.mem_singleton.1 h4; omega
    · exact absurd h3 hkn
  · have h1 := ha.sum
    have h2 := h.sum
    rw [hw] at h2
    simp at h1 h2 ⊢
    omega
theorem RInv.done {H : Hp} {rs : List Int} {st : Work} (h : RInv H rs st) (hw : st.ws = []) (i : Nat) : st.ms[i]? = some true ↔ Reach H rs i := by
  refine ⟨h.sound i, fun hr => ?_⟩
  induction hr with
  | root hi hx => exact h.roots _ hi hx
  | step _ hi hj hy ih => exact h.closed _ ih (by rw [hw]; simp) _ _ hi _ hj hy
/-- How much is still to do. -/
def Work.left (st : Work) : Nat := 2 * st.ms.countP (! ·) + st.ws.length
theorem Adds.left {H : Hp} {ms : List Bool} {ws0 : List Int} {st' : Work} {l : List Int} (ha : Adds H ⟨ms, ws0⟩ st' l) : st'.left ≤ 2 * ms.countP (! ·) + ws0.length := by
  have h1 := ha.sum
  have h2 := ha.le
  unfold Work.left
  simp only at h1 h2
  omega
end Go.Proofs.Ytmefdniocgcckaa
/- Layer 6: the heap: Reached. -/
namespace Go.Proofs.Ytmefdniocgcckaa
open Go.RowKit
set_option maxRecDepth 100000

theorem info_bool : (Try.prog.info? 4).map (fun i => (i.zero, i.size, i.bytes)) = some (some (.bool false), 1, 1) := by kernel_rfl
theorem made_false (n : Nat) : (madeCells (Value.bool false).cells (n * 1)).toList = boolCells (List.replicate n false) := by
  refine List.ext_getElem? fun i => ?_
  by_cases h : i < n <;> simp [madeCells, boolCells, Value.cells, h, Nat.mod_one]
theorem Ints.far {w wi : World} {A : Option Addr} {xs : List Int} (h : Ints w A xs) (hk : Keeps (fun k => w.heap.size ≤ k) w wi) : Ints wi A xs := h.keeps hk (fun h0 b o hA hS => by
  obtain ⟨b', o', e, hc⟩ := h 0 xs[0] (List.getElem?_eq_getElem h0)
  have := World.block_lt_of_cell? w _ hc
  rw [hA] at e
  simp at e
  obtain ⟨rfl, rfl⟩ := e
  simp at this
  omega)
theorem row_most {w : World} {F : Nat → Prop} {e size n c : Nat} {A : Option Addr} {xs : List Value} (h : Row w F e size (.slice A n c) n xs) : n ≤ 9223372036854775807 := by
  by_cases h0 : 0 < n
  · obtain ⟨g, cur, -, -, -, h1, h2, -⟩ := h.blk h0
    unfold maxLen at h2
    omega
  · omega
end Go.Proofs.Ytmefdniocgcckaa
/- Layer 6: the heap: what Collect does to the cells: plain; how the heap lies behind a step of it. -/
namespace Go.Proofs.Ytmefdniocgcckaa
open Go.RowKit
set_option maxRecDepth 100000

section
variable {w w1 : World} {F S : Nat → Prop} {hb : Nat} {H : List (Option (Nat × Cl))} {s : HSt} {Fam : Nat → Nat → Prop} {vc vf : Value}
/-- Cells may go; the free places' row is another one. -/
theorem HeapX.turn {s' : HSt} {Fam2 : Nat → Prop} {vc' vf' : Value} {H' : List (Option (Nat × Cl))} (h : HeapX w F hb H s Fam vc vf)
    (hblk : w1.heap[hb]? = some (.cells #[vc', vf', .int .i64 s'.live, .int .i64 s'.limit, .int .i64 s'.freed, .int .i64 s'.runs] 66 (0, 0)))
    (hk : Keeps (fun k => k = hb ∨ Fam 1 k ∨ Fam 2 k) w w1)
    (h1 : Row w1 (Fam 1) 69 1 vc' H'.length (H'.map ptr))
    (h2 : Row w1 Fam2 3 1 vf' s'.fr.length (intCells s'.fr)) (f2 : Fresh (Fam 2) Fam2 w) (i2 : In Fam2 w1)
    (hH : ∀ (j q : Nat) (d : Cl), H'[j]? = some (some (q, d)) → H[j]? = some (some (q, d))) :
    HeapX w1 (fun k => F k ∨ Fam2 k) hb H' s' (famSet Fam 2 Fam2) vc' vf' := by
  have hin : ∀ j, In (Fam j) w := fun j k hk => h.inw k (h.sub j k hk)
  refine ⟨hblk, ?_, fun j k hjk => ?_, famSet_ap h.ap f2 hin, ?_, ?_, fun j q d hj => ?_, fun k hk2 => ?_⟩
  · rw [famSet_ne _ _ (by omega)]; exact h.here
  · by_cases e : j = 2
    · subst e; rw [famSet_at] at hjk; exact .inr hjk
    · rw [famSet_ne _ _ e] at hjk; exact .inl (h.sub j k hjk)
  · rw [famSet_ne _ _ (by omega)]; exact h1
  · rw [famSet_at]; exact h2
  · rw [famSet_ne _ _ (by omega)]
    refine (h.each j q d (hH j q d hj)).keeps hk (fun k a b => ?_)
    rcases b with rfl | b | b
    · exact h.ap 0 (j + 3) (by omega) k h.here a
    · exact h.ap 1 (j + 3) (by omega) k b a
    · exact h.ap 2 (j + 3) (by omega) k b a
  · rcases hk2 with hk2 | hk2
    · exact Nat.lt_of_lt_of_le (h.inw k hk2) hk.size
    · exact i2 k hk2
theorem HeapX.mine (h : HeapX w F hb H s Fam vc vf) (k : Nat) (hk : k = hb ∨ Fam 1 k ∨ Fam 2 k) : F k := by
  rcases hk with rfl | hk | hk
  · exact h.sub 0 _ h.here
  · exact h.sub 1 k hk
  · exact h.sub 2 k hk
end
/-- What a cell's first number becomes. -/
theorem CellX.setNum {w : World} {p gn cn : Nat} {F : Nat → Prop} {c : Cl} {G : Nat → Nat → Prop} {vv : Value} {lp tp : Option Addr} {t : Int} {l : List Int} (h : CellX w p F c G vv (.slice (some ⟨gn, 0, none⟩) c.nums.length cn) lp tp) (hn : c.nums = t :: l) (u : Int) :
    IsCell (w.setCell ⟨gn, 0, none⟩ (.int .i64 u)) p F { c with nums := u :: l } ∧ Keeps F w (w.setCell ⟨gn, 0, none⟩ (.int .i64 u)) := by
  have hg : G 3 gn := h.nums.2 gn rfl
  have KS : Keeps (fun k => k = gn) w (w.setCell ⟨gn, 0, none⟩ (.int .i64 u)) := (Keeps.refl (fun k => k = gn) w).setCell (p := ⟨gn, 0, none⟩) (fun _ => rfl) _
  have hne : ∀ i, i ≠ 3 → Apart (G i) (fun k => k = gn) := fun i hi k h1 h2 => h.ap i 3 hi k h1 (h2 ▸ hg)
  have hlen : (u :: l).length = c.nums.length := by rw [hn]; rfl
  refine ⟨⟨G, vv, .slice (some ⟨gn, 0, none⟩) c.nums.length cn, lp, tp, KS.heap h.blk (fun e => h.off 3 (e ▸ hg)), h.here, h.sub, h.off, h.ap, h.vals.keeps KS (hne 0 (by decide)), h.list.keeps KS (hne 1 (by decide)), h.tab.keeps KS (hne 2 (by decide)), ?_, h.inw.keeps KS, ⟨h.small.vals, by show (u :: l).length ≤ _; rw [hlen]; exact h.small.nums, h.small.list, h.small.tab⟩⟩, KS.mono (fun k _ e => e ▸ h.sub 3 gn hg)⟩
  have h3 : Row (w.setCell ⟨gn, 0, none⟩ (.int .i64 u)) (G 3) 2 1 (.slice (some ⟨gn, 0, none⟩) c.nums.length cn) c.nums.length (intCells (c.nums.set 0 u)) := by
    have h3 := h.nums.1.stored 0 (.int .i64 u)
    rw [intCells_set] at h3
    exact ⟨h3.1, h.nums.2⟩
  show Row _ _ _ _ (.slice _ c.nums.length _) (u :: l).length (intCells (u :: l))
  rw [hlen]
  rw [hn] at h3 ⊢
  exact h3
/-- The first k cells that aren't marked are gone. -/
structure Swept (H : Hp) (ms : List Bool) (k : Nat) (Hk : Hp) (fr : List Int) : Prop where
  len : Hk.length = H.length
  gone : ∀ j, j < k → Hp.has H j → ms[j]? ≠ some true → Hk[j]? = some none
  stay : ∀ j, (k ≤ j ∨ ms[j]? = some true ∨ ¬ Hp.has H j) → Hk[j]? = H[j]?
  mem : ∀ n : Int, n ∈ fr ↔ ∃ j : Nat, n = j ∧ j < k ∧ Hp.has H j ∧ ms[j]? ≠ some true
  nodup : fr.Nodup
  cnt : Hk.countP (·.isSome) + fr.length = H.countP (·.isSome)
theorem Swept.start (H : Hp) (ms : List Bool) : Swept H ms 0 H [] := ⟨rfl, fun j h => by omega, fun _ _ => rfl, fun n => by simp, List.nodup_nil, rfl⟩
theorem Swept.skip {H : Hp} {ms : List Bool} {k : Nat} {Hk : Hp} {fr : List Int} (h : Swept H ms k Hk fr) (hs : ms[k]? = some true ∨ ¬ Hp.has H k) : Swept H ms (k + 1) Hk fr := by
  have key : ∀ j, Hp.has H j → ms[j]? ≠ some true → j < k + 1 → j < k := fun j h1 h2 h3 => by
    rcases Nat.lt_or_ge j k with h4 | h4
    · exact h4
    · obtain rfl : j = k := by omega
      rcases hs with h5 | h5
      · exact absurd h5 h2
      · exact absurd h1 h5
  refine ⟨h.len, fun j h1 h2 h3 => h.gone j (key j h2 h3 h1) h2 h3, fun j h1 => ?_, fun n => ?_, h.nodup, h.cnt⟩
  · rcases h1 with h1 | h1
    · exact h.stay j (.inl (by omega))
    · exact h.stay j (.inr h1)
  · rw [h.mem]
    constructor
    · rintro ⟨j, h1, h2, h3, h4⟩; exact ⟨j, h1, by omega, h3, h4⟩
    · rintro ⟨j, h1, h2, h3, h4⟩; exact ⟨j, h1, key j h3 h4 h2, h3, h4⟩
theorem Swept.free {H : Hp} {ms : List Bool} {k : Nat} {Hk : Hp} {fr : List Int} (h : Swept H ms k Hk fr) (hs : ms[k]? ≠ some true) (hh : Hp.has H k) : Swept H ms (k + 1) (Hk.set k none) (fr ++ [(k : Int)]) := by
  have hkl : k < Hk.length := by rw [h.len]; exact Hp.has_lt hh
  have hkk : Hk[k]? = H[k]? := h.stay k (.inl (Nat.le_refl _))
  refine ⟨by rw [List.length_set]; exact h.len, fun j h1 h2 h3 => ?_, fun j h1 => ?_, fun n => ?_, ?_, ?_⟩
  · by_cases e : k = j
    · subst e; exact List.getElem?_set_self hkl
    · rw [List.getElem?_set_ne e]; exact h.gone j (by omega) h2 h3
  · have e : k ≠ j := by
      rintro rfl
      rcases h1 with h1 | h1 | h1
      · omega
      · exact hs h1
      · exact h1 hh
    rw [List.getElem?_set_ne e]
    exact h.stay j (h1.imp (fun h => by omega) id)
  · rw [List.mem_append, h.mem, List.mem_singleton]
    constructor
    · rintro (⟨j, h1, h2, h3, h4⟩ | h1)
      · exact ⟨j, h1, by omega, h3, h4⟩
      · exact ⟨k, h1, by omega, hh, hs⟩
    · rintro ⟨j, h1, h2, h3, h4⟩
      by_cases e : j = k
      · subst e; exact .inr h1
      · exact .inl ⟨j, h1, by omega, h3, h4⟩
  · rw [List.nodup_append]
    refine ⟨h.nodup, by simp, fun a ha b hb e => ?_⟩
    have h1 := List.mem_singleton.1 hb
    obtain ⟨j, h2, h3, -⟩ := (h.mem a).1 ha
    omega
  · have h1 := List.countP_set (p := fun x : Option (Nat × Cl) => x.isSome) (a := none) hkl
    have h2 : Hk[k].isSome = true := by
      obtain ⟨x, hx⟩ := hh
      have := (List.getElem?_eq_some_iff.1 (hkk.trans hx)).2
      rw [this]; rfl
    have h3 : 0 < Hk.countP (·.isSome) := List.countP_pos_iff.2 ⟨_, List.getElem_mem hkl, h2⟩
    have h4 := h.cnt
    rw [h1, h2, List.length_append, List.length_singleton]
    simp
    omega
/-- A weak cell whose aim is gone. -/
noncomputable def Cl.fix (ms : List Bool) (c : Cl) : Cl :=
  match c.nums with
  | [] => c
  | t :: l => if c.kind = 9 ∧ 0 ≤ t ∧ ms[t.toNat]? ≠ some true then { c with nums := (-1) :: l } else c
/-- The weak ones among the first k cells are seen to. -/
structure Fixed (H : Hp) (ms : List Bool) (k : Nat) (Hk : Hp) : Prop where
  len : Hk.length = H.length
  did : ∀ j, j < k → Hk[j]? = (H[j]?).map (Option.map fun x => (x.1, x.2.fix ms))
  stay : ∀ j, k ≤ j → Hk[j]? = H[j]?
theorem Fixed.start (H : Hp) (ms : List Bool) : Fixed H ms 0 H := ⟨rfl, fun j h => by omega, fun _ _ => rfl⟩
theorem Fixed.skip {H : Hp} {ms : List Bool} {k : Nat} {Hk : Hp} (h : Fixed H ms k Hk) (hs : H[k]? = (H[k]?).map (Option.map fun x => (x.1, x.2.fix ms))) : Fixed H ms (k + 1) Hk := by
  refine ⟨h.len, fun j h1 => ?_, fun j h1 => h.stay j (by omega)⟩
  by_cases e : j = k
  · subst e; rw [h.stay j (Nat.le_refl _)]; exact hs
  · exact h.did j (by omega)
theorem Fixed.set {H : Hp} {ms : List Bool} {k p : Nat} {c : Cl} {Hk : Hp} (h : Fixed H ms k Hk) (hs : H[k]? = some (some (p, c))) : Fixed H ms (k + 1) (Hk.set k (some (p, c.fix ms))) := by
  have hkl : k < Hk.length := by rw [h.len]; exact (List.getElem?_eq_some_iff.1 hs).1
  refine ⟨by rw [List.length_set]; exact h.len, fun j h1 => ?_, fun j h1 => ?_⟩
  · by_cases e : k = j
    · subst e; rw [List.getElem?_set_self hkl, hs]; rfl
    · rw [List.getElem?_set_ne e]; exact h.did j (by omega)
  · rw [List.getElem?_set_ne (by omega)]; exact h.stay j (by omega)
end Go.Proofs.Ytmefdniocgcckaa
/- Layer 6: the heap: Collect. -/
namespace Go.Proofs.Ytmefdniocgcckaa
open Go.RowKit
set_option maxRecDepth 100000

/-- How the world lies within Collect: cells H', numbers s', marks. -/
structure CW (w wr : World) (F : Nat → Prop) (hb : Nat) (H' : Hp) (s' : HSt) (vc : Value) (Am : Option Addr) (n cm : Nat) (ms : List Bool) : Prop where
  lie : ∃ F' Fam vf, HeapX wr F' hb H' s' Fam vc vf ∧ Fresh F F' w ∧ ∃ Fm, Row wr Fm 4 1 (.slice Am n cm) n (boolCells ms) ∧ Apart F' Fm ∧ In Fm wr
  K : Keeps F w wr
end Go.Proofs.Ytmefdniocgcckaa
/- Layer 6: the heap: the kinds' names. -/
namespace Go.Proofs.Ytmefdniocgcckaa
open Go.RowKit
set_option maxRecDepth 100000

/-- The words behind which a blank stands, of a text's first bytes; where the next one begins. -/
def flds (s : ByteArray) : Nat → List ByteArray × Nat
  | 0 => ([], 0)
  | n + 1 => if s.data.toList[n]? = some 32 then ((flds s n).1 ++ [s.extract (flds s n).2 n], n + 1) else flds s n
theorem flds_le (s : ByteArray) : ∀ n, (flds s n).2 ≤ n ∧ (flds s n).1.length ≤ n
  | 0 => ⟨Nat.le_refl _, Nat.le_refl _⟩
  | n + 1 => by
    have := flds_le s n
    unfold flds
    split
    · simp; omega
    · omega
def fieldsOf (s : ByteArray) : List ByteArray := (flds s s.size).1 ++ [s.extract (flds s s.size).2 s.size]
theorem Keeps.iterAt {S : Nat → Prop} {a w : World} (h : Keeps S a w) {k : Nat} (hk : k < a.heap.size → S k) (s : ByteArray) (pos : Nat) : Keeps S a (w.iterAt k s pos) :=
  ⟨h.os, h.tape, h.output, by rw [Lib.iterAt_size]; exact h.size, fun i hi hn => (Lib.iterAt_other w k i s pos (fun e => hn (by subst e; exact hk hi))).trans (h.block i hi hn)⟩
/-- The kinds' names, one behind the other. -/
def kindText : ByteArray := ⟨([97, 114, 114, 97, 121, 32, 116, 97, 98, 108, 101, 32, 99, 108, 97, 115, 115, 32, 105, 110, 115, 116, 97, 110, 99, 101, 32, 102, 117, 110, 99, 116, 105, 111, 110, 32].append [102, 117, 110, 99, 116, 105, 111, 110, 32, 103, 101, 110, 101, 114, 97, 116, 111, 114, 32, 116, 104, 114, 101, 97, 100, 32, 119, 101, 97, 107, 114, 101, 102, 32, 98, 111, 120]).toArray⟩
def kindNames : List ByteArray := ["array".toUTF8, "table".toUTF8, "class".toUTF8, "instance".toUTF8, "function".toUTF8, "function".toUTF8, "generator".toUTF8, "thread".toUTF8, "weakref".toUTF8, "box".toUTF8]
theorem kindText_fields : fieldsOf kindText = kindNames := by decide +kernel
theorem kindText_ascii : ∀ (i : Nat) (h : i < kindText.size), (kindText[i]'h).toNat < 128 := by decide +kernel
def kindName (k : Int) : ByteArray := if 1 ≤ k ∧ k < 11 then kindNames.getD (k.toNat - 1) ⟨#[]⟩ else ⟨#[]⟩
end Go.Proofs.Ytmefdniocgcckaa
/- Layer 6: the heap: behind a Collect: plain. -/
namespace Go.Proofs.Ytmefdniocgcckaa
open Go.RowKit
set_option maxRecDepth 100000

/-- What is so behind a Collect. -/
structure Coll (H : Hp) (s : HSt) (rs : List Int) (H2 : Hp) (s2 : HSt) (fr : List Int) (ms : List Bool) : Prop where
  ok : HOk H2 s2
  len : H2.length = H.length
  mlen : ms.length = H.length
  mark : ∀ i : Nat, ms[i]? = some true ↔ Reach H rs i
  at_ : ∀ i, atH H2 i = if ms[i]? = some true then (atH H i).map (fun x => (x.1, x.2.fix ms)) else none
  live : s2.live = s.live - fr.length
  limit : s2.limit = s.limit
  freed : s2.freed = s.freed + fr.length
  runs : s2.runs = s.runs + 1
  mem : ∀ n : Int, n ∈ fr ↔ ∃ j : Nat, n = j ∧ Hp.has H j ∧ ms[j]? ≠ some true
  nodup : fr.Nodup
theorem has_at {H : Hp} {i : Nat} : Hp.has H i ↔ (atH H i).isSome := by
  unfold Hp.has
  constructor
  · rintro ⟨x, hx⟩; rw [atH_some.2 hx]; rfl
  · intro h
    obtain ⟨x, hx⟩ := Option.isSome_iff_exists.1 h
    exact ⟨x, atH_some.1 hx⟩
theorem Coll.of {H : Hp} {s : HSt} {rs : List Int} {H1 H2 : Hp} {fr : List Int} {ms : List Bool} (ho : HOk H s) (hl : ms.length = H.length) (hm : ∀ i : Nat, ms[i]? = some true ↔ Reach H rs i) (hs : Swept H ms H.length H1 fr) (hf : Fixed H1 ms H.length H2) :
    Coll H s rs H2 ⟨s.fr ++ fr, s.live - fr.length, s.limit, s.freed + fr.length, s.runs + 1⟩ fr ms := by
  have h12 : H2 = H1.map (Option.map fun x => (x.1, x.2.fix ms)) := by
    refine List.ext_getElem? fun j => ?_
    rw [List.getElem?_map]
    rcases Nat.lt_or_ge j H.length with h | h
    · exact hf.did j h
    · rw [List.getElem?_eq_none (by rw [hf.len, hs.len]; exact h), List.getElem?_eq_none (by rw [hs.len]; exact h)]; rfl
  have hcnt : H2.countP (·.isSome) = H1.countP (·.isSome) := by
    rw [h12, List.countP_map]
    congr 1
    funext x
    cases x <;> rfl
  have hlen : H2.length = H.length := hf.len.trans hs.len
  have hmem : ∀ n : Int, n ∈ fr ↔ ∃ j : Nat, n = j ∧ Hp.has H j ∧ ms[j]? ≠ some true := fun n => by
    rw [hs.mem]
    constructor
    · rintro ⟨j, h1, -, h3, h4⟩; exact ⟨j, h1, h3, h4⟩
    · rintro ⟨j, h1, h3, h4⟩; exact ⟨j, h1, Hp.has_lt h3, h3, h4⟩
  have hat : ∀ i, atH H2 i = if ms[i]? = some true then (atH H i).map (fun x => (x.1, x.2.fix ms)) else none := fun i => by
    have e2 : atH H2 i = (atH H1 i).map (fun x => (x.1, x.2.fix ms)) := by
      unfold atH
      rw [h12, List.getElem?_map]
      cases H1[i]? with
      | none => rfl
      | some x => cases x <;> rfl
    rw [e2]
    split
    · rename_i h
      unfold atH
      rw [hs.stay i (.inr (.inl h))]
    · rename_i h
      by_cases hh : Hp.has H i
      · unfold atH
        rw [hs.gone i (Hp.has_lt hh) hh h]; rfl
      · have e := hs.stay i (.inr (.inr hh))
        have : atH H1 i = none := by
          unfold atH
          rw [e]
          cases hx : H[i]? with
          | none => rfl
          | some x =>
            cases x with
            | none => rfl
            | some y => exact absurd ⟨y, hx⟩ hh
        rw [this]; rfl
  have hc := hs.cnt
  have hlv := ho.live
  refine ⟨⟨ho.lim, ?_, ?_, ?_, ?_, fun i => ?_⟩, hlen, hl, hm, hat, rfl, rfl, rfl, rfl, hmem, hs.nodup⟩
  · show s.live - fr.length = _
    rw [hcnt]; omega
  · show s.live - fr.length ≤ s.limit
    have := ho.full; omega
  · show (H2.length : Int) ≤ s.limit
    rw [hlen]; exact ho.len
  · show (s.fr ++ fr).Nodup
    rw [List.nodup_append]
    refine ⟨ho.nodup, hs.nodup, fun a ha b hb e => ?_⟩
    subst e
    obtain ⟨n, rfl, hn⟩ := (ho.free a).1 ha
    obtain ⟨j, h1, ⟨x, hx⟩, -⟩ := (hmem _).1 hb
    obtain rfl : n = j := by omega
    rw [hn] at hx; cases hx
  · show i ∈ s.fr ++ fr ↔ _
    rw [List.mem_append, ho.free, hmem]
    have key : ∀ n : Nat, H2[n]? = some none ↔ H1[n]? = some none := fun n => by
      rw [h12, List.getElem?_map]
      cases H1[n]? with
      | none => simp
      | some x => cases x <;> simp
    constructor
    · rintro (⟨n, rfl, hn⟩ | ⟨j, rfl, h3, h4⟩)
      · exact ⟨n, rfl, (key n).2 (by rw [hs.stay n (.inr (.inr (fun ⟨x, hx⟩ => by rw [hn] at hx; cases hx)))]; exact hn)⟩
      · exact ⟨j, rfl, (key j).2 (hs.gone j (Hp.has_lt h3) h3 h4)⟩
    · rintro ⟨n, rfl, hn⟩
      have h1 := (key n).1 hn
      by_cases hh : Hp.has H n ∧ ms[n]? ≠ some true
      · exact .inr ⟨n, rfl, hh.1, hh.2⟩
      · refine .inl ⟨n, rfl, ?_⟩
        rw [← hs.stay n ?_]
        · exact h1
        · by_cases h2 : Hp.has H n
          · exact .inr (.inl (Classical.byContradiction fun h3 => hh ⟨h2, h3⟩))
          · exact .inr (.inr h2)
section
variable {w : World} {F : Nat → Prop} {hb : Nat} {H : List (Option (Nat × Cl))} {s : HSt}
end
end Go.Proofs.Ytmefdniocgcckaa
/- Layer 6: the heap: Check, where all is right. -/
namespace Go.Proofs.Ytmefdniocgcckaa
open Go.RowKit
set_option maxRecDepth 100000

end Go.Proofs.Ytmefdniocgcckaa
/- Layer 6: the heap: a cell's table or list turns where it lies. -/
namespace Go.Proofs.Ytmefdniocgcckaa
open Go.RowKit
set_option maxRecDepth 100000

section
variable {w : World} {F : Nat → Prop} {hb : Nat} {H : Hp} {s : HSt} {i p : Nat} {c : Cl}
/-- What turns of a cell's table is the heap's. -/
theorem held_tab (h : IsHeap w F hb H s) (hi : H[i]? = some (some (p, c))) {tb : Nat} {L : List Ent} {sr : Int} (hc : c.tab = some (tb, L, sr)) :
    ∃ Ft, IsT w Ft tb L sr ∧ (∀ k, Ft k → F k) ∧ ∀ (w1 : World) (F' : Nat → Prop) (L' : List Ent) (sr' : Int), Keeps Ft w w1 → IsT w1 F' tb L' sr' → Fresh Ft F' w → sr' < 1073741000 →
      ∃ F2, IsHeap w1 F2 hb (H.set i (some (p, { c with tab := some (tb, L', sr') }))) s ∧ Keeps F w w1 ∧ Fresh F F2 w := by
  obtain ⟨Fam, vc, vf, hX⟩ := h
  obtain ⟨G, vv, vn, lp, tp, hC⟩ := hX.each i p c hi
  have ht := hC.tab
  rw [hc] at ht
  obtain ⟨rfl, ht⟩ := ht
  refine ⟨G 2, ht, fun k hk => hX.sub _ k (hC.sub 2 k hk), fun w1 F' L' sr' hk h1 hf hs => ?_⟩
  obtain ⟨g1, g2, g3⟩ := hC.setTab hk h1 hf hs
  obtain ⟨r1, r2, r3⟩ := hX.setCell hi g2 g1 g3
  exact ⟨_, ⟨_, _, _, r1⟩, r2, r3⟩
/-- What turns of a cell's list is the heap's. -/
theorem held_list (h : IsHeap w F hb H s) (hi : H[i]? = some (some (p, c))) {b : Nat} {xs : List V} (hc : c.list = some (b, xs)) :
    ∃ Fl, w.cell? ⟨p, 2, none⟩ = some (.pointer (some ⟨b, 0, none⟩)) ∧ p < w.heap.size ∧ IsList w Fl b xs ∧ (∀ k, Fl k → F k) ∧ ∀ (w1 : World) (F' : Nat → Prop) (ys : List V), Keeps Fl w w1 → IsList w1 F' b ys → Fresh Fl F' w → ys.length ≤ 1048576 →
      ∃ F2, IsHeap w1 F2 hb (H.set i (some (p, { c with list := some (b, ys) }))) s ∧ Keeps F w w1 ∧ Fresh F F2 w := by
  obtain ⟨Fam, vc, vf, hX⟩ := h
  obtain ⟨G, vv, vn, lp, tp, hC⟩ := hX.each i p c hi
  have hl := hC.list
  rw [hc] at hl
  obtain ⟨rfl, hl⟩ := hl
  refine ⟨G 1, ?_, blk_lt hC.blk, hl, fun k hk => hX.sub _ k (hC.sub 1 k hk), fun w1 F' ys hk h1 hf hs => ?_⟩
  · have := blk_cell hC.blk 2
    simpa using this
  · obtain ⟨g1, g2, g3⟩ := hC.setList (xs := xs) hk h1 hf hs
    obtain ⟨r1, r2, r3⟩ := hX.setCell hi g2 g1 g3
    exact ⟨_, ⟨_, _, _, r1⟩, r2, r3⟩
theorem HOk.turn (h : HOk H s) (hi : H[i]? = some (some (p, c))) (x : Nat × Cl) : HOk (H.set i (some x)) s := by
  have hil := (List.getElem?_eq_some_iff.1 hi).1
  have hie := (List.getElem?_eq_some_iff.1 hi).2
  refine ⟨h.lim, ?_, h.full, by rw [List.length_set]; exact h.len, h.nodup, fun n => ?_⟩
  · rw [h.live, List.countP_set hil, hie]
    have : 0 < H.countP (·.isSome) := List.countP_pos_iff.2 ⟨_, List.getElem_mem hil, by rw [hie]; rfl⟩
    simp
    omega
  · rw [h.free]
    constructor
    · rintro ⟨m, rfl, hm⟩
      refine ⟨m, rfl, ?_⟩
      rw [List.getElem?_set_ne (fun e => by subst e; rw [hi] at hm; cases hm)]
      exact hm
    · rintro ⟨m, rfl, hm⟩
      refine ⟨m, rfl, ?_⟩
      by_cases e : i = m
      · subst e; rw [List.getElem?_set_self hil] at hm; cases hm
      · rw [List.getElem?_set_ne e] at hm; exact hm
theorem atH_set (H : Hp) (i j : Nat) (hi : i < H.length) (x : Nat × Cl) : atH (H.set i (some x)) j = if i = j then some x else atH H j := by
  unfold atH
  by_cases e : i = j
  · subst e; rw [if_pos rfl, List.getElem?_set_self hi]; rfl
  · rw [if_neg e, List.getElem?_set_ne e]
end
end Go.Proofs.Ytmefdniocgcckaa
/- Layer 6: the heap: the values of a cell, read and turned where they lie. -/
namespace Go.Proofs.Ytmefdniocgcckaa
open Go.RowKit
set_option maxRecDepth 100000

def iV (n : Int) : V := ⟨2, n, ⟨#[]⟩⟩
def rV (n : Int) : V := ⟨4, n, ⟨#[]⟩⟩
section
variable {w : World} {F : Nat → Prop} {hb : Nat} {H : List (Option (Nat × Cl))} {s : HSt} {i p : Nat} {c : Cl}
/-- What a cell's values become, where they lie. -/
theorem CellX.setVals {w1 : World} {G : Nat → Nat → Prop} {vv vn : Value} {lp tp : Option Addr} {ys : List V} (h : CellX w p F c G vv vn lp tp) (hk : Keeps (G 0) w w1) (hl : ys.length = c.vals.length) (hr : Row w1 (G 0) 29 3 vv ys.length (flat ys)) :
    CellX w1 p F { c with vals := ys } G vv vn lp tp :=
  ⟨hk.heap h.blk (h.off 0), h.here, h.sub, h.off, h.ap, hr, h.list.keeps hk (h.ap 1 0 (by decide)), h.tab.keeps hk (h.ap 2 0 (by decide)), h.nums.keeps hk (h.ap 3 0 (by decide)), h.inw.keeps hk, ⟨by rw [show ({ c with vals := ys } : Cl).vals.length = ys.length from rfl, hl]; exact h.small.vals, h.small.nums, h.small.list, h.small.tab⟩⟩
theorem held_vals (h : IsHeap w F hb H s) (hi : H[i]? = some (some (p, c))) :
    ∃ (Fv : Nat → Prop) (A : Option Addr) (cap : Nat) (lp tp An : Option Addr) (cn : Nat), w.heap[p]? = some (.cells #[.int .i64 c.kind, .slice A c.vals.length cap, .pointer lp, .pointer tp, .slice An c.nums.length cn, .string c.text] 39 (0, 0)) ∧ F p ∧ ¬ Fv p ∧ (∀ k, Fv k → F k) ∧
      Row w Fv 29 3 (.slice A c.vals.length cap) c.vals.length (flat c.vals) ∧ Row w F 2 1 (.slice An c.nums.length cn) c.nums.length (intCells c.nums) ∧
      ∀ (w1 : World) (ys : List V), Keeps Fv w w1 → ys.length = c.vals.length → Row w1 Fv 29 3 (.slice A c.vals.length cap) c.vals.length (flat ys) →
        ∃ F2, IsHeap w1 F2 hb (H.set i (some (p, { c with vals := ys }))) s ∧ Keeps F w w1 ∧ Fresh F F2 w := by
  obtain ⟨Fam, vc, vf, hX⟩ := h
  obtain ⟨G, vv, vn, lp, tp, hC⟩ := hX.each i p c hi
  obtain ⟨A, cap, rfl⟩ := hC.vals.form
  obtain ⟨An, cn, rfl⟩ := hC.nums.form
  refine ⟨G 0, A, cap, lp, tp, An, cn, hC.blk, hX.sub _ p hC.here, hC.off 0, fun k hk => hX.sub _ k (hC.sub 0 k hk), hC.vals, hC.nums.mono (fun k _ hk => hX.sub _ k (hC.sub 3 k hk)), fun w1 ys hk hl hr => ?_⟩
  have g1 := hC.setVals hk hl (by rw [hl]; exact hr)
  obtain ⟨r1, r2, r3⟩ := hX.setCell hi (hk.mono (T := Fam (i + 3)) (fun k _ hg => hC.sub 0 k hg)) ⟨G, _, _, lp, tp, g1⟩ (Fresh.refl _ _)
  exact ⟨_, ⟨_, _, _, r1⟩, r2, r3⟩
end
/-- A heap within a statement. -/
structure Hd (w : World) (hb : Nat) (F : Nat → Prop) (H : Hp) (s : HSt) (wr : World) : Prop where
  heap : IsHeap wr F hb H s
  ok : HOk H s
  hF : ∀ k, F k → w.heap.size ≤ k
  K : Keeps (fun k => w.heap.size ≤ k) w wr
section
variable {w wr wj : World} {hb : Nat} {F F' F0 : Nat → Prop} {H H' : Hp} {s s' : HSt}
theorem Hd.calm (h : Hd w hb F H s wr) (hk : Keeps (fun _ => False) wr wj) : Hd w hb F H s wj := ⟨h.heap.calm hk, h.ok, h.hF, h.K.trans hk (fun _ _ h => h.elim)⟩
theorem Hd.other {S : Nat → Prop} (h : Hd w hb F H s wr) (hk : Keeps S wr wj) (hn : Apart F S) (hS : ∀ k, S k → w.heap.size ≤ k) : Hd w hb F H s wj := ⟨h.heap.keeps hk hn, h.ok, h.hF, h.K.trans hk (fun k _ h => hS k h)⟩
theorem Hd.made {i p : Nat} {c : Cl} (h : Hd w hb F H s wr) (hm : Made wr wj F F0 hb H s c i p F' H' s') (h0 : ∀ k, F0 k → w.heap.size ≤ k) : Hd w hb F' H' s' wj :=
  ⟨hm.heap, hm.ok, fun k hk => (hm.fresh k hk).elim (fun h1 => h1.elim (h.hF k) (h0 k)) (fun h1 => Nat.le_trans h.K.size h1), h.K.trans hm.keeps (fun k _ h1 => h.hF k h1)⟩
theorem Hd.coll {rs fr : List Int} {ms : List Bool} (h : Hd w hb F H s wr) (hc : Coll H s rs H' s' fr ms) (hh : IsHeap wj F' hb H' s') (hk : Keeps F wr wj) (hf : Fresh F F' wr) : Hd w hb F' H' s' wj :=
  ⟨hh, hc.ok, fun k hk => (hf k hk).elim (h.hF k) (fun h1 => Nat.le_trans h.K.size h1), h.K.trans hk (fun k _ h1 => h.hF k h1)⟩
end
/-- A variable that lies beside the heap. -/
structure Vr (F : Nat → Prop) (w : World) (v : Nat) (x : V) : Prop where
  var : IsVar w v x
  off : ¬ F v
theorem Vr.calm {F : Nat → Prop} {w w1 : World} {v : Nat} {x : V} (h : Vr F w v x) (hk : Keeps (fun _ => False) w w1) : Vr F w1 v x := ⟨h.var.keeps hk (fun h => h), h.off⟩
theorem Vr.step {F F' : Nat → Prop} {w w1 : World} {v : Nat} {x : V} (h : Vr F w v x) (hk : Keeps F w w1) (hf : Fresh F F' w) : Vr F' w1 v x :=
  ⟨h.var.keeps hk h.off, fun h1 => (hf v h1).elim h.off (fun h2 => Nat.lt_irrefl _ (Nat.lt_of_lt_of_le (blk_lt h.var) h2))⟩
theorem Vr.new {F : Nat → Prop} {w : World} (x : V) (hF : In F w) : Vr F (w.alloc (.cells #[.int .i64 x.k, .int .i64 x.n, .string x.t] 29)) w.heap.size x := ⟨IsVar.new w x, fun h => Nat.lt_irrefl _ (hF _ h)⟩
theorem Vr.cells {F : Nat → Prop} {w : World} {v : Nat} {x : V} (h : Vr F w v x) : w.cell? ⟨v, 0, none⟩ = some (.int .i64 x.k) ∧ w.cell? ⟨v, 1, none⟩ = some (.int .i64 x.n) ∧ w.cell? ⟨v, 2, none⟩ = some (.string x.t) ∧ v < w.heap.size :=
  ⟨h.var.cells.1, h.var.cells.2.1, h.var.cells.2.2.1, blk_lt h.var⟩
section
variable {H H' : Hp} {i j : Nat} {x y : Nat × Cl}
theorem NewAt.at_ (h : NewAt H H' i x) : H'[i]? = some (some x) := atH_some.1 h.here
theorem NewAt.ne (h : NewAt H H' i x) (hj : H[j]? = some (some y)) : j ≠ i := fun e => by
  have h1 := atH_some.2 hj
  rw [e, h.was] at h1; cases h1
theorem NewAt.old (h : NewAt H H' i x) (hj : H[j]? = some (some y)) : H'[j]? = some (some y) := atH_some.1 ((h.else_ j (h.ne hj)).trans (atH_some.2 hj))
end
theorem Made.fr {w w' : World} {F : Nat → Prop} {hb : Nat} {H : List (Option (Nat × Cl))} {s : HSt} {c : Cl} {i p : Nat} {F' : Nat → Prop} {H' : List (Option (Nat × Cl))} {s' : HSt} (h : Made w w' F (fun _ => False) hb H s c i p F' H' s') : Fresh F F' w := fun k hk => (h.fresh k hk).imp (fun h => h.elim id (fun h => h.elim)) id
def tabH (H : Hp) (i p : Nat) (c : Cl) (tb : Nat) (q : List Ent × Int) : Hp := H.set i (some (p, { c with tab := some (tb, q.1, q.2) }))
section
variable {H : Hp} {i j p tb : Nat} {c : Cl} {q : List Ent × Int} {y : Nat × Cl}
theorem tabH_at (hi : H[i]? = some (some (p, c))) : (tabH H i p c tb q)[i]? = some (some (p, { c with tab := some (tb, q.1, q.2) })) := by
  have hil := (List.getElem?_eq_some_iff.1 hi).1
  unfold tabH
  rw [List.getElem?_set_self hil]
theorem tabH_old (hj : H[j]? = some (some y)) (hne : j ≠ i) : (tabH H i p c tb q)[j]? = some (some y) := by
  unfold tabH
  rw [List.getElem?_set_ne (Ne.symm hne)]; exact hj
theorem Hd.turn {w wr wj : World} {hb : Nat} {F F' : Nat → Prop} {s : HSt} (h : Hd w hb F H s wr) (hi : H[i]? = some (some (p, c))) (hh : IsHeap wj F' hb (tabH H i p c tb q) s) (hk : Keeps F wr wj) (hf : Fresh F F' wr) : Hd w hb F' (tabH H i p c tb q) s wj :=
  ⟨hh, h.ok.turn hi _, fun k hk' => (hf k hk').elim (h.hF k) (fun h1 => Nat.le_trans h.K.size h1), h.K.trans hk (fun k _ h1 => h.hF k h1)⟩
end
end Go.Proofs.Ytmefdniocgcckaa
/- Layer 6: the heap: NewTable without a table. -/
namespace Go.Proofs.Ytmefdniocgcckaa
open Go.RowKit
set_option maxRecDepth 100000

theorem heap_NewTable_nil (w : World) (F : Nat → Prop) (hb : Nat) (H : List (Option (Nat × Cl))) (s : HSt) (h : IsHeap w F hb H s) (ho : HOk H s) (hf : s.live < s.limit) :
    Calls Try.prog 13 #[.pointer (some ⟨hb, 0, none⟩), .pointer none] w fun e w' => ∃ i p tb F' H' s', e = .returned (.tuple #[V.val ⟨4, (i : Nat), ⟨#[]⟩⟩, .int .i64 0]) ∧ Made w w' F (fun _ => False) hb H s (tableCl tb [] 0) i p F' H' s' := by
  have HVL := hidden (fun (W : World) (a : Addr) (tb : Nat) (Ft : Nat → Prop) (hK : Keeps (fun _ => False) w W) (hl : Vals W (some a) [V.null]) (ht : IsT W Ft tb [] 0) (hap : Apart F Ft) => heap_value_ok W F hb H s (tableCl tb [] 0) (some a) none none (some ⟨tb, 0, none⟩) 1 0 (fun _ => False) Ft (h.calm hK) ho
    ⟨hl, fun e => (Option.some_ne_none _ e).elim, fun i x h => by simp [tableCl] at h, fun _ => rfl, rfl, ⟨rfl, ht⟩, Apart.no _, hap, (fun _ h => h.elim), fun _ h => h.elim, ht.inw, ⟨by simp [tableCl], by simp [tableCl], fun b' ys e => by simp [tableCl] at e, fun b' L s e => by simp [tableCl] at e; obtain ⟨-, -, rfl⟩ := e; decide⟩⟩ (by simp [tableCl]) hf)
  have HNL := hidden (fun (W : World) => value_Null W)
  have hin := hidden (h.inw)
  clear h ho hf
  unfold V.val at HVL HNL
  unfold V.null at HNL
  refine post_gen fun R hR => ?_
  go_enter Try.func13, Try.ntmps13
  go_wp2_with fail
  refine (t_New _).mono ?_
  rintro e w1 ⟨tb, Ft, rfl, hT, hK, hF⟩
  have hKw := hidden (((Keeps.refl (fun _ => False) w).alloc _).trans hK (fun _ _ h => h))
  have HV := hidden (show IsVar w1 w.heap.size V.null from hK.heap (IsVar.new w V.null) (fun h => h))
  have HT := hidden hT
  have HFT := hidden (show ∀ k, Ft k → w.heap.size + 1 ≤ k from fun k h => (hF k h).elim (fun h => h.elim) (fun h => by simp at h; omega))
  have HAP := hidden (show Apart F Ft from fun k h1 h2 => by have := hin.out k h1; have := HFT.out k h2; omega)
  clear hT hK hF
  go_wp2_with fail
  refine (HNL.out _).mono ?_
  rintro e w3 ⟨rfl, hK⟩
  have HV3 := hidden (HV.out.keeps hK (fun h => h))
  have HK3 := hidden (hKw.out.trans hK (fun _ _ h => h))
  have HT3 := hidden (HT.out.none hK)
  clear hK HNL HV HT hKw
  go_wp2_with fail
  refine (HVL.out _ ⟨w3.heap.size, 0, none⟩ tb Ft (HK3.out.alloc _) (Vals.lit _ [V.null] _ rfl) (HT3.out.none ((Keeps.refl _ w3).alloc _)) HAP.out).mono ?_
  rintro e w2 ⟨i, p, F', H', s', rfl, hM⟩
  have HV2 := hidden (show IsVar w2 w.heap.size V.null from hM.keeps.heap (blk_alloc HV3.out _) (fun h => by have := hin.out _ h; omega))
  have hnf := hidden (hM.off (r := w.heap.size) (fun h => by have := hin.out _ h; omega) (fun h => h.elim id (fun h => by have := HFT.out _ h; omega)) (by have := blk_lt HV3.out; simp; omega))
  have HM2 := hidden (hM.ahead (w0 := w) (F1 := fun _ => False) (HK3.out.alloc _) (fun k h => .inr (h.elim (fun h => h.elim) (fun h => by have := HFT.out k h; omega))))
  clear hM HVL
  obtain ⟨v0, v1, v2, v3, v4, v5⟩ := HV2.out.cells
  have hvz := blk_lt HV2.out
  simp only [V.null] at v0 v1 v2
  go_wp2_with fail
  obtain ⟨d0, d1, d2, _⟩ := (HV2.out.set ⟨4, i, ⟨#[]⟩⟩).cells
  simp only at d0 d1 d2
  exact bodyPost_ret (v := .tuple #[V.val ⟨4, i, ⟨#[]⟩⟩, .int .i64 0]) (by simp [results, Try.results13, go_sem, d0, d1, d2, V.val]) rfl (hR.out _ _ ⟨i, p, tb, F', H', s', rfl, HM2.out.behind ((Keeps.refl (fun k => k = w.heap.size) w2).var (r := w.heap.size) (fun _ => rfl) _ _ _) (fun k h => by rw [h]; exact ⟨hnf.out, by omega⟩)⟩)
end Go.Proofs.Ytmefdniocgcckaa
