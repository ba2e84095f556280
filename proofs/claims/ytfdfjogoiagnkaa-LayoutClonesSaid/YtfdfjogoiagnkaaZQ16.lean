/- Layer 16: the statements' pairs: rows of them; with. -/
import Derived.Test.YtfdfjogoiagnkaaZHeapR
import Derived.Test.YtfdfjogoiagnkaaZCur
namespace Go.Proofs.Ytfdfjogoiagnkaa
open Go.RowKit
set_option maxRecDepth 100000

def pairC (p : V × V) : List Value := [.int .i64 p.1.k, .int .i64 p.1.n, .string p.1.t, .int .i64 p.2.k, .int .i64 p.2.n, .string p.2.t]
def flatQ (E : List (V × V)) : List Value := E.flatMap pairC
theorem flatQ_length (E : List (V × V)) : (flatQ E).length = E.length * 6 := by
  induction E with
  | nil => rfl
  | cons x xs ih => simp only [flatQ, List.flatMap_cons, List.length_append] at ih ⊢; rw [ih]; simp [pairC]; omega
theorem flatQ_append (E G : List (V × V)) : flatQ (E ++ G) = flatQ E ++ flatQ G := by simp [flatQ]
theorem flatQ_one (E : List (V × V)) : ∀ u ∈ flatQ E, u.oneCell' = true := by
  intro u hu
  simp only [flatQ, List.mem_flatMap] at hu
  obtain ⟨v, _, h⟩ := hu
  simp [pairC] at h
  rcases h with rfl | rfl | rfl | rfl | rfl | rfl <;> rfl
theorem flatQ_get (xs : List (V × V)) : ∀ (i : Nat) (x : V × V), xs[i]? = some x → ∀ j, j < 6 → (flatQ xs)[i * 6 + j]? = (pairC x)[j]? := by
  induction xs with
  | nil => intro i x h; simp at h
  | cons y xs ih =>
    intro i x h j hj
    have e : flatQ (y :: xs) = pairC y ++ flatQ xs := by simp [flatQ]
    rw [e]
    cases i with
    | zero =>
      simp at h
      subst h
      rw [List.getElem?_append_left (by simp [pairC]; omega)]
      simp
    | succ i =>
      simp at h
      rw [List.getElem?_append_right (by simp [pairC]; omega)]
      have := ih i x h j hj
      rw [← this]
      congr 1
      simp [pairC]; omega
theorem flatQ_set (E : List (V × V)) (y : V × V) : ∀ (i : Nat) (_ : i < E.length), ((((((flatQ E).set (i * 6) (.int .i64 y.1.k)).set (i * 6 + 1) (.int .i64 y.1.n)).set (i * 6 + 2) (.string y.1.t)).set (i * 6 + 3) (.int .i64 y.2.k)).set (i * 6 + 4) (.int .i64 y.2.n)).set (i * 6 + 5) (.string y.2.t) = flatQ (E.set i y) := by
  induction E with
  | nil => intro i h; simp at h
  | cons x xs ih =>
    intro i hi
    cases i with
    | zero => simp [flatQ, pairC]
    | succ i =>
      have e : flatQ (x :: xs) = pairC x ++ flatQ xs := by simp [flatQ]
      have e2 : flatQ ((x :: xs).set (i + 1) y) = pairC x ++ flatQ (xs.set i y) := by simp [flatQ]
      have h8 : (pairC x).length = 6 := rfl
      have k : ∀ (L : List Value) (j : Nat) (v : Value), (pairC x ++ L).set ((i + 1) * 6 + j) v = pairC x ++ L.set (i * 6 + j) v := fun L j v => by
        rw [List.set_append_right _ _ (by rw [h8]; omega), h8]
        congr 2
        omega
      have k0 : ∀ (L : List Value) (v : Value), (pairC x ++ L).set ((i + 1) * 6) v = pairC x ++ L.set (i * 6) v := fun L v => k L 0 v
      rw [e, e2, k0, k, k, k, k, k, ih i (by simpa using hi)]
structure QAt (w : World) (g o i : Nat) (x : V × V) : Prop where
  c0 : w.cell? ⟨g, o + i * 6, none⟩ = some (.int .i64 x.1.k)
  c1 : w.cell? ⟨g, o + i * 6 + 1, none⟩ = some (.int .i64 x.1.n)
  c2 : w.cell? ⟨g, o + i * 6 + 2, none⟩ = some (.string x.1.t)
  c3 : w.cell? ⟨g, o + i * 6 + 3, none⟩ = some (.int .i64 x.2.k)
  c4 : w.cell? ⟨g, o + i * 6 + 4, none⟩ = some (.int .i64 x.2.n)
  c5 : w.cell? ⟨g, o + i * 6 + 5, none⟩ = some (.string x.2.t)
theorem QAt.keeps {w w1 : World} {S : Nat → Prop} {g o i : Nat} {x : V × V} (h : QAt w g o i x) (hk : Keeps S w w1) (hn : ¬ S g) : QAt w1 g o i x :=
  ⟨hk.cell h.c0 hn, hk.cell h.c1 hn, hk.cell h.c2 hn, hk.cell h.c3 hn, hk.cell h.c4 hn, hk.cell h.c5 hn⟩
def Qs (w : World) (A : Option Addr) (E : List (V × V)) : Prop := ∀ i x, E[i]? = some x → ∃ g o, A = some ⟨g, o, none⟩ ∧ QAt w g o i x
theorem Qs.calm {w w1 : World} {A : Option Addr} {E : List (V × V)} (h : Qs w A E) (hk : Keeps (fun _ => False) w w1) : Qs w1 A E := fun i x hi => by
  obtain ⟨b, o, rfl, h1⟩ := h i x hi
  exact ⟨b, o, rfl, h1.keeps hk (fun h => h)⟩
theorem Qs.own {w : World} {base e n c : Nat} {A : Option Addr} {E : List (V × V)} (h : w.ownsRow base e 6 (.slice A n c) n (flatQ E)) : Qs w A E := fun i x hi => by
  have hil := (List.getElem?_eq_some_iff.1 hi).1
  rcases h.2 with ⟨h1, h2⟩ | ⟨g, cap, cur, h1, _⟩
  · have := h.1
    rw [flatQ_length] at this
    omega
  · simp at h1
    obtain ⟨rfl, rfl⟩ := h1
    have hc := h.cells (g := g) rfl
    have k : ∀ j v, j < 6 → (pairC x)[j]? = some v → w.cell? ⟨g, 0 + (i * 6 + j), none⟩ = some v := fun j v hj hv => by
      have := hc (i * 6 + j) v ((flatQ_get E i x hi j hj).trans hv)
      rwa [add_at3] at this
    exact ⟨g, 0, rfl, ⟨k 0 _ (by omega) rfl, k 1 _ (by omega) rfl, k 2 _ (by omega) rfl, k 3 _ (by omega) rfl, k 4 _ (by omega) rfl, k 5 _ (by omega) rfl⟩⟩
theorem Row.openQ {w : World} {F : Nat → Prop} {e n c : Nat} {A : Option Addr} {E : List (V × V)} (h : Row w F e 6 (.slice A n c) n (flatQ E)) {i : Nat} (hi : i < E.length) : ∃ g, A = some ⟨g, 0, none⟩ ∧ F g ∧ g < w.heap.size ∧ QAt w g 0 i E[i] ∧ ∀ j, w.frozen? ⟨g, j, none⟩ = false := by
  obtain ⟨b, o, rfl, hx⟩ := Qs.own h.1 i E[i] (by simp [hi])
  have ho : o = 0 := by
    rcases h.1.2 with ⟨he, _⟩ | ⟨g, cap, cur, he, _⟩
    · simp at he
    · simp at he; exact he.1.2
  subst ho
  exact ⟨b, rfl, h.2 b rfl, World.block_lt_of_cell? w _ hx.c0, hx, fun j => h.1.frozenAt _⟩
def putQ (w : World) (g q : Nat) (y : V × V) : World := (((((w.setCell ⟨g, q * 6, none⟩ (.int .i64 y.1.k)).setCell ⟨g, q * 6 + 1, none⟩ (.int .i64 y.1.n)).setCell ⟨g, q * 6 + 2, none⟩ (.string y.1.t)).setCell ⟨g, q * 6 + 3, none⟩ (.int .i64 y.2.k)).setCell ⟨g, q * 6 + 4, none⟩ (.int .i64 y.2.n)).setCell ⟨g, q * 6 + 5, none⟩ (.string y.2.t)
theorem Row.putQ {w : World} {F : Nat → Prop} {e n c g : Nat} {L : List (V × V)} (h : Row w F e 6 (.slice (some ⟨g, 0, none⟩) n c) n (flatQ L)) {q : Nat} (hq : q < L.length) (y : V × V) :
    Row (putQ w g q y) F e 6 (.slice (some ⟨g, 0, none⟩) n c) n (flatQ (L.set q y)) := by
  have h3 := (((((h.1.stored (q * 6) (.int .i64 y.1.k)).1.stored (q * 6 + 1) (.int .i64 y.1.n)).1.stored (q * 6 + 2) (.string y.1.t)).1.stored (q * 6 + 3) (.int .i64 y.2.k)).1.stored (q * 6 + 4) (.int .i64 y.2.n)).1.stored (q * 6 + 5) (.string y.2.t)
  rw [flatQ_set L y q hq] at h3
  exact ⟨h3.1, h.2⟩
theorem SameBut.putQ {b : Nat} {w1 w2 : World} (h : SameBut b w1 w2) (i : Nat) (y : V × V) : SameBut b w1 (putQ w2 b i y) := (((((h.set _ _).set _ _).set _ _).set _ _).set _ _).set _ _
theorem Qs.src {P : Program} {w : World} {A : Option Addr} {E : List (V × V)} {c : Nat} {t e' : TypeId} (h : Qs w A E) (hu : P.underlying t = some (.slice e')) : Src P 6 t (.slice A E.length c) E.length (flatQ E) w := by
  cases hs : E with
  | nil =>
    cases A with
    | none => exact Src.ofNil w hu c
    | some a => exact Src.ofSlice w hu a 0 c [] rfl (by simp) (by simp)
  | cons s l =>
    obtain ⟨b, o, rfl, _⟩ := h 0 s (by simp [hs])
    rw [← hs]
    refine Src.ofSlice w hu _ _ c _ (flatQ_length E) ?_ (flatQ_one E)
    intro j u hj
    have hjl := (List.getElem?_eq_some_iff.1 hj).1
    rw [flatQ_length] at hjl
    have hil : j / 6 < E.length := by omega
    obtain ⟨b', o', he, hx⟩ := h (j / 6) _ (List.getElem?_eq_getElem hil)
    simp at he
    obtain ⟨rfl, rfl⟩ := he
    have hg := flatQ_get E (j / 6) _ (List.getElem?_eq_getElem hil) (j % 6) (by omega)
    rw [show j / 6 * 6 + j % 6 = j by omega, hj] at hg
    rw [add_at3]
    have h6 : j % 6 = 0 ∨ j % 6 = 1 ∨ j % 6 = 2 ∨ j % 6 = 3 ∨ j % 6 = 4 ∨ j % 6 = 5 := by omega
    rcases h6 with h6 | h6 | h6 | h6 | h6 | h6 <;> rw [h6] at hg <;> simp [pairC] at hg <;> subst hg
    · rw [show o + j = o + j / 6 * 6 by omega]; exact hx.c0
    · rw [show o + j = o + j / 6 * 6 + 1 by omega]; exact hx.c1
    · rw [show o + j = o + j / 6 * 6 + 2 by omega]; exact hx.c2
    · rw [show o + j = o + j / 6 * 6 + 3 by omega]; exact hx.c3
    · rw [show o + j = o + j / 6 * 6 + 4 by omega]; exact hx.c4
    · rw [show o + j = o + j / 6 * 6 + 5 by omega]; exact hx.c5
theorem Qs.lit (w : World) (x : V × V) (t : TypeId) {m : Nat} (hm : m = w.heap.size) : Qs (w.alloc (.cells #[.int .i64 x.1.k, .int .i64 x.1.n, .string x.1.t, .int .i64 x.2.k, .int .i64 x.2.n, .string x.2.t] t)) (some ⟨m, 0, none⟩) [x] := fun i y hi => by
  subst hm
  have hi0 : i = 0 := by have := (List.getElem?_eq_some_iff.1 hi).1; simp at this; omega
  subst hi0
  simp at hi
  subst hi
  exact ⟨_, _, rfl, ⟨by rw [blk_cell (blk_new w _)]; rfl, by rw [blk_cell (blk_new w _)]; rfl, by rw [blk_cell (blk_new w _)]; rfl, by rw [blk_cell (blk_new w _)]; rfl, by rw [blk_cell (blk_new w _)]; rfl, by rw [blk_cell (blk_new w _)]; rfl⟩⟩
/-- Pairs with one more, or another value. -/
def withQ (E : List (V × V)) (p : V × V) : List (V × V) := if E.any (fun y => decide (y.1 = p.1)) then E.set (E.findIdx (fun y => decide (y.1 = p.1))) p else E ++ [p]
theorem withQ_at {E : List (V × V)} {p : V × V} {k : Nat} (hk : k < E.length) (he : E[k].1 = p.1) (hn : ∀ (j : Nat) (hj : j < E.length), j < k → E[j].1 ≠ p.1) : withQ E p = E.set k p := by
  unfold withQ
  rw [if_pos (List.any_eq_true.2 ⟨E[k], List.getElem_mem hk, by simpa using he⟩)]
  congr 1
  rw [List.findIdx_eq hk]
  exact ⟨by simpa using he, fun j hj => by simpa using hn j (by omega) hj⟩
theorem withQ_no {E : List (V × V)} {p : V × V} (hn : ∀ (j : Nat) (hj : j < E.length), E[j].1 ≠ p.1) : withQ E p = E ++ [p] := by
  unfold withQ
  rw [if_neg]
  intro h
  obtain ⟨x, hx, e⟩ := List.any_eq_true.1 h
  obtain ⟨j, hj, rfl⟩ := List.mem_iff_getElem.1 hx
  exact hn j hj (by simpa using e)
/-- A table that is put to has just such pairs. -/
theorem putE_kv {L : List Ent} (hd : L.Pairwise (fun a b => a.key ≠ b.key)) (s : Int) (key val : V) : (putE L s key val).1.map Ent.kv = withQ (L.map Ent.kv) (key, val) := by
  unfold putE
  by_cases hh : hasL L key = true
  · rw [if_pos hh]
    obtain ⟨q, hq, e⟩ := hasL_at hh
    have hp := List.pairwise_iff_getElem.1 hd
    rw [withQ_at (k := q) (by simpa using hq) (by simpa [Ent.kv] using e) (fun j hj hjq => by
      simp only [List.getElem_map]
      intro e2
      exact hp j q (by simpa using hj) hq hjq (e2.trans e.symm))]
    refine List.ext_getElem? fun i => ?_
    rw [List.getElem?_map, putL, List.getElem?_map, List.getElem?_set]
    by_cases hqi : q = i
    · subst hqi
      rw [if_pos rfl, if_pos (by simpa using hq), List.getElem?_eq_getElem hq]
      simp [e, Ent.kv]
    · rw [if_neg hqi, List.getElem?_map]
      cases hy : L[i]? with
      | none => rfl
      | some y =>
        obtain ⟨hi, rfl⟩ := List.getElem?_eq_some_iff.1 hy
        have hne : L[i].key ≠ key := fun h => by
          rcases Nat.lt_or_ge i q with h1 | h1
          · exact hp i q hi hq h1 (h.trans e.symm)
          · exact hp q i hq hi (by omega) (e.trans h.symm)
        simp [hne]
  · rw [if_neg hh]
    have hno := hasL_no (Bool.eq_false_iff.2 hh)
    rw [withQ_no (fun j hj => by simp only [List.getElem_map]; exact hno _ (List.getElem_mem _))]
    simp [Ent.kv]
theorem madeQ (w0 : World) (e size : Nat) {m : Nat} (hm : m = w0.heap.size) {F : Nat → Prop} (hF : F m) : Row (w0.alloc (.cells #[] e)) F e size (.slice (some ⟨m, 0, none⟩) 0 0) 0 [] := by
  subst hm
  exact (Row.made0 w0 e size).mono (fun k _ h => by subst h; exact hF)
end Go.Proofs.Ytfdfjogoiagnkaa
