/- Values (api.Value) that came in: opened. -/
import Derived.Test.YtfdfjogoiagnkaaGrpA
import Derived.Deep.Strs
namespace Go.Proofs.Ytfdfjogoiagnkaa
open Go.RowKit Go.ChangeShapes Go.WideShapes
set_option maxRecDepth 100000

def V.wf (v : V) : Prop := (-9223372036854775808 ≤ v.k ∧ v.k ≤ 9223372036854775807) ∧ (-9223372036854775808 ≤ v.n ∧ v.n ≤ 9223372036854775807) ∧ v.t.size ≤ maxLen
def RVal (cs : List Value) (v : V) : Prop := cs = v.cells ∧ v.wf
section
variable {H : Type} {enc : TypeId × Value → H} {w : World} {base : Nat} {spare : Nat → Bool} {held : Bool}

theorem open_rval : ∀ fuel cs y, DataW.trod enc Try.prog w base spare held fuel 26 cs = some y → ∃ x, RVal cs x := fun fuel cs y h => by
  obtain ⟨y0, y1, y2, n, _, hl, h0, h1, h2⟩ := Go.Deep.trod_struct3 Try.underlying26 h
  obtain ⟨k, e0, _, w0⟩ := DataW.trod_int Try.underlying3 h0
  obtain ⟨m, e1, _, w1⟩ := DataW.trod_int Try.underlying2 h1
  obtain ⟨s, e2, _, w2⟩ := DataW.trod_string Try.underlying9 h2
  have c50 : Try.prog.cellsOf 26 = 3 := by kernel_rfl
  have c3 : Try.prog.cellsOf 3 = 1 := by kernel_rfl
  have c2 : Try.prog.cellsOf 2 = 1 := by kernel_rfl
  have c9 : Try.prog.cellsOf 9 = 1 := by kernel_rfl
  rw [c50] at hl
  match cs, hl with
  | [a, b, c], _ =>
    simp [c3, c2, c9] at e0 e1 e2
    subst e0 e1 e2
    exact ⟨⟨k, m, s⟩, rfl, wf_i64 w0, wf_i64 w1, w2⟩
theorem val_of {r : Reach} {b0 : Nat} {v : Value} {d : DataW H} {p : List MemPlace} (hv : Value.okWide Try.prog w r b0 26 v) (h : DataW.Trod enc Try.prog w base spare held 26 v d p) : ∃ y : V, v = y.val ∧ y.wf := by
  obtain ⟨cs, rfl, _⟩ := okWide_struct Try.underlying26 hv
  obtain ⟨fuel, hf⟩ := h
  obtain ⟨y, hy, hw⟩ := open_rval fuel _ _ hf
  refine ⟨y, ?_, hw⟩
  have : cs = y.cells.toArray := by rw [← hy]; simp [Value.cells]
  rw [this]; rfl
theorem cap_of {P : Program} {t e : TypeId} {a : Option Addr} {len cap : Nat} {d : DataW H} {ps : List MemPlace} (ht : P.underlying t = some (.slice e)) (h : DataW.Trod enc P w base spare held t (.slice a len cap) d ps) : len ≤ cap ∧ cap ≤ maxLen := by
  obtain ⟨fuel, hf⟩ := h
  simp only [Value.cells] at hf
  rcases DataW.trod_slice ht hf with ⟨h1, _⟩ | ⟨ad, l, c, elems, rest, n, _, h1, _, _, h2, h3, _⟩
  · simp at h1
    obtain ⟨rfl, rfl, rfl⟩ := h1
    exact ⟨Nat.le_refl _, Nat.zero_le _⟩
  · simp at h1
    obtain ⟨rfl, rfl, rfl⟩ := h1
    exact ⟨h2, h3⟩
end
theorem vals_of {w : World} {A : Option Addr} {xs : List V} (h : Reads 3 RVal w A xs) : Vals w A xs := fun i x hx => by
  obtain ⟨b, o, cs, rfl, _, ⟨rfl, _⟩, hc⟩ := h i x hx
  exact ⟨b, o, rfl, hc 0 _ rfl, hc 1 _ rfl, hc 2 _ rfl⟩
theorem vals_wf {w : World} {A : Option Addr} {xs : List V} (h : Reads 3 RVal w A xs) : ∀ x ∈ xs, x.wf := fun x hx => by
  obtain ⟨i, hi, he⟩ := List.mem_iff_getElem.1 hx
  obtain ⟨b, o, cs, rfl, _, ⟨_, hw⟩, _⟩ := h i x (by rw [List.getElem?_eq_getElem hi, he])
  exact hw
theorem vals_nil {w : World} {A : Option Addr} {xs : List V} (h : Vals w A xs) : A = none → xs = [] := fun hA => by
  cases xs with
  | nil => rfl
  | cons x l => obtain ⟨b, o, e, _⟩ := h 0 x rfl; rw [hA] at e; cases e
end Go.Proofs.Ytfdfjogoiagnkaa
