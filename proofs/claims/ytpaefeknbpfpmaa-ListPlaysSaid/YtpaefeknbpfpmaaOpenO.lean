/- Acts on lists that came in: opened. -/
import Derived.Test.YtpaefeknbpfpmaaOpenV
import Derived.Test.YtpaefeknbpfpmaaOps4
namespace Go.Proofs.Ytpaefeknbpfpmaa
open Go.RowKit Go.ChangeShapes Go.WideShapes
set_option maxRecDepth 100000

def ROp (cs : List Value) (o : LOp) : Prop := cs = o.cells ∧ (-9223372036854775808 ≤ o.k ∧ o.k ≤ 9223372036854775807) ∧ (-9223372036854775808 ≤ o.a ∧ o.a ≤ 9223372036854775807) ∧ o.v.wf
section
variable {H : Type} {enc : TypeId × Value → H} {w : World} {base : Nat} {spare : Nat → Bool} {held : Bool}
theorem open_rop : ∀ fuel cs y, DataW.trod enc Try.prog w base spare held fuel 88 cs = some y → ∃ x, ROp cs x := fun fuel cs y h => by
  obtain ⟨y0, y1, y2, n, _, hl, h0, h1, h2⟩ := Go.Deep.trod_struct3 Try.underlying88 h
  obtain ⟨k, e0, _, w0⟩ := DataW.trod_int Try.underlying3 h0
  obtain ⟨m, e1, _, w1⟩ := DataW.trod_int Try.underlying2 h1
  obtain ⟨v, e2, w2⟩ := open_rval _ _ _ h2
  have c50 : Try.prog.cellsOf 88 = 5 := by kernel_rfl
  have c5 : Try.prog.cellsOf 30 = 3 := by kernel_rfl
  have c3 : Try.prog.cellsOf 3 = 1 := by kernel_rfl
  have c2 : Try.prog.cellsOf 2 = 1 := by kernel_rfl
  rw [c50] at hl
  match cs, hl with
  | [a, b, c, d, e], _ =>
    simp [c3, c2, c5] at e0 e1 e2
    subst e0 e1
    exact ⟨⟨k, m, v⟩, by rw [e2]; rfl, wf_i64 w0, wf_i64 w1, w2⟩
end
theorem ops_of {w : World} {A : Option Addr} {xs : List LOp} (h : Reads 5 ROp w A xs) : Lops w A xs := fun i x hx => by
  obtain ⟨b, o, cs, rfl, _, ⟨rfl, _⟩, hc⟩ := h i x hx
  exact ⟨b, o, rfl, hc 0 _ rfl, hc 1 _ rfl, hc 2 _ rfl, hc 3 _ rfl, hc 4 _ rfl⟩
theorem ops_wf {w : World} {A : Option Addr} {xs : List LOp} (h : Reads 5 ROp w A xs) : ∀ x ∈ xs, -9223372036854775808 ≤ x.a ∧ x.a ≤ 9223372036854775807 := fun x hx => by
  obtain ⟨i, hi, he⟩ := List.mem_iff_getElem.1 hx
  obtain ⟨b, o, cs, rfl, _, ⟨_, _, hw, _⟩, _⟩ := h i x (by rw [List.getElem?_eq_getElem hi, he])
  exact hw
end Go.Proofs.Ytpaefeknbpfpmaa
