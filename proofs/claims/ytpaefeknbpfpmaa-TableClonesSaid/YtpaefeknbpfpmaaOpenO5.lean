/- Acts on tables that came in: opened. -/
import Derived.Test.YtpaefeknbpfpmaaOpenV
import Derived.Test.YtpaefeknbpfpmaaHead5
namespace Go.Proofs.Ytpaefeknbpfpmaa
open Go.RowKit Go.ChangeShapes Go.WideShapes
set_option maxRecDepth 100000

def ROp5 (cs : List Value) (o : LOp5) : Prop := cs = o.cells ∧ (-9223372036854775808 ≤ o.k ∧ o.k ≤ 9223372036854775807) ∧ o.key.wf ∧ o.val.wf
section
variable {H : Type} {enc : TypeId × Value → H} {w : World} {base : Nat} {spare : Nat → Bool} {held : Bool}
theorem open_rop5 : ∀ fuel cs y, DataW.trod enc Try.prog w base spare held fuel 32 cs = some y → ∃ x, ROp5 cs x := fun fuel cs y h => by
  obtain ⟨y0, y1, y2, n, _, hl, h0, h1, h2⟩ := Go.Deep.trod_struct3 Try.underlying32 h
  obtain ⟨k, e0, _, w0⟩ := DataW.trod_int Try.underlying3 h0
  obtain ⟨u, e1, w1⟩ := open_rval _ _ _ h1
  obtain ⟨v, e2, w2⟩ := open_rval _ _ _ h2
  have c50 : Try.prog.cellsOf 32 = 7 := by kernel_rfl
  have c5 : Try.prog.cellsOf 30 = 3 := by kernel_rfl
  have c3 : Try.prog.cellsOf 3 = 1 := by kernel_rfl
  rw [c50] at hl
  match cs, hl with
  | [a, b, c, d, e, f, g], _ =>
    simp [c3, c5] at e0 e1 e2
    subst e0
    refine ⟨⟨k, u, v⟩, ?_, wf_i64 w0, w1, w2⟩
    simp [V.cells] at e1 e2
    simp [LOp5.cells, e1, e2]
theorem op5_of {r : Reach} {b0 : Nat} {v : Value} {d : DataW H} {p : List MemPlace} (hv : Value.okWide Try.prog w r b0 32 v) (h : DataW.Trod enc Try.prog w base spare held 32 v d p) : ∃ y : LOp5, v = .agg #[.int .i64 y.k, .int .i64 y.key.k, .int .i64 y.key.n, .string y.key.t, .int .i64 y.val.k, .int .i64 y.val.n, .string y.val.t] := by
  obtain ⟨cs, rfl, _⟩ := okWide_struct Try.underlying32 hv
  obtain ⟨fuel, hf⟩ := h
  obtain ⟨y, hy, _⟩ := open_rop5 fuel _ _ hf
  refine ⟨y, ?_⟩
  have : cs = y.cells.toArray := by rw [← hy]; simp [Value.cells]
  rw [this]; rfl
end
theorem ops5_of {w : World} {A : Option Addr} {xs : List LOp5} (h : Reads 7 ROp5 w A xs) : Lops5 w A xs := fun i x hx => by
  obtain ⟨b, o, cs, rfl, _, ⟨rfl, _⟩, hc⟩ := h i x hx
  exact ⟨b, o, rfl, hc 0 _ rfl, hc 1 _ rfl, hc 2 _ rfl, hc 3 _ rfl, hc 4 _ rfl, hc 5 _ rfl, hc 6 _ rfl⟩
end Go.Proofs.Ytpaefeknbpfpmaa
