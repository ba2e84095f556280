/- A cell that came in: opened. -/
import Derived.Test.YtfdfjogoiagnkaaZOpenV
import Derived.Test.YtfdfjogoiagnkaaGrpB
namespace Go.Proofs.Ytfdfjogoiagnkaa
open Go.RowKit Go.ChangeShapes Go.WideShapes
set_option maxRecDepth 100000

def RInt (cs : List Value) (n : Int) : Prop := cs = [.int .i64 n]
section
variable {H : Type} {enc : TypeId × Value → H} {w : World} {base : Nat} {spare : Nat → Bool} {held : Bool}
theorem open_rint64 : ∀ fuel cs y, DataW.trod enc Try.prog w base spare held fuel 2 cs = some y → ∃ x, RInt cs x := fun fuel cs y h => by
  obtain ⟨k, e0, _, w0⟩ := DataW.trod_int Try.underlying2 h
  exact ⟨k, e0⟩
theorem slice_form {P : Program} {t e : TypeId} {fuel : Nat} {cs : List Value} {y : DataW H × List MemPlace} (ht : P.underlying t = some (.slice e)) (h : DataW.trod enc P w base spare held fuel t cs = some y) : ∃ A len cap, cs = [.slice A len cap] ∧ len ≤ 9223372036854775807 := by
  rcases DataW.trod_slice ht h with ⟨h1, _⟩ | ⟨ad, l, c, _, _, _, _, h1, _, _, h2, h3, _⟩
  · exact ⟨_, _, _, h1, by omega⟩
  · exact ⟨_, _, _, h1, by unfold maxLen at h3; omega⟩
theorem pointer_form {P : Program} {t e : TypeId} {fuel : Nat} {cs : List Value} {y : DataW H × List MemPlace} (ht : P.underlying t = some (.pointer e)) (h : DataW.trod enc P w base spare held fuel t cs = some y) : ∃ a, cs = [.pointer a] := by
  rcases DataW.trod_pointer ht h with ⟨h1, _⟩ | ⟨a, _, _, _, _, h1, _⟩
  · exact ⟨_, h1⟩
  · exact ⟨_, h1⟩
theorem open_cell {fuel : Nat} {cs : List Value} {y : DataW H × List MemPlace} (h : DataW.trod enc Try.prog w base spare held fuel 41 cs = some y) :
    ∃ (kind : Int) (Av : Option Addr) (xs : List V) (cv : Nat) (lp tp An : Option Addr) (ns : List Int) (cn : Nat) (text : ByteArray), cs = [.int .i64 kind, .slice Av xs.length cv, .pointer lp, .pointer tp, .slice An ns.length cn, .string text] ∧ Reads 3 RVal w Av xs ∧ Reads 1 RInt w An ns ∧ xs.length ≤ 9223372036854775807 ∧ ns.length ≤ 9223372036854775807 := by
  obtain ⟨ys, n, _, _, hl, hlen, hf⟩ := DataW.trod_struct Try.underlying41 h
  have c0 : Try.prog.cellsOf 41 = 6 := by kernel_rfl
  have c1 : Try.prog.cellsOf 3 = 1 := by kernel_rfl
  have c2 : Try.prog.cellsOf 36 = 1 := by kernel_rfl
  have c3 : Try.prog.cellsOf 37 = 1 := by kernel_rfl
  have c4 : Try.prog.cellsOf 38 = 1 := by kernel_rfl
  have c5 : Try.prog.cellsOf 39 = 1 := by kernel_rfl
  have c6 : Try.prog.cellsOf 9 = 1 := by kernel_rfl
  rw [c0] at hl
  match ys, hlen, cs, hl with
  | [y0, y1, y2, y3, y4, y5], _, [a, b, c, d, e, f], _ =>
    have g0 := hf 0 _ rfl
    have g1 := hf 1 _ rfl
    have g2 := hf 2 _ rfl
    have g3 := hf 3 _ rfl
    have g4 := hf 4 _ rfl
    have g5 := hf 5 _ rfl
    simp [c1, c2, c3, c4, c5, c6] at g0 g1 g2 g3 g4 g5
    obtain ⟨k, e0, _, _⟩ := DataW.trod_int Try.underlying3 g0
    obtain ⟨Av, lv, cv, e1, m1⟩ := slice_form Try.underlying36 g1
    obtain ⟨lp, e2⟩ := pointer_form Try.underlying37 g2
    obtain ⟨tp, e3⟩ := pointer_form Try.underlying38 g3
    obtain ⟨An, ln, cn, e4, m4⟩ := slice_form Try.underlying39 g4
    obtain ⟨s, e5, _⟩ := DataW.trod_string Try.underlying9 g5
    simp at e0 e1 e2 e3 e4 e5
    subst e0 e1 e2 e3 e4 e5
    obtain ⟨xs, rfl, hr⟩ := open_reads (d := y1.1) (ps := y1.2) (sz := 3) (R := RVal) Try.underlying36 (by kernel_rfl) (by decide) open_rval ⟨_, g1⟩
    obtain ⟨ns, rfl, hr2⟩ := open_reads (d := y4.1) (ps := y4.2) (sz := 1) (R := RInt) Try.underlying39 (by kernel_rfl) (by decide) open_rint64 ⟨_, g4⟩
    exact ⟨k, Av, xs, cv, lp, tp, An, ns, cn, s, rfl, hr, hr2, m1, m4⟩
theorem cell_of {r : Reach} {b0 : Nat} {v : Value} {d : DataW H} {p : List MemPlace} (hv : Value.okWide Try.prog w r b0 41 v) (h : DataW.Trod enc Try.prog w base spare held 41 v d p) :
    ∃ (kind : Int) (Av : Option Addr) (xs : List V) (cv : Nat) (lp tp An : Option Addr) (ns : List Int) (cn : Nat) (text : ByteArray), v = .agg #[.int .i64 kind, .slice Av xs.length cv, .pointer lp, .pointer tp, .slice An ns.length cn, .string text] ∧ Reads 3 RVal w Av xs ∧ Reads 1 RInt w An ns ∧ xs.length ≤ 9223372036854775807 ∧ ns.length ≤ 9223372036854775807 := by
  obtain ⟨cs, rfl, _⟩ := okWide_struct Try.underlying41 hv
  obtain ⟨fuel, hf⟩ := h
  obtain ⟨kind, Av, xs, cv, lp, tp, An, ns, cn, text, hy, r⟩ := open_cell hf
  refine ⟨kind, Av, xs, cv, lp, tp, An, ns, cn, text, ?_, r⟩
  have : cs = (#[.int .i64 kind, .slice Av xs.length cv, .pointer lp, .pointer tp, .slice An ns.length cn, .string text] : Array Value) := Array.ext' (by simpa [Value.cells] using hy)
  rw [this]
end
theorem ints_of {w : World} {A : Option Addr} {xs : List Int} (h : Reads 1 RInt w A xs) : Ints w A xs := fun i x hx => by
  obtain ⟨b, o, cs, rfl, _, rfl, hc⟩ := h i x hx
  refine ⟨b, o, rfl, ?_⟩
  have := hc 0 _ rfl
  rwa [Nat.mul_one, Nat.add_zero] at this
theorem ints_nil {w : World} {A : Option Addr} {xs : List Int} (h : Ints w A xs) : A = none → xs = [] := fun hA => by
  cases xs with
  | nil => rfl
  | cons x l => obtain ⟨b, o, e, _⟩ := h 0 x rfl; rw [hA] at e; cases e
end Go.Proofs.Ytfdfjogoiagnkaa
