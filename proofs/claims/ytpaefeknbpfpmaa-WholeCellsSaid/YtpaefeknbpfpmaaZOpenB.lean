/- Bools that came in: opened. -/
import Derived.Test.YtpaefeknbpfpmaaZOpenV
namespace Go.Proofs.Ytpaefeknbpfpmaa
open Go.RowKit Go.ChangeShapes Go.WideShapes
set_option maxRecDepth 100000

def RBool (cs : List Value) (b : Bool) : Prop := cs = [.bool b]
section
variable {H : Type} {enc : TypeId × Value → H} {w : World} {base : Nat} {spare : Nat → Bool} {held : Bool}
theorem open_rbool : ∀ fuel cs y, DataW.trod enc Try.prog w base spare held fuel 4 cs = some y → ∃ x, RBool cs x := fun fuel cs y h => by
  obtain ⟨b, e, _⟩ := DataW.trod_bool Try.underlying4 h
  exact ⟨b, e⟩
end
/-- Bools, each where it lies. -/
def Bools (w : World) (A : Option Addr) (l : List Bool) : Prop := ∀ i x, l[i]? = some x → ∃ b o, A = some ⟨b, o, none⟩ ∧ w.cell? ⟨b, o + i, none⟩ = some (.bool x)
theorem bools_of {w : World} {A : Option Addr} {xs : List Bool} (h : Reads 1 RBool w A xs) : Bools w A xs := fun i x hx => by
  obtain ⟨b, o, cs, rfl, _, rfl, hc⟩ := h i x hx
  refine ⟨b, o, rfl, ?_⟩
  have := hc 0 _ rfl
  rwa [Nat.mul_one, Nat.add_zero] at this
theorem Bools.far {w wi : World} {A : Option Addr} {xs : List Bool} (h : Bools w A xs) (hk : Keeps (fun k => w.heap.size ≤ k) w wi) : Bools wi A xs := fun i x hi => by
  obtain ⟨b, o, rfl, hc⟩ := h i x hi
  exact ⟨b, o, rfl, hk.cell hc (Nat.not_le_of_lt (World.block_lt_of_cell? w _ hc))⟩
end Go.Proofs.Ytpaefeknbpfpmaa
