/- list.Push: there is room, or there is none. -/
import Derived.Test.YtfdfjogoiagnkaaGrpA
namespace Go.Proofs.Ytfdfjogoiagnkaa
open Go.RowKit

theorem list_Push_ok (w : World) (F : Nat → Prop) (b : Nat) (xs ys : List V) (A : Option Addr) (c : Nat) (h : IsList w F b xs) (hy : Vals w A ys) (hx : xs.length + ys.length ≤ 1048576) :
    Calls Try.prog 31 #[.pointer (some ⟨b, 0, none⟩), .slice A ys.length c] w fun e w' => ∃ F', e = .returned (.int .i64 0) ∧ IsList w' F' b (xs ++ ys) ∧ Keeps F w w' ∧ Fresh F F' w := by
  refine (list_Push w F b xs ys A c h hy (by omega) (by omega)).mono ?_
  rintro e w' ⟨F', hp, hk, hf⟩
  rw [if_neg (by omega)] at hp
  exact ⟨F', hp.1, hp.2, hk, hf⟩
theorem list_Push_long (w : World) (F : Nat → Prop) (b : Nat) (xs ys : List V) (A : Option Addr) (c : Nat) (h : IsList w F b xs) (hy : Vals w A ys) (hx : 1048576 < xs.length + ys.length) (hx0 : xs.length ≤ 1048576) (hl : ys.length ≤ 4398046511104) :
    Calls Try.prog 31 #[.pointer (some ⟨b, 0, none⟩), .slice A ys.length c] w fun e w' => ∃ F', e = .returned (.int .i64 2) ∧ IsList w' F' b xs ∧ Keeps F w w' ∧ Fresh F F' w := by
  refine (list_Push w F b xs ys A c h hy hx0 hl).mono ?_
  rintro e w' ⟨F', hp, hk, hf⟩
  rw [if_pos hx] at hp
  exact ⟨F', hp.1, hp.2, hk, hf⟩

end Go.Proofs.Ytfdfjogoiagnkaa
