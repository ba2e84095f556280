/- The walk of the statement ListPlays. -/
import Derived.Test.YtpaefeknbpfpmaaLawPlaysB
import Derived.Test.YtpaefeknbpfpmaaLawPlaysC
import Derived.Test.YtpaefeknbpfpmaaLawPlaysD
import Derived.Test.YtpaefeknbpfpmaaLawPlaysE
namespace Go.Proofs.Ytpaefeknbpfpmaa
open Go.RowKit
theorem listPlays_walk (w : World) (A : Option Addr) (c : Nat) (xs : List LOp) (h : Lops w A xs) (hl : xs.length ≤ 4398046511104) (hwf : ∀ x ∈ xs, -9223372036854775808 ≤ x.a ∧ x.a ≤ 9223372036854775807) :
    Calls Try.prog 7 #[.slice A xs.length c] w fun e w' => e = .returned (.bool true) ∧ Below w.heap.size w w' := by
  refine plays_G.2 (fun ok => ?_) w A c xs h hl hwf
  rcases (show ok = 0 ∨ ok = 1 ∨ ok = 2 ∨ ok = 3 ∨ ok = 4 ∨ ok = 5 ∨ ok = 6 ∨ ok = 7 ∨ (ok ≠ 0 ∧ ok ≠ 1 ∧ ok ≠ 2 ∧ ok ≠ 3 ∧ ok ≠ 4 ∧ ok ≠ 5 ∧ ok ≠ 6 ∧ ok ≠ 7) by omega) with rfl | rfl | rfl | rfl | rfl | rfl | rfl | rfl | hno
  · exact plays_k0
  · exact plays_k1
  · exact plays_k2
  · exact plays_k3
  · exact plays_k4
  · exact plays_k5
  · exact plays_k6
  · exact plays_k7
  · exact plays_k8 ok hno
end Go.Proofs.Ytpaefeknbpfpmaa
