/- dreytop.WholeCells: the walk. -/
import Derived.Test.YtpaefeknbpfpmaaZLawWholeB
namespace Go.Proofs.Ytpaefeknbpfpmaa
open Go.RowKit
theorem wholeCells_walk (w : World) (A : Option Addr) (c : Nat) (kp : List Bool) (hk : Bools w A kp) :
    Calls Try.prog 8 #[.slice A kp.length c] w fun e w' => e = .returned (.bool true) ∧ Below w.heap.size w w' := whole_G.2 whole_rest w A c kp hk
end Go.Proofs.Ytpaefeknbpfpmaa
