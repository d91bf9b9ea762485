/- What the calls' worlds say of package-level variables: math/bits.deBruijn64tab is as its initialiser lays it; it stays so where memory is only made. -/
import Derived.Test.YtmbpgnmhfmcbmaaDoorShelf
import Derived.Below
namespace Go.Proofs.YtmbpgnmhfmcbmaaDoor
open Go.RowKit

def Amb (w : World) : Prop := 0 < w.heap.size ∧ TabAt 0 Lib.deBruijn64tab w

theorem Amb.below {w w' : World} (h : Amb w) (hb : Below w.heap.size w w') : Amb w' :=
  ⟨Nat.lt_of_lt_of_le h.1 hb.size, fun j hj => (hb.cell (p := ⟨0, j, none⟩) h.1).trans (h.2 j hj)⟩

end Go.Proofs.YtmbpgnmhfmcbmaaDoor
