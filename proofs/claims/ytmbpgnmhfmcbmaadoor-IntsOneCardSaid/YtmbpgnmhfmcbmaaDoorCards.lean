/-
  DERIVED. GIVEN WITH THE SEED: THE CARDS: each row of YtmbpgnmhfmcbmaaDoorRows.lean that lists a variable, with what it lists TIED to the program's text (the seventh form; the later family's looks); each row that meets fmt, with fmt's text TOLD by the authors' own Lean function (tested against real Go, not proved from fmt's source: count such statements apart). THE CARD IS WHAT COUNTS. Prove the row's statement (the work); the ties are given (YtmbpgnmhfmcbmaaDoorTie.lean); close each card by the builder's one call (the guide's Derived/Test/ToyasCard.lean, 'card_holds'). Laid BY PROGRAM, IN A SANDBOX (cutbox-door.mjs). By AI agents, Wed Nov 11 2026. No macro, syntax, notation, axiom, sorry.
-/
import Derived.Test.YtmbpgnmhfmcbmaaDoorRows
import GoSem.ClaimSeven
namespace Go.Proofs.YtmbpgnmhfmcbmaaDoor
namespace Rows

/-- THE TIED CARD OF 'bodkinlaw02.IntsOne'. -/
def intsOneCard : Claim7 := { stood := { row := intsOneRow, standIns := [], harness := (true, "0f791334992053aa4de196cff1d74734d7362c315d89020ce1a9bee822f5317c"), looks := false }, kinds := [], alts := [], laidByText := true, laidKinds := [.data], laidTests := true, laidLooks := .later }
def IntsOneCardSaid : Prop := Claim7.holds Tryd.pinned (.plain (OpenSpec.ofChange intsOneSpec)) intsOneCard

/-- THE SECOND FORM's CARD OF 'bodkinlaw02.IntsOne'. -/
def intsOneUptoCard : Claim7 := { stood := { row := intsOneUptoRow, standIns := [], harness := (true, "0f791334992053aa4de196cff1d74734d7362c315d89020ce1a9bee822f5317c"), looks := false }, kinds := [], alts := [], laidByText := true, laidKinds := [.data], laidTests := true, laidLooks := .later }
def IntsOneUptoCardSaid : Prop := Claim7.holds Tryd.pinned (.plain (OpenSpec.upto intsOneSpec)) intsOneUptoCard
end Rows
end Go.Proofs.YtmbpgnmhfmcbmaaDoor
