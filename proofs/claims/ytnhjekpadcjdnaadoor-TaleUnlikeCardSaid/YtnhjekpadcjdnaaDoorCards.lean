/-
  DERIVED. GIVEN WITH THE SEED: THE CARDS: each row of YtnhjekpadcjdnaaDoorRows.lean that lists a variable, with what it lists TIED to the program's text (the seventh form; the later family's looks); each row that meets fmt, with fmt's text TOLD by the authors' own Lean function (tested against real Go, not proved from fmt's source: count such statements apart). THE CARD IS WHAT COUNTS. Prove the row's statement (the work); the ties are given (YtnhjekpadcjdnaaDoorTie.lean); close each card by the builder's one call (the guide's Derived/Test/ToyasCard.lean, 'card_holds'). Laid BY PROGRAM, IN A SANDBOX (cutbox-door.mjs). By AI agents, Wed Nov 11 2026. No macro, syntax, notation, axiom, sorry.
-/
import Derived.Test.YtnhjekpadcjdnaaDoorRows
import GoSem.ClaimSeven
namespace Go.Proofs.YtnhjekpadcjdnaaDoor
namespace Rows

/-- THE TIED CARD OF 'plimsolllaw23.TaleUnlike'. -/
def taleUnlikeCard : Claim7 := { stood := { row := taleUnlikeRow, standIns := [], harness := (true, "81d4fbbc8017e25fb8b97953cb5f90b65f625877ab8888767e43c2390b41ffbe"), looks := true }, kinds := [], alts := [], laidByText := true, laidKinds := [.data, .data, .data, .data, .sentinel, .sentinel, .pinned], laidTests := true, laidLooks := .later }
def TaleUnlikeCardSaid : Prop := Claim7.holds Tryd.pinned (.plain (OpenSpec.ofChange taleUnlikeSpec)) taleUnlikeCard

/-- THE SECOND FORM's CARD OF 'plimsolllaw23.TaleUnlike'. -/
def taleUnlikeUptoCard : Claim7 := { stood := { row := taleUnlikeUptoRow, standIns := [], harness := (true, "81d4fbbc8017e25fb8b97953cb5f90b65f625877ab8888767e43c2390b41ffbe"), looks := true }, kinds := [], alts := [], laidByText := true, laidKinds := [.data, .data, .data, .data, .sentinel, .sentinel, .pinned], laidTests := true, laidLooks := .later }
def TaleUnlikeUptoCardSaid : Prop := Claim7.holds Tryd.pinned (.plain (OpenSpec.upto taleUnlikeSpec)) taleUnlikeUptoCard
end Rows
end Go.Proofs.YtnhjekpadcjdnaaDoor
