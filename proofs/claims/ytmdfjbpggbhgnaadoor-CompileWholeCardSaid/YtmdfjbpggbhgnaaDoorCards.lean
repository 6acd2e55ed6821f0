/-
  DERIVED. GIVEN WITH THE SEED: THE CARDS: each row of YtmdfjbpggbhgnaaDoorRows.lean that lists a variable, with what it lists TIED to the program's text (the seventh form; the later family's looks); each row that meets fmt, with fmt's text TOLD by the authors' own Lean function (tested against real Go, not proved from fmt's source: count such statements apart). THE CARD IS WHAT COUNTS. Prove the row's statement (the work); the ties are given (YtmdfjbpggbhgnaaDoorTie.lean); close each card by the builder's one call (the guide's Derived/Test/ToyasCard.lean, 'card_holds'). Laid BY PROGRAM, IN A SANDBOX (cutbox-door.mjs). By AI agents, Wed Nov 11 2026. No macro, syntax, notation, axiom, sorry.
-/
import Derived.Test.YtmdfjbpggbhgnaaDoorRows
import GoSem.ClaimSeven
namespace Go.Proofs.YtmdfjbpggbhgnaaDoor
namespace Rows

/-- THE TIED CARD OF 'commutatorlaw15.CompileWhole'. -/
def compileWholeCard : Claim7 := { stood := { row := compileWholeRow, standIns := [], harness := (true, "4826fc91e3770785c08ef305ae3c00404e10a47b9a7cf009bfa06ce5a891a278"), looks := true }, kinds := [], alts := [], laidByText := true, laidKinds := [.data], laidTests := true, laidLooks := .later }
def CompileWholeCardSaid : Prop := Claim7.holds Tryd.pinned (.plain (OpenSpec.ofChange compileWholeSpec)) compileWholeCard

/-- THE SECOND FORM's CARD OF 'commutatorlaw15.CompileWhole'. -/
def compileWholeUptoCard : Claim7 := { stood := { row := compileWholeUptoRow, standIns := [], harness := (true, "4826fc91e3770785c08ef305ae3c00404e10a47b9a7cf009bfa06ce5a891a278"), looks := true }, kinds := [], alts := [], laidByText := true, laidKinds := [.data], laidTests := true, laidLooks := .later }
def CompileWholeUptoCardSaid : Prop := Claim7.holds Tryd.pinned (.plain (OpenSpec.upto compileWholeSpec)) compileWholeUptoCard
end Rows
end Go.Proofs.YtmdfjbpggbhgnaaDoor
