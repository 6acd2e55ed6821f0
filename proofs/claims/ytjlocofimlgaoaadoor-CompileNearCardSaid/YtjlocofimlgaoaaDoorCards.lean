/-
  DERIVED. GIVEN WITH THE SEED: THE CARDS: each row of YtjlocofimlgaoaaDoorRows.lean that lists a variable, with what it lists TIED to the program's text (the seventh form; the later family's looks); each row that meets fmt, with fmt's text TOLD by the authors' own Lean function (tested against real Go, not proved from fmt's source: count such statements apart). THE CARD IS WHAT COUNTS. Prove the row's statement (the work); the ties are given (YtjlocofimlgaoaaDoorTie.lean); close each card by the builder's one call (the guide's Derived/Test/ToyasCard.lean, 'card_holds'). Laid BY PROGRAM, IN A SANDBOX (cutbox-door.mjs). By AI agents, Wed Nov 11 2026. No macro, syntax, notation, axiom, sorry.
-/
import Derived.Test.YtjlocofimlgaoaaDoorRows
import GoSem.ClaimSeven
namespace Go.Proofs.YtjlocofimlgaoaaDoor
namespace Rows

/-- THE TIED CARD OF 'commutatorlaw15.CompileRaw'. -/
def compileRawCard : Claim7 := { stood := { row := compileRawRow, standIns := [], harness := (true, "01add0c9c9bfc198abe3cb869df26a2f98112188c10b66011af3476e33b567fc"), looks := true }, kinds := [], alts := [], laidByText := true, laidKinds := [.data], laidTests := true, laidLooks := .later }
def CompileRawCardSaid : Prop := Claim7.holds Tryd.pinned (.plain (OpenSpec.ofChange compileRawSpec)) compileRawCard

/-- THE TIED CARD OF 'commutatorlaw15.CompileFine'. -/
def compileFineCard : Claim7 := { stood := { row := compileFineRow, standIns := [], harness := (true, "01add0c9c9bfc198abe3cb869df26a2f98112188c10b66011af3476e33b567fc"), looks := true }, kinds := [], alts := [], laidByText := true, laidKinds := [.data], laidTests := true, laidLooks := .later }
def CompileFineCardSaid : Prop := Claim7.holds Tryd.pinned (.plain (OpenSpec.ofChange compileFineSpec)) compileFineCard

/-- THE TIED CARD OF 'commutatorlaw15.CompileMakes'. -/
def compileMakesCard : Claim7 := { stood := { row := compileMakesRow, standIns := [], harness := (true, "01add0c9c9bfc198abe3cb869df26a2f98112188c10b66011af3476e33b567fc"), looks := true }, kinds := [], alts := [], laidByText := true, laidKinds := [.data], laidTests := true, laidLooks := .later }
def CompileMakesCardSaid : Prop := Claim7.holds Tryd.pinned (.plain (OpenSpec.ofChange compileMakesSpec)) compileMakesCard

/-- THE TIED CARD OF 'commutatorlaw15.CompileNear'. -/
def compileNearCard : Claim7 := { stood := { row := compileNearRow, standIns := [], harness := (true, "01add0c9c9bfc198abe3cb869df26a2f98112188c10b66011af3476e33b567fc"), looks := true }, kinds := [], alts := [], laidByText := true, laidKinds := [.data], laidTests := true, laidLooks := .later }
def CompileNearCardSaid : Prop := Claim7.holds Tryd.pinned (.plain (OpenSpec.ofChange compileNearSpec)) compileNearCard

/-- THE TIED CARD OF 'commutatorlaw15.CompileCells'. -/
def compileCellsCard : Claim7 := { stood := { row := compileCellsRow, standIns := [], harness := (true, "01add0c9c9bfc198abe3cb869df26a2f98112188c10b66011af3476e33b567fc"), looks := true }, kinds := [], alts := [], laidByText := true, laidKinds := [.data], laidTests := true, laidLooks := .later }
def CompileCellsCardSaid : Prop := Claim7.holds Tryd.pinned (.plain (OpenSpec.ofChange compileCellsSpec)) compileCellsCard

/-- THE TIED CARD OF 'commutatorlaw15.CompileWhole'. -/
def compileWholeCard : Claim7 := { stood := { row := compileWholeRow, standIns := [], harness := (true, "01add0c9c9bfc198abe3cb869df26a2f98112188c10b66011af3476e33b567fc"), looks := true }, kinds := [], alts := [], laidByText := true, laidKinds := [.data], laidTests := true, laidLooks := .later }
def CompileWholeCardSaid : Prop := Claim7.holds Tryd.pinned (.plain (OpenSpec.ofChange compileWholeSpec)) compileWholeCard

/-- THE SECOND FORM's CARD OF 'commutatorlaw15.CompileRaw'. -/
def compileRawUptoCard : Claim7 := { stood := { row := compileRawUptoRow, standIns := [], harness := (true, "01add0c9c9bfc198abe3cb869df26a2f98112188c10b66011af3476e33b567fc"), looks := true }, kinds := [], alts := [], laidByText := true, laidKinds := [.data], laidTests := true, laidLooks := .later }
def CompileRawUptoCardSaid : Prop := Claim7.holds Tryd.pinned (.plain (OpenSpec.upto compileRawSpec)) compileRawUptoCard

/-- THE SECOND FORM's CARD OF 'commutatorlaw15.CompileFine'. -/
def compileFineUptoCard : Claim7 := { stood := { row := compileFineUptoRow, standIns := [], harness := (true, "01add0c9c9bfc198abe3cb869df26a2f98112188c10b66011af3476e33b567fc"), looks := true }, kinds := [], alts := [], laidByText := true, laidKinds := [.data], laidTests := true, laidLooks := .later }
def CompileFineUptoCardSaid : Prop := Claim7.holds Tryd.pinned (.plain (OpenSpec.upto compileFineSpec)) compileFineUptoCard

/-- THE SECOND FORM's CARD OF 'commutatorlaw15.CompileMakes'. -/
def compileMakesUptoCard : Claim7 := { stood := { row := compileMakesUptoRow, standIns := [], harness := (true, "01add0c9c9bfc198abe3cb869df26a2f98112188c10b66011af3476e33b567fc"), looks := true }, kinds := [], alts := [], laidByText := true, laidKinds := [.data], laidTests := true, laidLooks := .later }
def CompileMakesUptoCardSaid : Prop := Claim7.holds Tryd.pinned (.plain (OpenSpec.upto compileMakesSpec)) compileMakesUptoCard

/-- THE SECOND FORM's CARD OF 'commutatorlaw15.CompileNear'. -/
def compileNearUptoCard : Claim7 := { stood := { row := compileNearUptoRow, standIns := [], harness := (true, "01add0c9c9bfc198abe3cb869df26a2f98112188c10b66011af3476e33b567fc"), looks := true }, kinds := [], alts := [], laidByText := true, laidKinds := [.data], laidTests := true, laidLooks := .later }
def CompileNearUptoCardSaid : Prop := Claim7.holds Tryd.pinned (.plain (OpenSpec.upto compileNearSpec)) compileNearUptoCard

/-- THE SECOND FORM's CARD OF 'commutatorlaw15.CompileCells'. -/
def compileCellsUptoCard : Claim7 := { stood := { row := compileCellsUptoRow, standIns := [], harness := (true, "01add0c9c9bfc198abe3cb869df26a2f98112188c10b66011af3476e33b567fc"), looks := true }, kinds := [], alts := [], laidByText := true, laidKinds := [.data], laidTests := true, laidLooks := .later }
def CompileCellsUptoCardSaid : Prop := Claim7.holds Tryd.pinned (.plain (OpenSpec.upto compileCellsSpec)) compileCellsUptoCard

/-- THE SECOND FORM's CARD OF 'commutatorlaw15.CompileWhole'. -/
def compileWholeUptoCard : Claim7 := { stood := { row := compileWholeUptoRow, standIns := [], harness := (true, "01add0c9c9bfc198abe3cb869df26a2f98112188c10b66011af3476e33b567fc"), looks := true }, kinds := [], alts := [], laidByText := true, laidKinds := [.data], laidTests := true, laidLooks := .later }
def CompileWholeUptoCardSaid : Prop := Claim7.holds Tryd.pinned (.plain (OpenSpec.upto compileWholeSpec)) compileWholeUptoCard
end Rows
end Go.Proofs.YtjlocofimlgaoaaDoor
