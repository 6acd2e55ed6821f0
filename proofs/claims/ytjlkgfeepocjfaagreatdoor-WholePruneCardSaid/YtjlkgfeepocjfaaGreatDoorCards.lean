/-
  DERIVED. GIVEN WITH THE SEED: THE CARDS: each row of YtjlkgfeepocjfaaGreatDoorRows.lean that lists a variable, with what it lists TIED to the program's text (the seventh form; the later family's looks); each row that meets fmt, with fmt's text TOLD by the authors' own Lean function (tested against real Go, not proved from fmt's source: count such statements apart). THE CARD IS WHAT COUNTS. Prove the row's statement (the work); the ties are given (YtjlkgfeepocjfaaGreatDoorTie.lean); close each card by the builder's one call (the guide's Derived/Test/ToyasCard.lean, 'card_holds'). Laid BY PROGRAM, IN A SANDBOX (cutbox-door.mjs). By AI agents, Wed Nov 11 2026. No macro, syntax, notation, axiom, sorry.
-/
import Derived.Test.YtjlkgfeepocjfaaGreatDoorRows
import GoSem.ClaimSeven
namespace Go.Proofs.YtjlkgfeepocjfaaGreatDoor
namespace Rows

/-- THE TIED CARD OF 'commutatortop.WholePrune'. -/
def wholePruneCard : Claim7 := { stood := { row := wholePruneRow, standIns := [], harness := (true, "e6d423063e2ea1194e073ba9afc31cde4ffec2a5c83ae16a17046bf03ee82923"), looks := true }, kinds := [], alts := [], laidByText := true, laidKinds := [.data], laidTests := true, laidLooks := .later }
def WholePruneCardSaid : Prop := Claim7.holds Tryz.pinned (.plain (OpenSpec.ofChange wholePruneSpec)) wholePruneCard

/-- THE TIED CARD OF 'commutatorlaw16.CertificateMakes'. -/
def certificateMakesCard : Claim7 := { stood := { row := certificateMakesRow, standIns := [], harness := (true, "e6d423063e2ea1194e073ba9afc31cde4ffec2a5c83ae16a17046bf03ee82923"), looks := true }, kinds := [], alts := [], laidByText := true, laidKinds := [.data], laidTests := true, laidLooks := .later }
def CertificateMakesCardSaid : Prop := Claim7.holds Tryz.pinned (.plain (OpenSpec.ofChange certificateMakesSpec)) certificateMakesCard

/-- THE SECOND FORM's CARD OF 'commutatortop.WholePrune'. -/
def wholePruneUptoCard : Claim7 := { stood := { row := wholePruneUptoRow, standIns := [], harness := (true, "e6d423063e2ea1194e073ba9afc31cde4ffec2a5c83ae16a17046bf03ee82923"), looks := true }, kinds := [], alts := [], laidByText := true, laidKinds := [.data], laidTests := true, laidLooks := .later }
def WholePruneUptoCardSaid : Prop := Claim7.holds Tryz.pinned (.plain (OpenSpec.upto wholePruneSpec)) wholePruneUptoCard

/-- THE SECOND FORM's CARD OF 'commutatorlaw16.CertificateMakes'. -/
def certificateMakesUptoCard : Claim7 := { stood := { row := certificateMakesUptoRow, standIns := [], harness := (true, "e6d423063e2ea1194e073ba9afc31cde4ffec2a5c83ae16a17046bf03ee82923"), looks := true }, kinds := [], alts := [], laidByText := true, laidKinds := [.data], laidTests := true, laidLooks := .later }
def CertificateMakesUptoCardSaid : Prop := Claim7.holds Tryz.pinned (.plain (OpenSpec.upto certificateMakesSpec)) certificateMakesUptoCard
end Rows
end Go.Proofs.YtjlkgfeepocjfaaGreatDoor
