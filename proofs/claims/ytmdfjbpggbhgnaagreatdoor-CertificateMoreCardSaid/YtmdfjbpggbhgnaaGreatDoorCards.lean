/-
  DERIVED. GIVEN WITH THE SEED: THE CARDS: each row of YtmdfjbpggbhgnaaGreatDoorRows.lean that lists a variable, with what it lists TIED to the program's text (the seventh form; the later family's looks); each row that meets fmt, with fmt's text TOLD by the authors' own Lean function (tested against real Go, not proved from fmt's source: count such statements apart). THE CARD IS WHAT COUNTS. Prove the row's statement (the work); the ties are given (YtmdfjbpggbhgnaaGreatDoorTie.lean); close each card by the builder's one call (the guide's Derived/Test/ToyasCard.lean, 'card_holds'). Laid BY PROGRAM, IN A SANDBOX (cutbox-door.mjs). By AI agents, Wed Nov 11 2026. No macro, syntax, notation, axiom, sorry.
-/
import Derived.Test.YtmdfjbpggbhgnaaGreatDoorRows
import GoSem.ClaimSeven
namespace Go.Proofs.YtmdfjbpggbhgnaaGreatDoor
namespace Rows

/-- THE TIED CARD OF 'commutatortop.WholePrune'. -/
def wholePruneCard : Claim7 := { stood := { row := wholePruneRow, standIns := [], harness := (true, "84e4f5157dc3677255f173f895fd04f405d20eee304d1722abbc57dece96271a"), looks := true }, kinds := [], alts := [], laidByText := true, laidKinds := [.data], laidTests := true, laidLooks := .later }
def WholePruneCardSaid : Prop := Claim7.holds Tryz.pinned (.plain (OpenSpec.ofChange wholePruneSpec)) wholePruneCard

/-- THE TIED CARD OF 'commutatortop.WholeHorizon'. -/
def wholeHorizonCard : Claim7 := { stood := { row := wholeHorizonRow, standIns := [], harness := (true, "84e4f5157dc3677255f173f895fd04f405d20eee304d1722abbc57dece96271a"), looks := true }, kinds := [], alts := [], laidByText := true, laidKinds := [.data], laidTests := true, laidLooks := .later }
def WholeHorizonCardSaid : Prop := Claim7.holds Tryz.pinned (.plain (OpenSpec.ofChange wholeHorizonSpec)) wholeHorizonCard

/-- THE TIED CARD OF 'commutatorlaw17.HorizonTrusts'. -/
def horizonTrustsCard : Claim7 := { stood := { row := horizonTrustsRow, standIns := [], harness := (true, "84e4f5157dc3677255f173f895fd04f405d20eee304d1722abbc57dece96271a"), looks := true }, kinds := [], alts := [], laidByText := true, laidKinds := [.data], laidTests := true, laidLooks := .later }
def HorizonTrustsCardSaid : Prop := Claim7.holds Tryz.pinned (.plain (OpenSpec.ofChange horizonTrustsSpec)) horizonTrustsCard

/-- THE TIED CARD OF 'commutatorlaw16.CertificateMakes'. -/
def certificateMakesCard : Claim7 := { stood := { row := certificateMakesRow, standIns := [], harness := (true, "84e4f5157dc3677255f173f895fd04f405d20eee304d1722abbc57dece96271a"), looks := true }, kinds := [], alts := [], laidByText := true, laidKinds := [.data], laidTests := true, laidLooks := .later }
def CertificateMakesCardSaid : Prop := Claim7.holds Tryz.pinned (.plain (OpenSpec.ofChange certificateMakesSpec)) certificateMakesCard

/-- THE TIED CARD OF 'commutatorlaw16.CertificateAccepts'. -/
def certificateAcceptsCard : Claim7 := { stood := { row := certificateAcceptsRow, standIns := [], harness := (true, "84e4f5157dc3677255f173f895fd04f405d20eee304d1722abbc57dece96271a"), looks := true }, kinds := [], alts := [], laidByText := true, laidKinds := [.data], laidTests := true, laidLooks := .later }
def CertificateAcceptsCardSaid : Prop := Claim7.holds Tryz.pinned (.plain (OpenSpec.ofChange certificateAcceptsSpec)) certificateAcceptsCard

/-- THE TIED CARD OF 'commutatorlaw16.CertificateMore'. -/
def certificateMoreCard : Claim7 := { stood := { row := certificateMoreRow, standIns := [], harness := (true, "84e4f5157dc3677255f173f895fd04f405d20eee304d1722abbc57dece96271a"), looks := true }, kinds := [], alts := [], laidByText := true, laidKinds := [.data], laidTests := true, laidLooks := .later }
def CertificateMoreCardSaid : Prop := Claim7.holds Tryz.pinned (.plain (OpenSpec.ofChange certificateMoreSpec)) certificateMoreCard

/-- THE TIED CARD OF 'commutatorlaw16.CertificateTrusts'. -/
def certificateTrustsCard : Claim7 := { stood := { row := certificateTrustsRow, standIns := [], harness := (true, "84e4f5157dc3677255f173f895fd04f405d20eee304d1722abbc57dece96271a"), looks := true }, kinds := [], alts := [], laidByText := true, laidKinds := [.data], laidTests := true, laidLooks := .later }
def CertificateTrustsCardSaid : Prop := Claim7.holds Tryz.pinned (.plain (OpenSpec.ofChange certificateTrustsSpec)) certificateTrustsCard

/-- THE TIED CARD OF 'commutatorlaw16.CertificateHolds'. -/
def certificateHoldsCard : Claim7 := { stood := { row := certificateHoldsRow, standIns := [], harness := (true, "84e4f5157dc3677255f173f895fd04f405d20eee304d1722abbc57dece96271a"), looks := true }, kinds := [], alts := [], laidByText := true, laidKinds := [.data], laidTests := true, laidLooks := .later }
def CertificateHoldsCardSaid : Prop := Claim7.holds Tryz.pinned (.plain (OpenSpec.ofChange certificateHoldsSpec)) certificateHoldsCard

/-- THE SECOND FORM's CARD OF 'commutatortop.WholePrune'. -/
def wholePruneUptoCard : Claim7 := { stood := { row := wholePruneUptoRow, standIns := [], harness := (true, "84e4f5157dc3677255f173f895fd04f405d20eee304d1722abbc57dece96271a"), looks := true }, kinds := [], alts := [], laidByText := true, laidKinds := [.data], laidTests := true, laidLooks := .later }
def WholePruneUptoCardSaid : Prop := Claim7.holds Tryz.pinned (.plain (OpenSpec.upto wholePruneSpec)) wholePruneUptoCard

/-- THE SECOND FORM's CARD OF 'commutatortop.WholeHorizon'. -/
def wholeHorizonUptoCard : Claim7 := { stood := { row := wholeHorizonUptoRow, standIns := [], harness := (true, "84e4f5157dc3677255f173f895fd04f405d20eee304d1722abbc57dece96271a"), looks := true }, kinds := [], alts := [], laidByText := true, laidKinds := [.data], laidTests := true, laidLooks := .later }
def WholeHorizonUptoCardSaid : Prop := Claim7.holds Tryz.pinned (.plain (OpenSpec.upto wholeHorizonSpec)) wholeHorizonUptoCard

/-- THE SECOND FORM's CARD OF 'commutatorlaw17.HorizonTrusts'. -/
def horizonTrustsUptoCard : Claim7 := { stood := { row := horizonTrustsUptoRow, standIns := [], harness := (true, "84e4f5157dc3677255f173f895fd04f405d20eee304d1722abbc57dece96271a"), looks := true }, kinds := [], alts := [], laidByText := true, laidKinds := [.data], laidTests := true, laidLooks := .later }
def HorizonTrustsUptoCardSaid : Prop := Claim7.holds Tryz.pinned (.plain (OpenSpec.upto horizonTrustsSpec)) horizonTrustsUptoCard

/-- THE SECOND FORM's CARD OF 'commutatorlaw16.CertificateMakes'. -/
def certificateMakesUptoCard : Claim7 := { stood := { row := certificateMakesUptoRow, standIns := [], harness := (true, "84e4f5157dc3677255f173f895fd04f405d20eee304d1722abbc57dece96271a"), looks := true }, kinds := [], alts := [], laidByText := true, laidKinds := [.data], laidTests := true, laidLooks := .later }
def CertificateMakesUptoCardSaid : Prop := Claim7.holds Tryz.pinned (.plain (OpenSpec.upto certificateMakesSpec)) certificateMakesUptoCard

/-- THE SECOND FORM's CARD OF 'commutatorlaw16.CertificateAccepts'. -/
def certificateAcceptsUptoCard : Claim7 := { stood := { row := certificateAcceptsUptoRow, standIns := [], harness := (true, "84e4f5157dc3677255f173f895fd04f405d20eee304d1722abbc57dece96271a"), looks := true }, kinds := [], alts := [], laidByText := true, laidKinds := [.data], laidTests := true, laidLooks := .later }
def CertificateAcceptsUptoCardSaid : Prop := Claim7.holds Tryz.pinned (.plain (OpenSpec.upto certificateAcceptsSpec)) certificateAcceptsUptoCard

/-- THE SECOND FORM's CARD OF 'commutatorlaw16.CertificateMore'. -/
def certificateMoreUptoCard : Claim7 := { stood := { row := certificateMoreUptoRow, standIns := [], harness := (true, "84e4f5157dc3677255f173f895fd04f405d20eee304d1722abbc57dece96271a"), looks := true }, kinds := [], alts := [], laidByText := true, laidKinds := [.data], laidTests := true, laidLooks := .later }
def CertificateMoreUptoCardSaid : Prop := Claim7.holds Tryz.pinned (.plain (OpenSpec.upto certificateMoreSpec)) certificateMoreUptoCard

/-- THE SECOND FORM's CARD OF 'commutatorlaw16.CertificateTrusts'. -/
def certificateTrustsUptoCard : Claim7 := { stood := { row := certificateTrustsUptoRow, standIns := [], harness := (true, "84e4f5157dc3677255f173f895fd04f405d20eee304d1722abbc57dece96271a"), looks := true }, kinds := [], alts := [], laidByText := true, laidKinds := [.data], laidTests := true, laidLooks := .later }
def CertificateTrustsUptoCardSaid : Prop := Claim7.holds Tryz.pinned (.plain (OpenSpec.upto certificateTrustsSpec)) certificateTrustsUptoCard

/-- THE SECOND FORM's CARD OF 'commutatorlaw16.CertificateHolds'. -/
def certificateHoldsUptoCard : Claim7 := { stood := { row := certificateHoldsUptoRow, standIns := [], harness := (true, "84e4f5157dc3677255f173f895fd04f405d20eee304d1722abbc57dece96271a"), looks := true }, kinds := [], alts := [], laidByText := true, laidKinds := [.data], laidTests := true, laidLooks := .later }
def CertificateHoldsUptoCardSaid : Prop := Claim7.holds Tryz.pinned (.plain (OpenSpec.upto certificateHoldsSpec)) certificateHoldsUptoCard
end Rows
end Go.Proofs.YtmdfjbpggbhgnaaGreatDoor
