/-
  DERIVED. GIVEN WITH THE SEED: THE CARDS: each row of YtfooonellkgaeaaDoorRows.lean that lists a variable, with what it lists TIED to the program's text (the seventh form; the later family's looks); each row that meets fmt, with fmt's text TOLD by the authors' own Lean function (tested against real Go, not proved from fmt's source: count such statements apart). THE CARD IS WHAT COUNTS. Prove the row's statement (the work); the ties are given (YtfooonellkgaeaaDoorTie.lean); close each card by the builder's one call (the guide's Derived/Test/ToyasCard.lean, 'card_holds'). Laid BY PROGRAM, IN A SANDBOX (cutbox-door.mjs). By AI agents, Wed Nov 11 2026. No macro, syntax, notation, axiom, sorry.
-/
import Derived.Test.YtfooonellkgaeaaDoorRows
import GoSem.ClaimSeven
namespace Go.Proofs.YtfooonellkgaeaaDoor
namespace Rows

/-- THE TIED CARD OF 'commutatorlaw11.ExactValues'. -/
def exactValuesCard : Claim7 := { stood := { row := exactValuesRow, standIns := [], harness := (true, "b37620059cb9cbce9a96b1cef21999fd5730b440cf5ac2fac6883bebb95c0210"), looks := true }, kinds := [], alts := [], laidByText := true, laidKinds := [.data], laidTests := true, laidLooks := .later }
def ExactValuesCardSaid : Prop := Claim7.holds Tryd.pinned (.plain (OpenSpec.ofChange exactValuesSpec)) exactValuesCard

/-- THE TIED CARD OF 'commutatorlaw11.ExactSteps'. -/
def exactStepsCard : Claim7 := { stood := { row := exactStepsRow, standIns := [], harness := (true, "b37620059cb9cbce9a96b1cef21999fd5730b440cf5ac2fac6883bebb95c0210"), looks := true }, kinds := [], alts := [], laidByText := true, laidKinds := [.data], laidTests := true, laidLooks := .later }
def ExactStepsCardSaid : Prop := Claim7.holds Tryd.pinned (.plain (OpenSpec.ofChange exactStepsSpec)) exactStepsCard

/-- THE TIED CARD OF 'commutatorlaw11.ExactRuns'. -/
def exactRunsCard : Claim7 := { stood := { row := exactRunsRow, standIns := [], harness := (true, "b37620059cb9cbce9a96b1cef21999fd5730b440cf5ac2fac6883bebb95c0210"), looks := true }, kinds := [], alts := [], laidByText := true, laidKinds := [.data], laidTests := true, laidLooks := .later }
def ExactRunsCardSaid : Prop := Claim7.holds Tryd.pinned (.plain (OpenSpec.ofChange exactRunsSpec)) exactRunsCard

/-- THE TIED CARD OF 'commutatorlaw11.ExactHolds'. -/
def exactHoldsCard : Claim7 := { stood := { row := exactHoldsRow, standIns := [], harness := (true, "b37620059cb9cbce9a96b1cef21999fd5730b440cf5ac2fac6883bebb95c0210"), looks := true }, kinds := [], alts := [], laidByText := true, laidKinds := [.data], laidTests := true, laidLooks := .later }
def ExactHoldsCardSaid : Prop := Claim7.holds Tryd.pinned (.plain (OpenSpec.ofChange exactHoldsSpec)) exactHoldsCard

/-- THE TIED CARD OF 'commutatorlaw11.ExactAffine'. -/
def exactAffineCard : Claim7 := { stood := { row := exactAffineRow, standIns := [], harness := (true, "b37620059cb9cbce9a96b1cef21999fd5730b440cf5ac2fac6883bebb95c0210"), looks := true }, kinds := [], alts := [], laidByText := true, laidKinds := [.data], laidTests := true, laidLooks := .later }
def ExactAffineCardSaid : Prop := Claim7.holds Tryd.pinned (.plain (OpenSpec.ofChange exactAffineSpec)) exactAffineCard

/-- THE TIED CARD OF 'commutatorlaw11.ExactPruned'. -/
def exactPrunedCard : Claim7 := { stood := { row := exactPrunedRow, standIns := [], harness := (true, "b37620059cb9cbce9a96b1cef21999fd5730b440cf5ac2fac6883bebb95c0210"), looks := true }, kinds := [], alts := [], laidByText := true, laidKinds := [.data], laidTests := true, laidLooks := .later }
def ExactPrunedCardSaid : Prop := Claim7.holds Tryd.pinned (.plain (OpenSpec.ofChange exactPrunedSpec)) exactPrunedCard

/-- THE SECOND FORM's CARD OF 'commutatorlaw11.ExactValues'. -/
def exactValuesUptoCard : Claim7 := { stood := { row := exactValuesUptoRow, standIns := [], harness := (true, "b37620059cb9cbce9a96b1cef21999fd5730b440cf5ac2fac6883bebb95c0210"), looks := true }, kinds := [], alts := [], laidByText := true, laidKinds := [.data], laidTests := true, laidLooks := .later }
def ExactValuesUptoCardSaid : Prop := Claim7.holds Tryd.pinned (.plain (OpenSpec.upto exactValuesSpec)) exactValuesUptoCard

/-- THE SECOND FORM's CARD OF 'commutatorlaw11.ExactSteps'. -/
def exactStepsUptoCard : Claim7 := { stood := { row := exactStepsUptoRow, standIns := [], harness := (true, "b37620059cb9cbce9a96b1cef21999fd5730b440cf5ac2fac6883bebb95c0210"), looks := true }, kinds := [], alts := [], laidByText := true, laidKinds := [.data], laidTests := true, laidLooks := .later }
def ExactStepsUptoCardSaid : Prop := Claim7.holds Tryd.pinned (.plain (OpenSpec.upto exactStepsSpec)) exactStepsUptoCard

/-- THE SECOND FORM's CARD OF 'commutatorlaw11.ExactRuns'. -/
def exactRunsUptoCard : Claim7 := { stood := { row := exactRunsUptoRow, standIns := [], harness := (true, "b37620059cb9cbce9a96b1cef21999fd5730b440cf5ac2fac6883bebb95c0210"), looks := true }, kinds := [], alts := [], laidByText := true, laidKinds := [.data], laidTests := true, laidLooks := .later }
def ExactRunsUptoCardSaid : Prop := Claim7.holds Tryd.pinned (.plain (OpenSpec.upto exactRunsSpec)) exactRunsUptoCard

/-- THE SECOND FORM's CARD OF 'commutatorlaw11.ExactHolds'. -/
def exactHoldsUptoCard : Claim7 := { stood := { row := exactHoldsUptoRow, standIns := [], harness := (true, "b37620059cb9cbce9a96b1cef21999fd5730b440cf5ac2fac6883bebb95c0210"), looks := true }, kinds := [], alts := [], laidByText := true, laidKinds := [.data], laidTests := true, laidLooks := .later }
def ExactHoldsUptoCardSaid : Prop := Claim7.holds Tryd.pinned (.plain (OpenSpec.upto exactHoldsSpec)) exactHoldsUptoCard

/-- THE SECOND FORM's CARD OF 'commutatorlaw11.ExactAffine'. -/
def exactAffineUptoCard : Claim7 := { stood := { row := exactAffineUptoRow, standIns := [], harness := (true, "b37620059cb9cbce9a96b1cef21999fd5730b440cf5ac2fac6883bebb95c0210"), looks := true }, kinds := [], alts := [], laidByText := true, laidKinds := [.data], laidTests := true, laidLooks := .later }
def ExactAffineUptoCardSaid : Prop := Claim7.holds Tryd.pinned (.plain (OpenSpec.upto exactAffineSpec)) exactAffineUptoCard

/-- THE SECOND FORM's CARD OF 'commutatorlaw11.ExactPruned'. -/
def exactPrunedUptoCard : Claim7 := { stood := { row := exactPrunedUptoRow, standIns := [], harness := (true, "b37620059cb9cbce9a96b1cef21999fd5730b440cf5ac2fac6883bebb95c0210"), looks := true }, kinds := [], alts := [], laidByText := true, laidKinds := [.data], laidTests := true, laidLooks := .later }
def ExactPrunedUptoCardSaid : Prop := Claim7.holds Tryd.pinned (.plain (OpenSpec.upto exactPrunedSpec)) exactPrunedUptoCard
end Rows
end Go.Proofs.YtfooonellkgaeaaDoor
