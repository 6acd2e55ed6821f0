/-
  DERIVED. GIVEN WITH THE SEED: THE CARDS: each row of YtilbehepmkpdbaaGreatDoorRows.lean that lists a variable, with what it lists TIED to the program's text (the seventh form; the later family's looks); each row that meets fmt, with fmt's text TOLD by the authors' own Lean function (tested against real Go, not proved from fmt's source: count such statements apart). THE CARD IS WHAT COUNTS. Prove the row's statement (the work); the ties are given (YtilbehepmkpdbaaGreatDoorTie.lean); close each card by the builder's one call (the guide's Derived/Test/ToyasCard.lean, 'card_holds'). Laid BY PROGRAM, IN A SANDBOX (cutbox-door.mjs). By AI agents, Wed Nov 11 2026. No macro, syntax, notation, axiom, sorry.
-/
import Derived.Test.YtilbehepmkpdbaaGreatDoorRows
import GoSem.ClaimSeven
namespace Go.Proofs.YtilbehepmkpdbaaGreatDoor
namespace Rows

/-- THE TIED CARD OF 'commutatorlaw12.RangesEvaluate'. -/
def rangesEvaluateCard : Claim7 := { stood := { row := rangesEvaluateRow, standIns := [], harness := (true, "53108648810b8a68fd825fb6b76142e3d7bbbc47fb9158463fe9ab25238d9b88"), looks := true }, kinds := [], alts := [], laidByText := true, laidKinds := [.data], laidTests := true, laidLooks := .later }
def RangesEvaluateCardSaid : Prop := Claim7.holds Tryz.pinned (.plain (OpenSpec.ofChange rangesEvaluateSpec)) rangesEvaluateCard

/-- THE TIED CARD OF 'commutatorlaw12.RangesHold'. -/
def rangesHoldCard : Claim7 := { stood := { row := rangesHoldRow, standIns := [], harness := (true, "53108648810b8a68fd825fb6b76142e3d7bbbc47fb9158463fe9ab25238d9b88"), looks := true }, kinds := [], alts := [], laidByText := true, laidKinds := [.data], laidTests := true, laidLooks := .later }
def RangesHoldCardSaid : Prop := Claim7.holds Tryz.pinned (.plain (OpenSpec.ofChange rangesHoldSpec)) rangesHoldCard

/-- THE TIED CARD OF 'commutatorlaw12.RangesWiden'. -/
def rangesWidenCard : Claim7 := { stood := { row := rangesWidenRow, standIns := [], harness := (true, "53108648810b8a68fd825fb6b76142e3d7bbbc47fb9158463fe9ab25238d9b88"), looks := true }, kinds := [], alts := [], laidByText := true, laidKinds := [.data], laidTests := true, laidLooks := .later }
def RangesWidenCardSaid : Prop := Claim7.holds Tryz.pinned (.plain (OpenSpec.ofChange rangesWidenSpec)) rangesWidenCard

/-- THE TIED CARD OF 'commutatorlaw12.RangesLocal'. -/
def rangesLocalCard : Claim7 := { stood := { row := rangesLocalRow, standIns := [], harness := (true, "53108648810b8a68fd825fb6b76142e3d7bbbc47fb9158463fe9ab25238d9b88"), looks := true }, kinds := [], alts := [], laidByText := true, laidKinds := [.data], laidTests := true, laidLooks := .later }
def RangesLocalCardSaid : Prop := Claim7.holds Tryz.pinned (.plain (OpenSpec.ofChange rangesLocalSpec)) rangesLocalCard

/-- THE TIED CARD OF 'commutatorlaw12.RangesContain'. -/
def rangesContainCard : Claim7 := { stood := { row := rangesContainRow, standIns := [], harness := (true, "53108648810b8a68fd825fb6b76142e3d7bbbc47fb9158463fe9ab25238d9b88"), looks := true }, kinds := [], alts := [], laidByText := true, laidKinds := [.data], laidTests := true, laidLooks := .later }
def RangesContainCardSaid : Prop := Claim7.holds Tryz.pinned (.plain (OpenSpec.ofChange rangesContainSpec)) rangesContainCard

/-- THE TIED CARD OF 'commutatorlaw12.RangesKeep'. -/
def rangesKeepCard : Claim7 := { stood := { row := rangesKeepRow, standIns := [], harness := (true, "53108648810b8a68fd825fb6b76142e3d7bbbc47fb9158463fe9ab25238d9b88"), looks := true }, kinds := [], alts := [], laidByText := true, laidKinds := [.data], laidTests := true, laidLooks := .later }
def RangesKeepCardSaid : Prop := Claim7.holds Tryz.pinned (.plain (OpenSpec.ofChange rangesKeepSpec)) rangesKeepCard

/-- THE SECOND FORM's CARD OF 'commutatorlaw12.RangesEvaluate'. -/
def rangesEvaluateUptoCard : Claim7 := { stood := { row := rangesEvaluateUptoRow, standIns := [], harness := (true, "53108648810b8a68fd825fb6b76142e3d7bbbc47fb9158463fe9ab25238d9b88"), looks := true }, kinds := [], alts := [], laidByText := true, laidKinds := [.data], laidTests := true, laidLooks := .later }
def RangesEvaluateUptoCardSaid : Prop := Claim7.holds Tryz.pinned (.plain (OpenSpec.upto rangesEvaluateSpec)) rangesEvaluateUptoCard

/-- THE SECOND FORM's CARD OF 'commutatorlaw12.RangesHold'. -/
def rangesHoldUptoCard : Claim7 := { stood := { row := rangesHoldUptoRow, standIns := [], harness := (true, "53108648810b8a68fd825fb6b76142e3d7bbbc47fb9158463fe9ab25238d9b88"), looks := true }, kinds := [], alts := [], laidByText := true, laidKinds := [.data], laidTests := true, laidLooks := .later }
def RangesHoldUptoCardSaid : Prop := Claim7.holds Tryz.pinned (.plain (OpenSpec.upto rangesHoldSpec)) rangesHoldUptoCard

/-- THE SECOND FORM's CARD OF 'commutatorlaw12.RangesWiden'. -/
def rangesWidenUptoCard : Claim7 := { stood := { row := rangesWidenUptoRow, standIns := [], harness := (true, "53108648810b8a68fd825fb6b76142e3d7bbbc47fb9158463fe9ab25238d9b88"), looks := true }, kinds := [], alts := [], laidByText := true, laidKinds := [.data], laidTests := true, laidLooks := .later }
def RangesWidenUptoCardSaid : Prop := Claim7.holds Tryz.pinned (.plain (OpenSpec.upto rangesWidenSpec)) rangesWidenUptoCard

/-- THE SECOND FORM's CARD OF 'commutatorlaw12.RangesLocal'. -/
def rangesLocalUptoCard : Claim7 := { stood := { row := rangesLocalUptoRow, standIns := [], harness := (true, "53108648810b8a68fd825fb6b76142e3d7bbbc47fb9158463fe9ab25238d9b88"), looks := true }, kinds := [], alts := [], laidByText := true, laidKinds := [.data], laidTests := true, laidLooks := .later }
def RangesLocalUptoCardSaid : Prop := Claim7.holds Tryz.pinned (.plain (OpenSpec.upto rangesLocalSpec)) rangesLocalUptoCard

/-- THE SECOND FORM's CARD OF 'commutatorlaw12.RangesContain'. -/
def rangesContainUptoCard : Claim7 := { stood := { row := rangesContainUptoRow, standIns := [], harness := (true, "53108648810b8a68fd825fb6b76142e3d7bbbc47fb9158463fe9ab25238d9b88"), looks := true }, kinds := [], alts := [], laidByText := true, laidKinds := [.data], laidTests := true, laidLooks := .later }
def RangesContainUptoCardSaid : Prop := Claim7.holds Tryz.pinned (.plain (OpenSpec.upto rangesContainSpec)) rangesContainUptoCard

/-- THE SECOND FORM's CARD OF 'commutatorlaw12.RangesKeep'. -/
def rangesKeepUptoCard : Claim7 := { stood := { row := rangesKeepUptoRow, standIns := [], harness := (true, "53108648810b8a68fd825fb6b76142e3d7bbbc47fb9158463fe9ab25238d9b88"), looks := true }, kinds := [], alts := [], laidByText := true, laidKinds := [.data], laidTests := true, laidLooks := .later }
def RangesKeepUptoCardSaid : Prop := Claim7.holds Tryz.pinned (.plain (OpenSpec.upto rangesKeepSpec)) rangesKeepUptoCard
end Rows
end Go.Proofs.YtilbehepmkpdbaaGreatDoor
