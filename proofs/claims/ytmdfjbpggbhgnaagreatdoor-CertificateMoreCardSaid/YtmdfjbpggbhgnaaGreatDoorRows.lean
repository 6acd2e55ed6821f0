/-
  NARROWER THAN 'FOR EVERY INPUT', by the rows' own cells (each row's printed sentence says how): WholePrune: laid · WholeHorizon: laid · HorizonTrusts: laid · CertificateMakes: laid · CertificateAccepts: laid · CertificateMore: laid · CertificateTrusts: laid · CertificateHolds: laid.
  DERIVED. THE GIVEN ROWS OF THIS SEAT. 8 by the template 'for every input the law returns true; each argument reads behind the call as it read before'; 0 by the template 'total and deterministic' (their statements: YtmdfjbpggbhgnaaGreatDoorTotals.lean).
  GIVEN WITH THE SEED: the statements are not yours to turn. If you find one false, say at which input.
  Laid BY PROGRAM, IN A SANDBOX (cutbox-rows.mjs): the forced cells as the released guide's own fill.sh prints them over the translation d8a9bb5c9645b147… (all of the seat's roots in one cut). By AI agents, Wed Nov 11 2026. No macro, syntax, notation, axiom, sorry.
-/
import Derived.Test.YtmdfjbpggbhgnaaGreatDoorChecked
import GoSem.Claim
import GoSem.ClaimJoined
import GoSem.ClaimMapViews
import Derived.JoinedTies
import Derived.KernelRfl
namespace Go.Proofs.YtmdfjbpggbhgnaaGreatDoor
/- THE CELL 'sum', in the pinned program and in every row, IS THE sha256 OF THE DUMP (.gsa) THAT YtmdfjbpggbhgnaaGreatDoorProg.lean LOADS. Nothing in Lean hashes anything: it is a label: what it is worth is what the hold of that sum in a sandbox is worth. -/
noncomputable def Tryz.pinned : Pinned := { name := "ytmdfjbpggbhgnaagreatdoor", sum := "d8a9bb5c9645b147ca92ce2ed79260ac4dd246f284ebae33c3bd2a144e19a098", checked := Tryz.checked }
namespace Rows
def none {H : Type} : Left H := { results := [], args := [] }

/- WHAT THE LISTED PACKAGE-LEVEL VARIABLES READ AS WHEN THE CALL BEGINS. Each datum BY PROGRAM (the guide's laid-datum.mjs) off the statement by which the dump's own 'gosem.cut.vars' lays the variable. In a bare row this is a premise. The card (YtmdfjbpggbhgnaaGreatDoorCards.lean) ties it to the program's text. -/
def laid_math_bits_deBruijn32tab {H : Type} : DataW H := .agg [.lit (.int .u8 0), .lit (.int .u8 1), .lit (.int .u8 28), .lit (.int .u8 2), .lit (.int .u8 29), .lit (.int .u8 14), .lit (.int .u8 24), .lit (.int .u8 3), .lit (.int .u8 30), .lit (.int .u8 22), .lit (.int .u8 20), .lit (.int .u8 15), .lit (.int .u8 25), .lit (.int .u8 17), .lit (.int .u8 4), .lit (.int .u8 8), .lit (.int .u8 31), .lit (.int .u8 27), .lit (.int .u8 13), .lit (.int .u8 23), .lit (.int .u8 21), .lit (.int .u8 19), .lit (.int .u8 16), .lit (.int .u8 7), .lit (.int .u8 26), .lit (.int .u8 12), .lit (.int .u8 18), .lit (.int .u8 6), .lit (.int .u8 11), .lit (.int .u8 5), .lit (.int .u8 10), .lit (.int .u8 9)]

/-- 'commutatortop.WholePrune': WHATEVER THE INPUT: true; the input reads as it did. -/
def wholePruneSpec : ChangeSpec := { name := "wholePrune", fn := fun _ => fun
  | [d1, d2, d3] => { results := [.lit (.bool true)], args := [d1, d2, d3] }
  | _ => none }
def wholePruneRow : OpenClaim := { program := "ytmdfjbpggbhgnaagreatdoor", sum := "d8a9bb5c9645b147ca92ce2ed79260ac4dd246f284ebae33c3bd2a144e19a098", func := "commutator/commutatortop.WholePrune", spec := "wholePrune", unfollowed := true, recurses := true, named := ["math/bits.deBruijn32tab"], apart := false, laid := [("math/bits.deBruijn32tab", laid_math_bits_deBruijn32tab)] }
def WholePruneSaid : Prop := wholePruneRow.holds Tryz.pinned (OpenSpec.ofChange wholePruneSpec)

/-- ITS FALSE NEIGHBOUR: 'it returns false'. Refute it at one input. -/
def wholePruneWrong : ChangeSpec := { name := "wholePrune", fn := fun _ => fun
  | [d1, d2, d3] => { results := [.lit (.bool false)], args := [d1, d2, d3] }
  | _ => none }
def WholePruneWrongFalsely : Prop := wholePruneRow.holds Tryz.pinned (OpenSpec.ofChange wholePruneWrong)

/-- 'commutatortop.WholeHorizon': WHATEVER THE INPUT: true; the input reads as it did. -/
def wholeHorizonSpec : ChangeSpec := { name := "wholeHorizon", fn := fun _ => fun
  | [d1, d2, d3] => { results := [.lit (.bool true)], args := [d1, d2, d3] }
  | _ => none }
def wholeHorizonRow : OpenClaim := { program := "ytmdfjbpggbhgnaagreatdoor", sum := "d8a9bb5c9645b147ca92ce2ed79260ac4dd246f284ebae33c3bd2a144e19a098", func := "commutator/commutatortop.WholeHorizon", spec := "wholeHorizon", unfollowed := true, recurses := true, named := ["math/bits.deBruijn32tab"], apart := false, laid := [("math/bits.deBruijn32tab", laid_math_bits_deBruijn32tab)] }
def WholeHorizonSaid : Prop := wholeHorizonRow.holds Tryz.pinned (OpenSpec.ofChange wholeHorizonSpec)

/-- ITS FALSE NEIGHBOUR: 'it returns false'. Refute it at one input. -/
def wholeHorizonWrong : ChangeSpec := { name := "wholeHorizon", fn := fun _ => fun
  | [d1, d2, d3] => { results := [.lit (.bool false)], args := [d1, d2, d3] }
  | _ => none }
def WholeHorizonWrongFalsely : Prop := wholeHorizonRow.holds Tryz.pinned (OpenSpec.ofChange wholeHorizonWrong)

/-- 'commutatorlaw17.HorizonTrusts': WHATEVER THE INPUT: true; the input reads as it did. -/
def horizonTrustsSpec : ChangeSpec := { name := "horizonTrusts", fn := fun _ => fun
  | [d1, d2, d3] => { results := [.lit (.bool true)], args := [d1, d2, d3] }
  | _ => none }
def horizonTrustsRow : OpenClaim := { program := "ytmdfjbpggbhgnaagreatdoor", sum := "d8a9bb5c9645b147ca92ce2ed79260ac4dd246f284ebae33c3bd2a144e19a098", func := "commutator/commutatorlaw17.HorizonTrusts", spec := "horizonTrusts", unfollowed := true, recurses := true, named := ["math/bits.deBruijn32tab"], apart := false, laid := [("math/bits.deBruijn32tab", laid_math_bits_deBruijn32tab)] }
def HorizonTrustsSaid : Prop := horizonTrustsRow.holds Tryz.pinned (OpenSpec.ofChange horizonTrustsSpec)

/-- ITS FALSE NEIGHBOUR: 'it returns false'. Refute it at one input. -/
def horizonTrustsWrong : ChangeSpec := { name := "horizonTrusts", fn := fun _ => fun
  | [d1, d2, d3] => { results := [.lit (.bool false)], args := [d1, d2, d3] }
  | _ => none }
def HorizonTrustsWrongFalsely : Prop := horizonTrustsRow.holds Tryz.pinned (OpenSpec.ofChange horizonTrustsWrong)

/-- 'commutatorlaw16.CertificateMakes': WHATEVER THE INPUT: true; the input reads as it did. -/
def certificateMakesSpec : ChangeSpec := { name := "certificateMakes", fn := fun _ => fun
  | [d1, d2] => { results := [.lit (.bool true)], args := [d1, d2] }
  | _ => none }
def certificateMakesRow : OpenClaim := { program := "ytmdfjbpggbhgnaagreatdoor", sum := "d8a9bb5c9645b147ca92ce2ed79260ac4dd246f284ebae33c3bd2a144e19a098", func := "commutator/commutatorlaw16.CertificateMakes", spec := "certificateMakes", unfollowed := true, recurses := true, named := ["math/bits.deBruijn32tab"], apart := false, laid := [("math/bits.deBruijn32tab", laid_math_bits_deBruijn32tab)] }
def CertificateMakesSaid : Prop := certificateMakesRow.holds Tryz.pinned (OpenSpec.ofChange certificateMakesSpec)

/-- ITS FALSE NEIGHBOUR: 'it returns false'. Refute it at one input. -/
def certificateMakesWrong : ChangeSpec := { name := "certificateMakes", fn := fun _ => fun
  | [d1, d2] => { results := [.lit (.bool false)], args := [d1, d2] }
  | _ => none }
def CertificateMakesWrongFalsely : Prop := certificateMakesRow.holds Tryz.pinned (OpenSpec.ofChange certificateMakesWrong)

/-- 'commutatorlaw16.CertificateAccepts': WHATEVER THE INPUT: true; the input reads as it did. -/
def certificateAcceptsSpec : ChangeSpec := { name := "certificateAccepts", fn := fun _ => fun
  | [d1, d2] => { results := [.lit (.bool true)], args := [d1, d2] }
  | _ => none }
def certificateAcceptsRow : OpenClaim := { program := "ytmdfjbpggbhgnaagreatdoor", sum := "d8a9bb5c9645b147ca92ce2ed79260ac4dd246f284ebae33c3bd2a144e19a098", func := "commutator/commutatorlaw16.CertificateAccepts", spec := "certificateAccepts", unfollowed := true, recurses := true, named := ["math/bits.deBruijn32tab"], apart := false, laid := [("math/bits.deBruijn32tab", laid_math_bits_deBruijn32tab)] }
def CertificateAcceptsSaid : Prop := certificateAcceptsRow.holds Tryz.pinned (OpenSpec.ofChange certificateAcceptsSpec)

/-- ITS FALSE NEIGHBOUR: 'it returns false'. Refute it at one input. -/
def certificateAcceptsWrong : ChangeSpec := { name := "certificateAccepts", fn := fun _ => fun
  | [d1, d2] => { results := [.lit (.bool false)], args := [d1, d2] }
  | _ => none }
def CertificateAcceptsWrongFalsely : Prop := certificateAcceptsRow.holds Tryz.pinned (OpenSpec.ofChange certificateAcceptsWrong)

/-- 'commutatorlaw16.CertificateMore': WHATEVER THE INPUT: true; the input reads as it did. -/
def certificateMoreSpec : ChangeSpec := { name := "certificateMore", fn := fun _ => fun
  | [d1, d2, d3] => { results := [.lit (.bool true)], args := [d1, d2, d3] }
  | _ => none }
def certificateMoreRow : OpenClaim := { program := "ytmdfjbpggbhgnaagreatdoor", sum := "d8a9bb5c9645b147ca92ce2ed79260ac4dd246f284ebae33c3bd2a144e19a098", func := "commutator/commutatorlaw16.CertificateMore", spec := "certificateMore", unfollowed := true, recurses := true, named := ["math/bits.deBruijn32tab"], apart := false, laid := [("math/bits.deBruijn32tab", laid_math_bits_deBruijn32tab)] }
def CertificateMoreSaid : Prop := certificateMoreRow.holds Tryz.pinned (OpenSpec.ofChange certificateMoreSpec)

/-- ITS FALSE NEIGHBOUR: 'it returns false'. Refute it at one input. -/
def certificateMoreWrong : ChangeSpec := { name := "certificateMore", fn := fun _ => fun
  | [d1, d2, d3] => { results := [.lit (.bool false)], args := [d1, d2, d3] }
  | _ => none }
def CertificateMoreWrongFalsely : Prop := certificateMoreRow.holds Tryz.pinned (OpenSpec.ofChange certificateMoreWrong)

/-- 'commutatorlaw16.CertificateTrusts': WHATEVER THE INPUT: true; the input reads as it did. -/
def certificateTrustsSpec : ChangeSpec := { name := "certificateTrusts", fn := fun _ => fun
  | [d1, d2, d3] => { results := [.lit (.bool true)], args := [d1, d2, d3] }
  | _ => none }
def certificateTrustsRow : OpenClaim := { program := "ytmdfjbpggbhgnaagreatdoor", sum := "d8a9bb5c9645b147ca92ce2ed79260ac4dd246f284ebae33c3bd2a144e19a098", func := "commutator/commutatorlaw16.CertificateTrusts", spec := "certificateTrusts", unfollowed := true, recurses := true, named := ["math/bits.deBruijn32tab"], apart := false, laid := [("math/bits.deBruijn32tab", laid_math_bits_deBruijn32tab)] }
def CertificateTrustsSaid : Prop := certificateTrustsRow.holds Tryz.pinned (OpenSpec.ofChange certificateTrustsSpec)

/-- ITS FALSE NEIGHBOUR: 'it returns false'. Refute it at one input. -/
def certificateTrustsWrong : ChangeSpec := { name := "certificateTrusts", fn := fun _ => fun
  | [d1, d2, d3] => { results := [.lit (.bool false)], args := [d1, d2, d3] }
  | _ => none }
def CertificateTrustsWrongFalsely : Prop := certificateTrustsRow.holds Tryz.pinned (OpenSpec.ofChange certificateTrustsWrong)

/-- 'commutatorlaw16.CertificateHolds': WHATEVER THE INPUT: true; the input reads as it did. -/
def certificateHoldsSpec : ChangeSpec := { name := "certificateHolds", fn := fun _ => fun
  | [d1, d2, d3] => { results := [.lit (.bool true)], args := [d1, d2, d3] }
  | _ => none }
def certificateHoldsRow : OpenClaim := { program := "ytmdfjbpggbhgnaagreatdoor", sum := "d8a9bb5c9645b147ca92ce2ed79260ac4dd246f284ebae33c3bd2a144e19a098", func := "commutator/commutatorlaw16.CertificateHolds", spec := "certificateHolds", unfollowed := true, recurses := true, named := ["math/bits.deBruijn32tab"], apart := false, laid := [("math/bits.deBruijn32tab", laid_math_bits_deBruijn32tab)] }
def CertificateHoldsSaid : Prop := certificateHoldsRow.holds Tryz.pinned (OpenSpec.ofChange certificateHoldsSpec)

/-- ITS FALSE NEIGHBOUR: 'it returns false'. Refute it at one input. -/
def certificateHoldsWrong : ChangeSpec := { name := "certificateHolds", fn := fun _ => fun
  | [d1, d2, d3] => { results := [.lit (.bool false)], args := [d1, d2, d3] }
  | _ => none }
def CertificateHoldsWrongFalsely : Prop := certificateHoldsRow.holds Tryz.pinned (OpenSpec.ofChange certificateHoldsWrong)

/- THE SECOND FORM. 'bulk': how many values and letters a reading holds, each counted each time it is reached (what is shared counts as often as it is met; a slice's spare places count too). A statement '..UptoSaid' is the law's where the arguments, and the package variables that the reading takes, are together of bulk at most 1048576: NARROWER than '..Said'. Prove '..Said' where nothing that the law and all that it calls make is longer than what came in: it says more and counts as full. Else prove '..UptoSaid'. A law counts once. -/
mutual
def uptoBulk {H : Type} : DataW H → Nat
  | .lit (.string bytes) => bytes.length + 1
  | .lit _ => 1
  | .nil => 1
  | .ptr d => uptoBulk d + 1
  | .slice elems spare => uptoBulkAll elems + uptoBulkAll spare + 1
  | .agg parts => uptoBulkAll parts + 1
  | .iface _ d => uptoBulk d + 1
  | .map entries => uptoBulkEntries entries + 1
  | .held _ => 1
def uptoBulkAll {H : Type} : List (DataW H) → Nat
  | [] => 0
  | d :: r => uptoBulk d + uptoBulkAll r
def uptoBulkEntries {H : Type} : List (Lit × DataW H) → Nat
  | [] => 0
  | x :: r => uptoBulkEntry x + uptoBulkEntries r
def uptoBulkEntry {H : Type} : Lit × DataW H → Nat
  | (.string bytes, d) => bytes.length + uptoBulk d + 1
  | (_, d) => uptoBulk d + 1
 end
def uptoSmall : (H : Type) → List (DataW H) → Bool := fun _ ds => decide (uptoBulkAll ds ≤ 1048576)
def OpenSpec.upto (s : _root_.Go.ChangeSpec) : _root_.Go.OpenSpec := { _root_.Go.OpenSpec.ofChange s with cond := some uptoSmall }

/-- 'commutatortop.WholePrune', WHERE WHAT IT READS IS OF BULK AT MOST 1048576: true; the input reads as it did. -/
def wholePruneUptoRow : OpenClaim := { program := "ytmdfjbpggbhgnaagreatdoor", sum := "d8a9bb5c9645b147ca92ce2ed79260ac4dd246f284ebae33c3bd2a144e19a098", func := "commutator/commutatortop.WholePrune", spec := "wholePrune", unfollowed := true, recurses := true, named := ["math/bits.deBruijn32tab"], apart := false, laid := [("math/bits.deBruijn32tab", laid_math_bits_deBruijn32tab)], narrowed := true }
def WholePruneUptoSaid : Prop := wholePruneUptoRow.holds Tryz.pinned (OpenSpec.upto wholePruneSpec)

/-- 'commutatortop.WholeHorizon', WHERE WHAT IT READS IS OF BULK AT MOST 1048576: true; the input reads as it did. -/
def wholeHorizonUptoRow : OpenClaim := { program := "ytmdfjbpggbhgnaagreatdoor", sum := "d8a9bb5c9645b147ca92ce2ed79260ac4dd246f284ebae33c3bd2a144e19a098", func := "commutator/commutatortop.WholeHorizon", spec := "wholeHorizon", unfollowed := true, recurses := true, named := ["math/bits.deBruijn32tab"], apart := false, laid := [("math/bits.deBruijn32tab", laid_math_bits_deBruijn32tab)], narrowed := true }
def WholeHorizonUptoSaid : Prop := wholeHorizonUptoRow.holds Tryz.pinned (OpenSpec.upto wholeHorizonSpec)

/-- 'commutatorlaw17.HorizonTrusts', WHERE WHAT IT READS IS OF BULK AT MOST 1048576: true; the input reads as it did. -/
def horizonTrustsUptoRow : OpenClaim := { program := "ytmdfjbpggbhgnaagreatdoor", sum := "d8a9bb5c9645b147ca92ce2ed79260ac4dd246f284ebae33c3bd2a144e19a098", func := "commutator/commutatorlaw17.HorizonTrusts", spec := "horizonTrusts", unfollowed := true, recurses := true, named := ["math/bits.deBruijn32tab"], apart := false, laid := [("math/bits.deBruijn32tab", laid_math_bits_deBruijn32tab)], narrowed := true }
def HorizonTrustsUptoSaid : Prop := horizonTrustsUptoRow.holds Tryz.pinned (OpenSpec.upto horizonTrustsSpec)

/-- 'commutatorlaw16.CertificateMakes', WHERE WHAT IT READS IS OF BULK AT MOST 1048576: true; the input reads as it did. -/
def certificateMakesUptoRow : OpenClaim := { program := "ytmdfjbpggbhgnaagreatdoor", sum := "d8a9bb5c9645b147ca92ce2ed79260ac4dd246f284ebae33c3bd2a144e19a098", func := "commutator/commutatorlaw16.CertificateMakes", spec := "certificateMakes", unfollowed := true, recurses := true, named := ["math/bits.deBruijn32tab"], apart := false, laid := [("math/bits.deBruijn32tab", laid_math_bits_deBruijn32tab)], narrowed := true }
def CertificateMakesUptoSaid : Prop := certificateMakesUptoRow.holds Tryz.pinned (OpenSpec.upto certificateMakesSpec)

/-- 'commutatorlaw16.CertificateAccepts', WHERE WHAT IT READS IS OF BULK AT MOST 1048576: true; the input reads as it did. -/
def certificateAcceptsUptoRow : OpenClaim := { program := "ytmdfjbpggbhgnaagreatdoor", sum := "d8a9bb5c9645b147ca92ce2ed79260ac4dd246f284ebae33c3bd2a144e19a098", func := "commutator/commutatorlaw16.CertificateAccepts", spec := "certificateAccepts", unfollowed := true, recurses := true, named := ["math/bits.deBruijn32tab"], apart := false, laid := [("math/bits.deBruijn32tab", laid_math_bits_deBruijn32tab)], narrowed := true }
def CertificateAcceptsUptoSaid : Prop := certificateAcceptsUptoRow.holds Tryz.pinned (OpenSpec.upto certificateAcceptsSpec)

/-- 'commutatorlaw16.CertificateMore', WHERE WHAT IT READS IS OF BULK AT MOST 1048576: true; the input reads as it did. -/
def certificateMoreUptoRow : OpenClaim := { program := "ytmdfjbpggbhgnaagreatdoor", sum := "d8a9bb5c9645b147ca92ce2ed79260ac4dd246f284ebae33c3bd2a144e19a098", func := "commutator/commutatorlaw16.CertificateMore", spec := "certificateMore", unfollowed := true, recurses := true, named := ["math/bits.deBruijn32tab"], apart := false, laid := [("math/bits.deBruijn32tab", laid_math_bits_deBruijn32tab)], narrowed := true }
def CertificateMoreUptoSaid : Prop := certificateMoreUptoRow.holds Tryz.pinned (OpenSpec.upto certificateMoreSpec)

/-- 'commutatorlaw16.CertificateTrusts', WHERE WHAT IT READS IS OF BULK AT MOST 1048576: true; the input reads as it did. -/
def certificateTrustsUptoRow : OpenClaim := { program := "ytmdfjbpggbhgnaagreatdoor", sum := "d8a9bb5c9645b147ca92ce2ed79260ac4dd246f284ebae33c3bd2a144e19a098", func := "commutator/commutatorlaw16.CertificateTrusts", spec := "certificateTrusts", unfollowed := true, recurses := true, named := ["math/bits.deBruijn32tab"], apart := false, laid := [("math/bits.deBruijn32tab", laid_math_bits_deBruijn32tab)], narrowed := true }
def CertificateTrustsUptoSaid : Prop := certificateTrustsUptoRow.holds Tryz.pinned (OpenSpec.upto certificateTrustsSpec)

/-- 'commutatorlaw16.CertificateHolds', WHERE WHAT IT READS IS OF BULK AT MOST 1048576: true; the input reads as it did. -/
def certificateHoldsUptoRow : OpenClaim := { program := "ytmdfjbpggbhgnaagreatdoor", sum := "d8a9bb5c9645b147ca92ce2ed79260ac4dd246f284ebae33c3bd2a144e19a098", func := "commutator/commutatorlaw16.CertificateHolds", spec := "certificateHolds", unfollowed := true, recurses := true, named := ["math/bits.deBruijn32tab"], apart := false, laid := [("math/bits.deBruijn32tab", laid_math_bits_deBruijn32tab)], narrowed := true }
def CertificateHoldsUptoSaid : Prop := certificateHoldsUptoRow.holds Tryz.pinned (OpenSpec.upto certificateHoldsSpec)

end Rows
end Go.Proofs.YtmdfjbpggbhgnaaGreatDoor
