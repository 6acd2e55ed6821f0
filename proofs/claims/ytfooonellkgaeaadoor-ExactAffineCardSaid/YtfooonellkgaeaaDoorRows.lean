/-
  NARROWER THAN 'FOR EVERY INPUT', by the rows' own cells (each row's printed sentence says how): ExactValues: laid · ExactSteps: laid · ExactRuns: laid · ExactHolds: laid · ExactAffine: laid · ExactPruned: laid.
  DERIVED. THE GIVEN ROWS OF THIS SEAT. 6 by the template 'for every input the law returns true; each argument reads behind the call as it read before'; 0 by the template 'total and deterministic' (their statements: YtfooonellkgaeaaDoorTotals.lean).
  GIVEN WITH THE SEED: the statements are not yours to turn. If you find one false, say at which input.
  Laid BY PROGRAM, IN A SANDBOX (cutbox-rows.mjs): the forced cells as the released guide's own fill.sh prints them over the translation 9336ce46ddce9389… (all of the seat's roots in one cut). By AI agents, Wed Nov 11 2026. No macro, syntax, notation, axiom, sorry.
-/
import Derived.Test.YtfooonellkgaeaaDoorChecked
import GoSem.Claim
import GoSem.ClaimJoined
import GoSem.ClaimMapViews
import Derived.JoinedTies
import Derived.KernelRfl
namespace Go.Proofs.YtfooonellkgaeaaDoor
/- THE CELL 'sum', in the pinned program and in every row, IS THE sha256 OF THE DUMP (.gsa) THAT YtfooonellkgaeaaDoorProg.lean LOADS. Nothing in Lean hashes anything: it is a label: what it is worth is what the hold of that sum in a sandbox is worth. -/
noncomputable def Tryd.pinned : Pinned := { name := "ytfooonellkgaeaadoor", sum := "9336ce46ddce9389078070de81442898005c916b46da74bd92686c488f25eadb", checked := Tryd.checked }
namespace Rows
def none {H : Type} : Left H := { results := [], args := [] }

/- WHAT THE LISTED PACKAGE-LEVEL VARIABLES READ AS WHEN THE CALL BEGINS. Each datum BY PROGRAM (the guide's laid-datum.mjs) off the statement by which the dump's own 'gosem.cut.vars' lays the variable. In a bare row this is a premise. The card (YtfooonellkgaeaaDoorCards.lean) ties it to the program's text. -/
def laid_math_bits_deBruijn32tab {H : Type} : DataW H := .agg [.lit (.int .u8 0), .lit (.int .u8 1), .lit (.int .u8 28), .lit (.int .u8 2), .lit (.int .u8 29), .lit (.int .u8 14), .lit (.int .u8 24), .lit (.int .u8 3), .lit (.int .u8 30), .lit (.int .u8 22), .lit (.int .u8 20), .lit (.int .u8 15), .lit (.int .u8 25), .lit (.int .u8 17), .lit (.int .u8 4), .lit (.int .u8 8), .lit (.int .u8 31), .lit (.int .u8 27), .lit (.int .u8 13), .lit (.int .u8 23), .lit (.int .u8 21), .lit (.int .u8 19), .lit (.int .u8 16), .lit (.int .u8 7), .lit (.int .u8 26), .lit (.int .u8 12), .lit (.int .u8 18), .lit (.int .u8 6), .lit (.int .u8 11), .lit (.int .u8 5), .lit (.int .u8 10), .lit (.int .u8 9)]

/-- 'commutatorlaw11.ExactValues': WHATEVER THE INPUT: true; the input reads as it did. -/
def exactValuesSpec : ChangeSpec := { name := "exactValues", fn := fun _ => fun
  | [d] => { results := [.lit (.bool true)], args := [d] }
  | _ => none }
def exactValuesRow : OpenClaim := { program := "ytfooonellkgaeaadoor", sum := "9336ce46ddce9389078070de81442898005c916b46da74bd92686c488f25eadb", func := "commutator/commutatorlaw11.ExactValues", spec := "exactValues", unfollowed := true, recurses := true, named := ["math/bits.deBruijn32tab"], apart := false, laid := [("math/bits.deBruijn32tab", laid_math_bits_deBruijn32tab)] }
def ExactValuesSaid : Prop := exactValuesRow.holds Tryd.pinned (OpenSpec.ofChange exactValuesSpec)

/-- ITS FALSE NEIGHBOUR: 'it returns false'. Refute it at one input. -/
def exactValuesWrong : ChangeSpec := { name := "exactValues", fn := fun _ => fun
  | [d] => { results := [.lit (.bool false)], args := [d] }
  | _ => none }
def ExactValuesWrongFalsely : Prop := exactValuesRow.holds Tryd.pinned (OpenSpec.ofChange exactValuesWrong)

/-- 'commutatorlaw11.ExactSteps': WHATEVER THE INPUT: true; the input reads as it did. -/
def exactStepsSpec : ChangeSpec := { name := "exactSteps", fn := fun _ => fun
  | [d1, d2, d3] => { results := [.lit (.bool true)], args := [d1, d2, d3] }
  | _ => none }
def exactStepsRow : OpenClaim := { program := "ytfooonellkgaeaadoor", sum := "9336ce46ddce9389078070de81442898005c916b46da74bd92686c488f25eadb", func := "commutator/commutatorlaw11.ExactSteps", spec := "exactSteps", unfollowed := true, recurses := true, named := ["math/bits.deBruijn32tab"], apart := false, laid := [("math/bits.deBruijn32tab", laid_math_bits_deBruijn32tab)] }
def ExactStepsSaid : Prop := exactStepsRow.holds Tryd.pinned (OpenSpec.ofChange exactStepsSpec)

/-- ITS FALSE NEIGHBOUR: 'it returns false'. Refute it at one input. -/
def exactStepsWrong : ChangeSpec := { name := "exactSteps", fn := fun _ => fun
  | [d1, d2, d3] => { results := [.lit (.bool false)], args := [d1, d2, d3] }
  | _ => none }
def ExactStepsWrongFalsely : Prop := exactStepsRow.holds Tryd.pinned (OpenSpec.ofChange exactStepsWrong)

/-- 'commutatorlaw11.ExactRuns': WHATEVER THE INPUT: true; the input reads as it did. -/
def exactRunsSpec : ChangeSpec := { name := "exactRuns", fn := fun _ => fun
  | [d1, d2] => { results := [.lit (.bool true)], args := [d1, d2] }
  | _ => none }
def exactRunsRow : OpenClaim := { program := "ytfooonellkgaeaadoor", sum := "9336ce46ddce9389078070de81442898005c916b46da74bd92686c488f25eadb", func := "commutator/commutatorlaw11.ExactRuns", spec := "exactRuns", unfollowed := true, recurses := true, named := ["math/bits.deBruijn32tab"], apart := false, laid := [("math/bits.deBruijn32tab", laid_math_bits_deBruijn32tab)] }
def ExactRunsSaid : Prop := exactRunsRow.holds Tryd.pinned (OpenSpec.ofChange exactRunsSpec)

/-- ITS FALSE NEIGHBOUR: 'it returns false'. Refute it at one input. -/
def exactRunsWrong : ChangeSpec := { name := "exactRuns", fn := fun _ => fun
  | [d1, d2] => { results := [.lit (.bool false)], args := [d1, d2] }
  | _ => none }
def ExactRunsWrongFalsely : Prop := exactRunsRow.holds Tryd.pinned (OpenSpec.ofChange exactRunsWrong)

/-- 'commutatorlaw11.ExactHolds': WHATEVER THE INPUT: true; the input reads as it did. -/
def exactHoldsSpec : ChangeSpec := { name := "exactHolds", fn := fun _ => fun
  | [d1, d2] => { results := [.lit (.bool true)], args := [d1, d2] }
  | _ => none }
def exactHoldsRow : OpenClaim := { program := "ytfooonellkgaeaadoor", sum := "9336ce46ddce9389078070de81442898005c916b46da74bd92686c488f25eadb", func := "commutator/commutatorlaw11.ExactHolds", spec := "exactHolds", unfollowed := true, recurses := true, named := ["math/bits.deBruijn32tab"], apart := false, laid := [("math/bits.deBruijn32tab", laid_math_bits_deBruijn32tab)] }
def ExactHoldsSaid : Prop := exactHoldsRow.holds Tryd.pinned (OpenSpec.ofChange exactHoldsSpec)

/-- ITS FALSE NEIGHBOUR: 'it returns false'. Refute it at one input. -/
def exactHoldsWrong : ChangeSpec := { name := "exactHolds", fn := fun _ => fun
  | [d1, d2] => { results := [.lit (.bool false)], args := [d1, d2] }
  | _ => none }
def ExactHoldsWrongFalsely : Prop := exactHoldsRow.holds Tryd.pinned (OpenSpec.ofChange exactHoldsWrong)

/-- 'commutatorlaw11.ExactAffine': WHATEVER THE INPUT: true; the input reads as it did. -/
def exactAffineSpec : ChangeSpec := { name := "exactAffine", fn := fun _ => fun
  | [d1, d2, d3] => { results := [.lit (.bool true)], args := [d1, d2, d3] }
  | _ => none }
def exactAffineRow : OpenClaim := { program := "ytfooonellkgaeaadoor", sum := "9336ce46ddce9389078070de81442898005c916b46da74bd92686c488f25eadb", func := "commutator/commutatorlaw11.ExactAffine", spec := "exactAffine", unfollowed := true, recurses := true, named := ["math/bits.deBruijn32tab"], apart := false, laid := [("math/bits.deBruijn32tab", laid_math_bits_deBruijn32tab)] }
def ExactAffineSaid : Prop := exactAffineRow.holds Tryd.pinned (OpenSpec.ofChange exactAffineSpec)

/-- ITS FALSE NEIGHBOUR: 'it returns false'. Refute it at one input. -/
def exactAffineWrong : ChangeSpec := { name := "exactAffine", fn := fun _ => fun
  | [d1, d2, d3] => { results := [.lit (.bool false)], args := [d1, d2, d3] }
  | _ => none }
def ExactAffineWrongFalsely : Prop := exactAffineRow.holds Tryd.pinned (OpenSpec.ofChange exactAffineWrong)

/-- 'commutatorlaw11.ExactPruned': WHATEVER THE INPUT: true; the input reads as it did. -/
def exactPrunedSpec : ChangeSpec := { name := "exactPruned", fn := fun _ => fun
  | [d1, d2] => { results := [.lit (.bool true)], args := [d1, d2] }
  | _ => none }
def exactPrunedRow : OpenClaim := { program := "ytfooonellkgaeaadoor", sum := "9336ce46ddce9389078070de81442898005c916b46da74bd92686c488f25eadb", func := "commutator/commutatorlaw11.ExactPruned", spec := "exactPruned", unfollowed := true, recurses := true, named := ["math/bits.deBruijn32tab"], apart := false, laid := [("math/bits.deBruijn32tab", laid_math_bits_deBruijn32tab)] }
def ExactPrunedSaid : Prop := exactPrunedRow.holds Tryd.pinned (OpenSpec.ofChange exactPrunedSpec)

/-- ITS FALSE NEIGHBOUR: 'it returns false'. Refute it at one input. -/
def exactPrunedWrong : ChangeSpec := { name := "exactPruned", fn := fun _ => fun
  | [d1, d2] => { results := [.lit (.bool false)], args := [d1, d2] }
  | _ => none }
def ExactPrunedWrongFalsely : Prop := exactPrunedRow.holds Tryd.pinned (OpenSpec.ofChange exactPrunedWrong)

/- THE SECOND FORM. 'bulk': how many values and letters a reading holds, each counted each time it is reached (what is shared counts as often as it is met; a slice's spare places count too). A statement '..UptoSaid' is the law's where the arguments, and the package variables that the reading takes, are together of bulk at most 1048576: NARROWER than '..Said'. Prove '..Said' where nothing that the law and all that it calls make is longer than what came in: it says more and counts as full. Else prove '..UptoSaid'. A law counts once. -/
mutual
def uptoBulk {H : Type} : DataW H → Nat
  | .lit (.string bytes) => bytes.length + 1
  | .lit _ => 1
  | .nil => 1
  | .ptr d => uptoBulk d + 1
  | .slice elems spare => uptoBulkAll elems + uptoBulkAll spare + 1
  | .agg parts => uptoBulkAll parts + 1
  | .iface _ d => uptoBulk d + 1
  | .map entries => uptoBulkEntries entries + 1
  | .held _ => 1
def uptoBulkAll {H : Type} : List (DataW H) → Nat
  | [] => 0
  | d :: r => uptoBulk d + uptoBulkAll r
def uptoBulkEntries {H : Type} : List (Lit × DataW H) → Nat
  | [] => 0
  | x :: r => uptoBulkEntry x + uptoBulkEntries r
def uptoBulkEntry {H : Type} : Lit × DataW H → Nat
  | (.string bytes, d) => bytes.length + uptoBulk d + 1
  | (_, d) => uptoBulk d + 1
 end
def uptoSmall : (H : Type) → List (DataW H) → Bool := fun _ ds => decide (uptoBulkAll ds ≤ 1048576)
def OpenSpec.upto (s : _root_.Go.ChangeSpec) : _root_.Go.OpenSpec := { _root_.Go.OpenSpec.ofChange s with cond := some uptoSmall }

/-- 'commutatorlaw11.ExactValues', WHERE WHAT IT READS IS OF BULK AT MOST 1048576: true; the input reads as it did. -/
def exactValuesUptoRow : OpenClaim := { program := "ytfooonellkgaeaadoor", sum := "9336ce46ddce9389078070de81442898005c916b46da74bd92686c488f25eadb", func := "commutator/commutatorlaw11.ExactValues", spec := "exactValues", unfollowed := true, recurses := true, named := ["math/bits.deBruijn32tab"], apart := false, laid := [("math/bits.deBruijn32tab", laid_math_bits_deBruijn32tab)], narrowed := true }
def ExactValuesUptoSaid : Prop := exactValuesUptoRow.holds Tryd.pinned (OpenSpec.upto exactValuesSpec)

/-- 'commutatorlaw11.ExactSteps', WHERE WHAT IT READS IS OF BULK AT MOST 1048576: true; the input reads as it did. -/
def exactStepsUptoRow : OpenClaim := { program := "ytfooonellkgaeaadoor", sum := "9336ce46ddce9389078070de81442898005c916b46da74bd92686c488f25eadb", func := "commutator/commutatorlaw11.ExactSteps", spec := "exactSteps", unfollowed := true, recurses := true, named := ["math/bits.deBruijn32tab"], apart := false, laid := [("math/bits.deBruijn32tab", laid_math_bits_deBruijn32tab)], narrowed := true }
def ExactStepsUptoSaid : Prop := exactStepsUptoRow.holds Tryd.pinned (OpenSpec.upto exactStepsSpec)

/-- 'commutatorlaw11.ExactRuns', WHERE WHAT IT READS IS OF BULK AT MOST 1048576: true; the input reads as it did. -/
def exactRunsUptoRow : OpenClaim := { program := "ytfooonellkgaeaadoor", sum := "9336ce46ddce9389078070de81442898005c916b46da74bd92686c488f25eadb", func := "commutator/commutatorlaw11.ExactRuns", spec := "exactRuns", unfollowed := true, recurses := true, named := ["math/bits.deBruijn32tab"], apart := false, laid := [("math/bits.deBruijn32tab", laid_math_bits_deBruijn32tab)], narrowed := true }
def ExactRunsUptoSaid : Prop := exactRunsUptoRow.holds Tryd.pinned (OpenSpec.upto exactRunsSpec)

/-- 'commutatorlaw11.ExactHolds', WHERE WHAT IT READS IS OF BULK AT MOST 1048576: true; the input reads as it did. -/
def exactHoldsUptoRow : OpenClaim := { program := "ytfooonellkgaeaadoor", sum := "9336ce46ddce9389078070de81442898005c916b46da74bd92686c488f25eadb", func := "commutator/commutatorlaw11.ExactHolds", spec := "exactHolds", unfollowed := true, recurses := true, named := ["math/bits.deBruijn32tab"], apart := false, laid := [("math/bits.deBruijn32tab", laid_math_bits_deBruijn32tab)], narrowed := true }
def ExactHoldsUptoSaid : Prop := exactHoldsUptoRow.holds Tryd.pinned (OpenSpec.upto exactHoldsSpec)

/-- 'commutatorlaw11.ExactAffine', WHERE WHAT IT READS IS OF BULK AT MOST 1048576: true; the input reads as it did. -/
def exactAffineUptoRow : OpenClaim := { program := "ytfooonellkgaeaadoor", sum := "9336ce46ddce9389078070de81442898005c916b46da74bd92686c488f25eadb", func := "commutator/commutatorlaw11.ExactAffine", spec := "exactAffine", unfollowed := true, recurses := true, named := ["math/bits.deBruijn32tab"], apart := false, laid := [("math/bits.deBruijn32tab", laid_math_bits_deBruijn32tab)], narrowed := true }
def ExactAffineUptoSaid : Prop := exactAffineUptoRow.holds Tryd.pinned (OpenSpec.upto exactAffineSpec)

/-- 'commutatorlaw11.ExactPruned', WHERE WHAT IT READS IS OF BULK AT MOST 1048576: true; the input reads as it did. -/
def exactPrunedUptoRow : OpenClaim := { program := "ytfooonellkgaeaadoor", sum := "9336ce46ddce9389078070de81442898005c916b46da74bd92686c488f25eadb", func := "commutator/commutatorlaw11.ExactPruned", spec := "exactPruned", unfollowed := true, recurses := true, named := ["math/bits.deBruijn32tab"], apart := false, laid := [("math/bits.deBruijn32tab", laid_math_bits_deBruijn32tab)], narrowed := true }
def ExactPrunedUptoSaid : Prop := exactPrunedUptoRow.holds Tryd.pinned (OpenSpec.upto exactPrunedSpec)

end Rows
end Go.Proofs.YtfooonellkgaeaaDoor
