/-
  NARROWER THAN 'FOR EVERY INPUT', by the rows' own cells (each row's printed sentence says how): RangesEvaluate: laid · RangesHold: laid · RangesWiden: laid · RangesLocal: laid · RangesContain: laid · RangesKeep: laid.
  DERIVED. THE GIVEN ROWS OF THIS SEAT. 6 by the template 'for every input the law returns true; each argument reads behind the call as it read before'; 0 by the template 'total and deterministic' (their statements: YtilbehepmkpdbaaGreatDoorTotals.lean).
  GIVEN WITH THE SEED: the statements are not yours to turn. If you find one false, say at which input.
  Laid BY PROGRAM, IN A SANDBOX (cutbox-rows.mjs): the forced cells as the released guide's own fill.sh prints them over the translation 0b932dcb3aadde8a… (all of the seat's roots in one cut). By AI agents, Wed Nov 11 2026. No macro, syntax, notation, axiom, sorry.
-/
import Derived.Test.YtilbehepmkpdbaaGreatDoorChecked
import GoSem.Claim
import GoSem.ClaimJoined
import GoSem.ClaimMapViews
import Derived.JoinedTies
import Derived.KernelRfl
namespace Go.Proofs.YtilbehepmkpdbaaGreatDoor
/- THE CELL 'sum', in the pinned program and in every row, IS THE sha256 OF THE DUMP (.gsa) THAT YtilbehepmkpdbaaGreatDoorProg.lean LOADS. Nothing in Lean hashes anything: it is a label: what it is worth is what the hold of that sum in a sandbox is worth. -/
noncomputable def Tryz.pinned : Pinned := { name := "ytilbehepmkpdbaagreatdoor", sum := "0b932dcb3aadde8a9b081e686bb68e03bb0f24fac70835667f704a576b7f41d5", checked := Tryz.checked }
namespace Rows
def none {H : Type} : Left H := { results := [], args := [] }

/- WHAT THE LISTED PACKAGE-LEVEL VARIABLES READ AS WHEN THE CALL BEGINS. Each datum BY PROGRAM (the guide's laid-datum.mjs) off the statement by which the dump's own 'gosem.cut.vars' lays the variable. In a bare row this is a premise. The card (YtilbehepmkpdbaaGreatDoorCards.lean) ties it to the program's text. -/
def laid_math_bits_deBruijn32tab {H : Type} : DataW H := .agg [.lit (.int .u8 0), .lit (.int .u8 1), .lit (.int .u8 28), .lit (.int .u8 2), .lit (.int .u8 29), .lit (.int .u8 14), .lit (.int .u8 24), .lit (.int .u8 3), .lit (.int .u8 30), .lit (.int .u8 22), .lit (.int .u8 20), .lit (.int .u8 15), .lit (.int .u8 25), .lit (.int .u8 17), .lit (.int .u8 4), .lit (.int .u8 8), .lit (.int .u8 31), .lit (.int .u8 27), .lit (.int .u8 13), .lit (.int .u8 23), .lit (.int .u8 21), .lit (.int .u8 19), .lit (.int .u8 16), .lit (.int .u8 7), .lit (.int .u8 26), .lit (.int .u8 12), .lit (.int .u8 18), .lit (.int .u8 6), .lit (.int .u8 11), .lit (.int .u8 5), .lit (.int .u8 10), .lit (.int .u8 9)]

/-- 'commutatorlaw12.RangesEvaluate': WHATEVER THE INPUT: true; the input reads as it did. -/
def rangesEvaluateSpec : ChangeSpec := { name := "rangesEvaluate", fn := fun _ => fun
  | [d1, d2] => { results := [.lit (.bool true)], args := [d1, d2] }
  | _ => none }
def rangesEvaluateRow : OpenClaim := { program := "ytilbehepmkpdbaagreatdoor", sum := "0b932dcb3aadde8a9b081e686bb68e03bb0f24fac70835667f704a576b7f41d5", func := "commutator/commutatorlaw12.RangesEvaluate", spec := "rangesEvaluate", unfollowed := true, recurses := true, named := ["math/bits.deBruijn32tab"], apart := false, laid := [("math/bits.deBruijn32tab", laid_math_bits_deBruijn32tab)] }
def RangesEvaluateSaid : Prop := rangesEvaluateRow.holds Tryz.pinned (OpenSpec.ofChange rangesEvaluateSpec)

/-- ITS FALSE NEIGHBOUR: 'it returns false'. Refute it at one input. -/
def rangesEvaluateWrong : ChangeSpec := { name := "rangesEvaluate", fn := fun _ => fun
  | [d1, d2] => { results := [.lit (.bool false)], args := [d1, d2] }
  | _ => none }
def RangesEvaluateWrongFalsely : Prop := rangesEvaluateRow.holds Tryz.pinned (OpenSpec.ofChange rangesEvaluateWrong)

/-- 'commutatorlaw12.RangesHold': WHATEVER THE INPUT: true; the input reads as it did. -/
def rangesHoldSpec : ChangeSpec := { name := "rangesHold", fn := fun _ => fun
  | [d1, d2] => { results := [.lit (.bool true)], args := [d1, d2] }
  | _ => none }
def rangesHoldRow : OpenClaim := { program := "ytilbehepmkpdbaagreatdoor", sum := "0b932dcb3aadde8a9b081e686bb68e03bb0f24fac70835667f704a576b7f41d5", func := "commutator/commutatorlaw12.RangesHold", spec := "rangesHold", unfollowed := true, recurses := true, named := ["math/bits.deBruijn32tab"], apart := false, laid := [("math/bits.deBruijn32tab", laid_math_bits_deBruijn32tab)] }
def RangesHoldSaid : Prop := rangesHoldRow.holds Tryz.pinned (OpenSpec.ofChange rangesHoldSpec)

/-- ITS FALSE NEIGHBOUR: 'it returns false'. Refute it at one input. -/
def rangesHoldWrong : ChangeSpec := { name := "rangesHold", fn := fun _ => fun
  | [d1, d2] => { results := [.lit (.bool false)], args := [d1, d2] }
  | _ => none }
def RangesHoldWrongFalsely : Prop := rangesHoldRow.holds Tryz.pinned (OpenSpec.ofChange rangesHoldWrong)

/-- 'commutatorlaw12.RangesWiden': WHATEVER THE INPUT: true; the input reads as it did. -/
def rangesWidenSpec : ChangeSpec := { name := "rangesWiden", fn := fun _ => fun
  | [d1, d2, d3] => { results := [.lit (.bool true)], args := [d1, d2, d3] }
  | _ => none }
def rangesWidenRow : OpenClaim := { program := "ytilbehepmkpdbaagreatdoor", sum := "0b932dcb3aadde8a9b081e686bb68e03bb0f24fac70835667f704a576b7f41d5", func := "commutator/commutatorlaw12.RangesWiden", spec := "rangesWiden", unfollowed := true, recurses := true, named := ["math/bits.deBruijn32tab"], apart := false, laid := [("math/bits.deBruijn32tab", laid_math_bits_deBruijn32tab)] }
def RangesWidenSaid : Prop := rangesWidenRow.holds Tryz.pinned (OpenSpec.ofChange rangesWidenSpec)

/-- ITS FALSE NEIGHBOUR: 'it returns false'. Refute it at one input. -/
def rangesWidenWrong : ChangeSpec := { name := "rangesWiden", fn := fun _ => fun
  | [d1, d2, d3] => { results := [.lit (.bool false)], args := [d1, d2, d3] }
  | _ => none }
def RangesWidenWrongFalsely : Prop := rangesWidenRow.holds Tryz.pinned (OpenSpec.ofChange rangesWidenWrong)

/-- 'commutatorlaw12.RangesLocal': WHATEVER THE INPUT: true; the input reads as it did. -/
def rangesLocalSpec : ChangeSpec := { name := "rangesLocal", fn := fun _ => fun
  | [d1, d2] => { results := [.lit (.bool true)], args := [d1, d2] }
  | _ => none }
def rangesLocalRow : OpenClaim := { program := "ytilbehepmkpdbaagreatdoor", sum := "0b932dcb3aadde8a9b081e686bb68e03bb0f24fac70835667f704a576b7f41d5", func := "commutator/commutatorlaw12.RangesLocal", spec := "rangesLocal", unfollowed := true, recurses := true, named := ["math/bits.deBruijn32tab"], apart := false, laid := [("math/bits.deBruijn32tab", laid_math_bits_deBruijn32tab)] }
def RangesLocalSaid : Prop := rangesLocalRow.holds Tryz.pinned (OpenSpec.ofChange rangesLocalSpec)

/-- ITS FALSE NEIGHBOUR: 'it returns false'. Refute it at one input. -/
def rangesLocalWrong : ChangeSpec := { name := "rangesLocal", fn := fun _ => fun
  | [d1, d2] => { results := [.lit (.bool false)], args := [d1, d2] }
  | _ => none }
def RangesLocalWrongFalsely : Prop := rangesLocalRow.holds Tryz.pinned (OpenSpec.ofChange rangesLocalWrong)

/-- 'commutatorlaw12.RangesContain': WHATEVER THE INPUT: true; the input reads as it did. -/
def rangesContainSpec : ChangeSpec := { name := "rangesContain", fn := fun _ => fun
  | [d1, d2, d3] => { results := [.lit (.bool true)], args := [d1, d2, d3] }
  | _ => none }
def rangesContainRow : OpenClaim := { program := "ytilbehepmkpdbaagreatdoor", sum := "0b932dcb3aadde8a9b081e686bb68e03bb0f24fac70835667f704a576b7f41d5", func := "commutator/commutatorlaw12.RangesContain", spec := "rangesContain", unfollowed := true, recurses := true, named := ["math/bits.deBruijn32tab"], apart := false, laid := [("math/bits.deBruijn32tab", laid_math_bits_deBruijn32tab)] }
def RangesContainSaid : Prop := rangesContainRow.holds Tryz.pinned (OpenSpec.ofChange rangesContainSpec)

/-- ITS FALSE NEIGHBOUR: 'it returns false'. Refute it at one input. -/
def rangesContainWrong : ChangeSpec := { name := "rangesContain", fn := fun _ => fun
  | [d1, d2, d3] => { results := [.lit (.bool false)], args := [d1, d2, d3] }
  | _ => none }
def RangesContainWrongFalsely : Prop := rangesContainRow.holds Tryz.pinned (OpenSpec.ofChange rangesContainWrong)

/-- 'commutatorlaw12.RangesKeep': WHATEVER THE INPUT: true; the input reads as it did. -/
def rangesKeepSpec : ChangeSpec := { name := "rangesKeep", fn := fun _ => fun
  | [d1, d2, d3] => { results := [.lit (.bool true)], args := [d1, d2, d3] }
  | _ => none }
def rangesKeepRow : OpenClaim := { program := "ytilbehepmkpdbaagreatdoor", sum := "0b932dcb3aadde8a9b081e686bb68e03bb0f24fac70835667f704a576b7f41d5", func := "commutator/commutatorlaw12.RangesKeep", spec := "rangesKeep", unfollowed := true, recurses := true, named := ["math/bits.deBruijn32tab"], apart := false, laid := [("math/bits.deBruijn32tab", laid_math_bits_deBruijn32tab)] }
def RangesKeepSaid : Prop := rangesKeepRow.holds Tryz.pinned (OpenSpec.ofChange rangesKeepSpec)

/-- ITS FALSE NEIGHBOUR: 'it returns false'. Refute it at one input. -/
def rangesKeepWrong : ChangeSpec := { name := "rangesKeep", fn := fun _ => fun
  | [d1, d2, d3] => { results := [.lit (.bool false)], args := [d1, d2, d3] }
  | _ => none }
def RangesKeepWrongFalsely : Prop := rangesKeepRow.holds Tryz.pinned (OpenSpec.ofChange rangesKeepWrong)

/- THE SECOND FORM. 'bulk': how many values and letters a reading holds, each counted each time it is reached (what is shared counts as often as it is met; a slice's spare places count too). A statement '..UptoSaid' is the law's where the arguments, and the package variables that the reading takes, are together of bulk at most 1048576: NARROWER than '..Said'. Prove '..Said' where nothing that the law and all that it calls make is longer than what came in: it says more and counts as full. Else prove '..UptoSaid'. A law counts once. -/
mutual
def uptoBulk {H : Type} : DataW H → Nat
  | .lit (.string bytes) => bytes.length + 1
  | .lit _ => 1
  | .nil => 1
  | .ptr d => uptoBulk d + 1
  | .slice elems spare => uptoBulkAll elems + uptoBulkAll spare + 1
  | .agg parts => uptoBulkAll parts + 1
  | .iface _ d => uptoBulk d + 1
  | .map entries => uptoBulkEntries entries + 1
  | .held _ => 1
def uptoBulkAll {H : Type} : List (DataW H) → Nat
  | [] => 0
  | d :: r => uptoBulk d + uptoBulkAll r
def uptoBulkEntries {H : Type} : List (Lit × DataW H) → Nat
  | [] => 0
  | x :: r => uptoBulkEntry x + uptoBulkEntries r
def uptoBulkEntry {H : Type} : Lit × DataW H → Nat
  | (.string bytes, d) => bytes.length + uptoBulk d + 1
  | (_, d) => uptoBulk d + 1
 end
def uptoSmall : (H : Type) → List (DataW H) → Bool := fun _ ds => decide (uptoBulkAll ds ≤ 1048576)
def OpenSpec.upto (s : _root_.Go.ChangeSpec) : _root_.Go.OpenSpec := { _root_.Go.OpenSpec.ofChange s with cond := some uptoSmall }

/-- 'commutatorlaw12.RangesEvaluate', WHERE WHAT IT READS IS OF BULK AT MOST 1048576: true; the input reads as it did. -/
def rangesEvaluateUptoRow : OpenClaim := { program := "ytilbehepmkpdbaagreatdoor", sum := "0b932dcb3aadde8a9b081e686bb68e03bb0f24fac70835667f704a576b7f41d5", func := "commutator/commutatorlaw12.RangesEvaluate", spec := "rangesEvaluate", unfollowed := true, recurses := true, named := ["math/bits.deBruijn32tab"], apart := false, laid := [("math/bits.deBruijn32tab", laid_math_bits_deBruijn32tab)], narrowed := true }
def RangesEvaluateUptoSaid : Prop := rangesEvaluateUptoRow.holds Tryz.pinned (OpenSpec.upto rangesEvaluateSpec)

/-- 'commutatorlaw12.RangesHold', WHERE WHAT IT READS IS OF BULK AT MOST 1048576: true; the input reads as it did. -/
def rangesHoldUptoRow : OpenClaim := { program := "ytilbehepmkpdbaagreatdoor", sum := "0b932dcb3aadde8a9b081e686bb68e03bb0f24fac70835667f704a576b7f41d5", func := "commutator/commutatorlaw12.RangesHold", spec := "rangesHold", unfollowed := true, recurses := true, named := ["math/bits.deBruijn32tab"], apart := false, laid := [("math/bits.deBruijn32tab", laid_math_bits_deBruijn32tab)], narrowed := true }
def RangesHoldUptoSaid : Prop := rangesHoldUptoRow.holds Tryz.pinned (OpenSpec.upto rangesHoldSpec)

/-- 'commutatorlaw12.RangesWiden', WHERE WHAT IT READS IS OF BULK AT MOST 1048576: true; the input reads as it did. -/
def rangesWidenUptoRow : OpenClaim := { program := "ytilbehepmkpdbaagreatdoor", sum := "0b932dcb3aadde8a9b081e686bb68e03bb0f24fac70835667f704a576b7f41d5", func := "commutator/commutatorlaw12.RangesWiden", spec := "rangesWiden", unfollowed := true, recurses := true, named := ["math/bits.deBruijn32tab"], apart := false, laid := [("math/bits.deBruijn32tab", laid_math_bits_deBruijn32tab)], narrowed := true }
def RangesWidenUptoSaid : Prop := rangesWidenUptoRow.holds Tryz.pinned (OpenSpec.upto rangesWidenSpec)

/-- 'commutatorlaw12.RangesLocal', WHERE WHAT IT READS IS OF BULK AT MOST 1048576: true; the input reads as it did. -/
def rangesLocalUptoRow : OpenClaim := { program := "ytilbehepmkpdbaagreatdoor", sum := "0b932dcb3aadde8a9b081e686bb68e03bb0f24fac70835667f704a576b7f41d5", func := "commutator/commutatorlaw12.RangesLocal", spec := "rangesLocal", unfollowed := true, recurses := true, named := ["math/bits.deBruijn32tab"], apart := false, laid := [("math/bits.deBruijn32tab", laid_math_bits_deBruijn32tab)], narrowed := true }
def RangesLocalUptoSaid : Prop := rangesLocalUptoRow.holds Tryz.pinned (OpenSpec.upto rangesLocalSpec)

/-- 'commutatorlaw12.RangesContain', WHERE WHAT IT READS IS OF BULK AT MOST 1048576: true; the input reads as it did. -/
def rangesContainUptoRow : OpenClaim := { program := "ytilbehepmkpdbaagreatdoor", sum := "0b932dcb3aadde8a9b081e686bb68e03bb0f24fac70835667f704a576b7f41d5", func := "commutator/commutatorlaw12.RangesContain", spec := "rangesContain", unfollowed := true, recurses := true, named := ["math/bits.deBruijn32tab"], apart := false, laid := [("math/bits.deBruijn32tab", laid_math_bits_deBruijn32tab)], narrowed := true }
def RangesContainUptoSaid : Prop := rangesContainUptoRow.holds Tryz.pinned (OpenSpec.upto rangesContainSpec)

/-- 'commutatorlaw12.RangesKeep', WHERE WHAT IT READS IS OF BULK AT MOST 1048576: true; the input reads as it did. -/
def rangesKeepUptoRow : OpenClaim := { program := "ytilbehepmkpdbaagreatdoor", sum := "0b932dcb3aadde8a9b081e686bb68e03bb0f24fac70835667f704a576b7f41d5", func := "commutator/commutatorlaw12.RangesKeep", spec := "rangesKeep", unfollowed := true, recurses := true, named := ["math/bits.deBruijn32tab"], apart := false, laid := [("math/bits.deBruijn32tab", laid_math_bits_deBruijn32tab)], narrowed := true }
def RangesKeepUptoSaid : Prop := rangesKeepUptoRow.holds Tryz.pinned (OpenSpec.upto rangesKeepSpec)

end Rows
end Go.Proofs.YtilbehepmkpdbaaGreatDoor
