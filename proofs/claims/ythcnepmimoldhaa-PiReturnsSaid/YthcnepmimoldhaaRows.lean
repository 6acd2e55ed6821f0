/-
  No cell of these rows narrows 'for every input' (looked for: loops, veiled, ifaces, maps, wideKeys, modest, calm, conditions, laid).
  DERIVED. THE GIVEN ROWS OF THIS SEAT. 5 by the template 'for every input the law returns true; each argument reads behind the call as it read before'; 0 by the template 'total and deterministic' (their statements: YthcnepmimoldhaaTotals.lean).
  GIVEN WITH THE SEED: the statements are not yours to turn. If you find one false, say at which input.
  Laid BY PROGRAM, IN A SANDBOX (cutbox-rows.mjs): the forced cells as the released guide's own fill.sh prints them over the translation fff376b9f5929076… (all of the seat's roots in one cut). By AI agents, Wed Nov 11 2026. No macro, syntax, notation, axiom, sorry.
-/
import Derived.Test.YthcnepmimoldhaaChecked
import GoSem.Claim
import GoSem.ClaimJoined
import GoSem.ClaimMapViews
import Derived.JoinedTies
import Derived.KernelRfl
namespace Go.Proofs.Ythcnepmimoldhaa
/- THE CELL 'sum', in the pinned program and in every row, IS THE sha256 OF THE DUMP (.gsa) THAT YthcnepmimoldhaaProg.lean LOADS. Nothing in Lean hashes anything: it is a label: what it is worth is what the hold of that sum in a sandbox is worth. -/
noncomputable def Try.pinned : Pinned := { name := "ythcnepmimoldhaa", sum := "fff376b9f5929076539f221716f7270d6aceff3ac84111ee0a545ec2dd1d6b29", checked := Try.checked }
namespace Rows
def none {H : Type} : Left H := { results := [], args := [] }

/-- 'commutatorlaw34.PiSteps': WHATEVER THE INPUT: true; the input reads as it did. -/
def piStepsSpec : ChangeSpec := { name := "piSteps", fn := fun _ => fun
  | [d1, d2, d3] => { results := [.lit (.bool true)], args := [d1, d2, d3] }
  | _ => none }
def piStepsRow : OpenClaim := { program := "ythcnepmimoldhaa", sum := "fff376b9f5929076539f221716f7270d6aceff3ac84111ee0a545ec2dd1d6b29", func := "commutator/commutatorlaw34.PiSteps", spec := "piSteps", apart := false }
def PiStepsSaid : Prop := piStepsRow.holds Try.pinned (OpenSpec.ofChange piStepsSpec)

/-- ITS FALSE NEIGHBOUR: 'it returns false'. Refute it at one input. -/
def piStepsWrong : ChangeSpec := { name := "piSteps", fn := fun _ => fun
  | [d1, d2, d3] => { results := [.lit (.bool false)], args := [d1, d2, d3] }
  | _ => none }
def PiStepsWrongFalsely : Prop := piStepsRow.holds Try.pinned (OpenSpec.ofChange piStepsWrong)

/-- 'commutatorlaw34.PiBounds': WHATEVER THE INPUT: true; the input reads as it did. -/
def piBoundsSpec : ChangeSpec := { name := "piBounds", fn := fun _ => fun
  | [d1, d2, d3] => { results := [.lit (.bool true)], args := [d1, d2, d3] }
  | _ => none }
def piBoundsRow : OpenClaim := { program := "ythcnepmimoldhaa", sum := "fff376b9f5929076539f221716f7270d6aceff3ac84111ee0a545ec2dd1d6b29", func := "commutator/commutatorlaw34.PiBounds", spec := "piBounds", apart := false }
def PiBoundsSaid : Prop := piBoundsRow.holds Try.pinned (OpenSpec.ofChange piBoundsSpec)

/-- ITS FALSE NEIGHBOUR: 'it returns false'. Refute it at one input. -/
def piBoundsWrong : ChangeSpec := { name := "piBounds", fn := fun _ => fun
  | [d1, d2, d3] => { results := [.lit (.bool false)], args := [d1, d2, d3] }
  | _ => none }
def PiBoundsWrongFalsely : Prop := piBoundsRow.holds Try.pinned (OpenSpec.ofChange piBoundsWrong)

/-- 'commutatorlaw34.PiReturns': WHATEVER THE INPUT: true; the input reads as it did. -/
def piReturnsSpec : ChangeSpec := { name := "piReturns", fn := fun _ => fun
  | [d1, d2, d3] => { results := [.lit (.bool true)], args := [d1, d2, d3] }
  | _ => none }
def piReturnsRow : OpenClaim := { program := "ythcnepmimoldhaa", sum := "fff376b9f5929076539f221716f7270d6aceff3ac84111ee0a545ec2dd1d6b29", func := "commutator/commutatorlaw34.PiReturns", spec := "piReturns", apart := false }
def PiReturnsSaid : Prop := piReturnsRow.holds Try.pinned (OpenSpec.ofChange piReturnsSpec)

/-- ITS FALSE NEIGHBOUR: 'it returns false'. Refute it at one input. -/
def piReturnsWrong : ChangeSpec := { name := "piReturns", fn := fun _ => fun
  | [d1, d2, d3] => { results := [.lit (.bool false)], args := [d1, d2, d3] }
  | _ => none }
def PiReturnsWrongFalsely : Prop := piReturnsRow.holds Try.pinned (OpenSpec.ofChange piReturnsWrong)

/-- 'commutatorlaw34.PiMonotone': WHATEVER THE INPUT: true; the input reads as it did. -/
def piMonotoneSpec : ChangeSpec := { name := "piMonotone", fn := fun _ => fun
  | [d1, d2, d3] => { results := [.lit (.bool true)], args := [d1, d2, d3] }
  | _ => none }
def piMonotoneRow : OpenClaim := { program := "ythcnepmimoldhaa", sum := "fff376b9f5929076539f221716f7270d6aceff3ac84111ee0a545ec2dd1d6b29", func := "commutator/commutatorlaw34.PiMonotone", spec := "piMonotone", apart := false }
def PiMonotoneSaid : Prop := piMonotoneRow.holds Try.pinned (OpenSpec.ofChange piMonotoneSpec)

/-- ITS FALSE NEIGHBOUR: 'it returns false'. Refute it at one input. -/
def piMonotoneWrong : ChangeSpec := { name := "piMonotone", fn := fun _ => fun
  | [d1, d2, d3] => { results := [.lit (.bool false)], args := [d1, d2, d3] }
  | _ => none }
def PiMonotoneWrongFalsely : Prop := piMonotoneRow.holds Try.pinned (OpenSpec.ofChange piMonotoneWrong)

/-- 'commutatorlaw34.PiPresets': WHATEVER THE INPUT: true; the input reads as it did. -/
def piPresetsSpec : ChangeSpec := { name := "piPresets", fn := fun _ => fun
  | [d1, d2, d3] => { results := [.lit (.bool true)], args := [d1, d2, d3] }
  | _ => none }
def piPresetsRow : OpenClaim := { program := "ythcnepmimoldhaa", sum := "fff376b9f5929076539f221716f7270d6aceff3ac84111ee0a545ec2dd1d6b29", func := "commutator/commutatorlaw34.PiPresets", spec := "piPresets", apart := false }
def PiPresetsSaid : Prop := piPresetsRow.holds Try.pinned (OpenSpec.ofChange piPresetsSpec)

/-- ITS FALSE NEIGHBOUR: 'it returns false'. Refute it at one input. -/
def piPresetsWrong : ChangeSpec := { name := "piPresets", fn := fun _ => fun
  | [d1, d2, d3] => { results := [.lit (.bool false)], args := [d1, d2, d3] }
  | _ => none }
def PiPresetsWrongFalsely : Prop := piPresetsRow.holds Try.pinned (OpenSpec.ofChange piPresetsWrong)

/- THE SECOND FORM. 'bulk': how many values and letters a reading holds, each counted each time it is reached (what is shared counts as often as it is met; a slice's spare places count too). A statement '..UptoSaid' is the law's where the arguments, and the package variables that the reading takes, are together of bulk at most 1048576: NARROWER than '..Said'. Prove '..Said' where nothing that the law and all that it calls make is longer than what came in: it says more and counts as full. Else prove '..UptoSaid'. A law counts once. -/
mutual
def uptoBulk {H : Type} : DataW H → Nat
  | .lit (.string bytes) => bytes.length + 1
  | .lit _ => 1
  | .nil => 1
  | .ptr d => uptoBulk d + 1
  | .slice elems spare => uptoBulkAll elems + uptoBulkAll spare + 1
  | .agg parts => uptoBulkAll parts + 1
  | .iface _ d => uptoBulk d + 1
  | .map entries => uptoBulkEntries entries + 1
  | .held _ => 1
def uptoBulkAll {H : Type} : List (DataW H) → Nat
  | [] => 0
  | d :: r => uptoBulk d + uptoBulkAll r
def uptoBulkEntries {H : Type} : List (Lit × DataW H) → Nat
  | [] => 0
  | x :: r => uptoBulkEntry x + uptoBulkEntries r
def uptoBulkEntry {H : Type} : Lit × DataW H → Nat
  | (.string bytes, d) => bytes.length + uptoBulk d + 1
  | (_, d) => uptoBulk d + 1
 end
def uptoSmall : (H : Type) → List (DataW H) → Bool := fun _ ds => decide (uptoBulkAll ds ≤ 1048576)
def OpenSpec.upto (s : _root_.Go.ChangeSpec) : _root_.Go.OpenSpec := { _root_.Go.OpenSpec.ofChange s with cond := some uptoSmall }

/-- 'commutatorlaw34.PiSteps', WHERE WHAT IT READS IS OF BULK AT MOST 1048576: true; the input reads as it did. -/
def piStepsUptoRow : OpenClaim := { program := "ythcnepmimoldhaa", sum := "fff376b9f5929076539f221716f7270d6aceff3ac84111ee0a545ec2dd1d6b29", func := "commutator/commutatorlaw34.PiSteps", spec := "piSteps", apart := false, narrowed := true }
def PiStepsUptoSaid : Prop := piStepsUptoRow.holds Try.pinned (OpenSpec.upto piStepsSpec)

/-- 'commutatorlaw34.PiBounds', WHERE WHAT IT READS IS OF BULK AT MOST 1048576: true; the input reads as it did. -/
def piBoundsUptoRow : OpenClaim := { program := "ythcnepmimoldhaa", sum := "fff376b9f5929076539f221716f7270d6aceff3ac84111ee0a545ec2dd1d6b29", func := "commutator/commutatorlaw34.PiBounds", spec := "piBounds", apart := false, narrowed := true }
def PiBoundsUptoSaid : Prop := piBoundsUptoRow.holds Try.pinned (OpenSpec.upto piBoundsSpec)

/-- 'commutatorlaw34.PiReturns', WHERE WHAT IT READS IS OF BULK AT MOST 1048576: true; the input reads as it did. -/
def piReturnsUptoRow : OpenClaim := { program := "ythcnepmimoldhaa", sum := "fff376b9f5929076539f221716f7270d6aceff3ac84111ee0a545ec2dd1d6b29", func := "commutator/commutatorlaw34.PiReturns", spec := "piReturns", apart := false, narrowed := true }
def PiReturnsUptoSaid : Prop := piReturnsUptoRow.holds Try.pinned (OpenSpec.upto piReturnsSpec)

/-- 'commutatorlaw34.PiMonotone', WHERE WHAT IT READS IS OF BULK AT MOST 1048576: true; the input reads as it did. -/
def piMonotoneUptoRow : OpenClaim := { program := "ythcnepmimoldhaa", sum := "fff376b9f5929076539f221716f7270d6aceff3ac84111ee0a545ec2dd1d6b29", func := "commutator/commutatorlaw34.PiMonotone", spec := "piMonotone", apart := false, narrowed := true }
def PiMonotoneUptoSaid : Prop := piMonotoneUptoRow.holds Try.pinned (OpenSpec.upto piMonotoneSpec)

/-- 'commutatorlaw34.PiPresets', WHERE WHAT IT READS IS OF BULK AT MOST 1048576: true; the input reads as it did. -/
def piPresetsUptoRow : OpenClaim := { program := "ythcnepmimoldhaa", sum := "fff376b9f5929076539f221716f7270d6aceff3ac84111ee0a545ec2dd1d6b29", func := "commutator/commutatorlaw34.PiPresets", spec := "piPresets", apart := false, narrowed := true }
def PiPresetsUptoSaid : Prop := piPresetsUptoRow.holds Try.pinned (OpenSpec.upto piPresetsSpec)

end Rows
end Go.Proofs.Ythcnepmimoldhaa
