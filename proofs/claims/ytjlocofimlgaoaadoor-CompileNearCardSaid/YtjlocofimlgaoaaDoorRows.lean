/-
  NARROWER THAN 'FOR EVERY INPUT', by the rows' own cells (each row's printed sentence says how): CompileRaw: laid · CompileFine: laid · CompileMakes: laid · CompileNear: laid · CompileCells: laid · CompileWhole: laid.
  DERIVED. THE GIVEN ROWS OF THIS SEAT. 6 by the template 'for every input the law returns true; each argument reads behind the call as it read before'; 0 by the template 'total and deterministic' (their statements: YtjlocofimlgaoaaDoorTotals.lean).
  GIVEN WITH THE SEED: the statements are not yours to turn. If you find one false, say at which input.
  Laid BY PROGRAM, IN A SANDBOX (cutbox-rows.mjs): the forced cells as the released guide's own fill.sh prints them over the translation 605529d651adfca8… (all of the seat's roots in one cut). By AI agents, Wed Nov 11 2026. No macro, syntax, notation, axiom, sorry.
-/
import Derived.Test.YtjlocofimlgaoaaDoorChecked
import GoSem.Claim
import GoSem.ClaimJoined
import GoSem.ClaimMapViews
import Derived.JoinedTies
import Derived.KernelRfl
namespace Go.Proofs.YtjlocofimlgaoaaDoor
/- THE CELL 'sum', in the pinned program and in every row, IS THE sha256 OF THE DUMP (.gsa) THAT YtjlocofimlgaoaaDoorProg.lean LOADS. Nothing in Lean hashes anything: it is a label: what it is worth is what the hold of that sum in a sandbox is worth. -/
noncomputable def Tryd.pinned : Pinned := { name := "ytjlocofimlgaoaadoor", sum := "605529d651adfca89f96a5b448cbabe73d3f23cbc175ad29da7085721296e25e", checked := Tryd.checked }
namespace Rows
def none {H : Type} : Left H := { results := [], args := [] }

/- WHAT THE LISTED PACKAGE-LEVEL VARIABLES READ AS WHEN THE CALL BEGINS. Each datum BY PROGRAM (the guide's laid-datum.mjs) off the statement by which the dump's own 'gosem.cut.vars' lays the variable. In a bare row this is a premise. The card (YtjlocofimlgaoaaDoorCards.lean) ties it to the program's text. -/
def laid_math_bits_deBruijn32tab {H : Type} : DataW H := .agg [.lit (.int .u8 0), .lit (.int .u8 1), .lit (.int .u8 28), .lit (.int .u8 2), .lit (.int .u8 29), .lit (.int .u8 14), .lit (.int .u8 24), .lit (.int .u8 3), .lit (.int .u8 30), .lit (.int .u8 22), .lit (.int .u8 20), .lit (.int .u8 15), .lit (.int .u8 25), .lit (.int .u8 17), .lit (.int .u8 4), .lit (.int .u8 8), .lit (.int .u8 31), .lit (.int .u8 27), .lit (.int .u8 13), .lit (.int .u8 23), .lit (.int .u8 21), .lit (.int .u8 19), .lit (.int .u8 16), .lit (.int .u8 7), .lit (.int .u8 26), .lit (.int .u8 12), .lit (.int .u8 18), .lit (.int .u8 6), .lit (.int .u8 11), .lit (.int .u8 5), .lit (.int .u8 10), .lit (.int .u8 9)]

/-- 'commutatorlaw15.CompileRaw': WHATEVER THE INPUT: true; the input reads as it did. -/
def compileRawSpec : ChangeSpec := { name := "compileRaw", fn := fun _ => fun
  | [d1, d2] => { results := [.lit (.bool true)], args := [d1, d2] }
  | _ => none }
def compileRawRow : OpenClaim := { program := "ytjlocofimlgaoaadoor", sum := "605529d651adfca89f96a5b448cbabe73d3f23cbc175ad29da7085721296e25e", func := "commutator/commutatorlaw15.CompileRaw", spec := "compileRaw", recurses := true, named := ["math/bits.deBruijn32tab"], apart := false, laid := [("math/bits.deBruijn32tab", laid_math_bits_deBruijn32tab)] }
def CompileRawSaid : Prop := compileRawRow.holds Tryd.pinned (OpenSpec.ofChange compileRawSpec)

/-- ITS FALSE NEIGHBOUR: 'it returns false'. Refute it at one input. -/
def compileRawWrong : ChangeSpec := { name := "compileRaw", fn := fun _ => fun
  | [d1, d2] => { results := [.lit (.bool false)], args := [d1, d2] }
  | _ => none }
def CompileRawWrongFalsely : Prop := compileRawRow.holds Tryd.pinned (OpenSpec.ofChange compileRawWrong)

/-- 'commutatorlaw15.CompileFine': WHATEVER THE INPUT: true; the input reads as it did. -/
def compileFineSpec : ChangeSpec := { name := "compileFine", fn := fun _ => fun
  | [d1, d2] => { results := [.lit (.bool true)], args := [d1, d2] }
  | _ => none }
def compileFineRow : OpenClaim := { program := "ytjlocofimlgaoaadoor", sum := "605529d651adfca89f96a5b448cbabe73d3f23cbc175ad29da7085721296e25e", func := "commutator/commutatorlaw15.CompileFine", spec := "compileFine", recurses := true, named := ["math/bits.deBruijn32tab"], apart := false, laid := [("math/bits.deBruijn32tab", laid_math_bits_deBruijn32tab)] }
def CompileFineSaid : Prop := compileFineRow.holds Tryd.pinned (OpenSpec.ofChange compileFineSpec)

/-- ITS FALSE NEIGHBOUR: 'it returns false'. Refute it at one input. -/
def compileFineWrong : ChangeSpec := { name := "compileFine", fn := fun _ => fun
  | [d1, d2] => { results := [.lit (.bool false)], args := [d1, d2] }
  | _ => none }
def CompileFineWrongFalsely : Prop := compileFineRow.holds Tryd.pinned (OpenSpec.ofChange compileFineWrong)

/-- 'commutatorlaw15.CompileMakes': WHATEVER THE INPUT: true; the input reads as it did. -/
def compileMakesSpec : ChangeSpec := { name := "compileMakes", fn := fun _ => fun
  | [d1, d2] => { results := [.lit (.bool true)], args := [d1, d2] }
  | _ => none }
def compileMakesRow : OpenClaim := { program := "ytjlocofimlgaoaadoor", sum := "605529d651adfca89f96a5b448cbabe73d3f23cbc175ad29da7085721296e25e", func := "commutator/commutatorlaw15.CompileMakes", spec := "compileMakes", recurses := true, named := ["math/bits.deBruijn32tab"], apart := false, laid := [("math/bits.deBruijn32tab", laid_math_bits_deBruijn32tab)] }
def CompileMakesSaid : Prop := compileMakesRow.holds Tryd.pinned (OpenSpec.ofChange compileMakesSpec)

/-- ITS FALSE NEIGHBOUR: 'it returns false'. Refute it at one input. -/
def compileMakesWrong : ChangeSpec := { name := "compileMakes", fn := fun _ => fun
  | [d1, d2] => { results := [.lit (.bool false)], args := [d1, d2] }
  | _ => none }
def CompileMakesWrongFalsely : Prop := compileMakesRow.holds Tryd.pinned (OpenSpec.ofChange compileMakesWrong)

/-- 'commutatorlaw15.CompileNear': WHATEVER THE INPUT: true; the input reads as it did. -/
def compileNearSpec : ChangeSpec := { name := "compileNear", fn := fun _ => fun
  | [d1, d2, d3] => { results := [.lit (.bool true)], args := [d1, d2, d3] }
  | _ => none }
def compileNearRow : OpenClaim := { program := "ytjlocofimlgaoaadoor", sum := "605529d651adfca89f96a5b448cbabe73d3f23cbc175ad29da7085721296e25e", func := "commutator/commutatorlaw15.CompileNear", spec := "compileNear", recurses := true, named := ["math/bits.deBruijn32tab"], apart := false, laid := [("math/bits.deBruijn32tab", laid_math_bits_deBruijn32tab)] }
def CompileNearSaid : Prop := compileNearRow.holds Tryd.pinned (OpenSpec.ofChange compileNearSpec)

/-- ITS FALSE NEIGHBOUR: 'it returns false'. Refute it at one input. -/
def compileNearWrong : ChangeSpec := { name := "compileNear", fn := fun _ => fun
  | [d1, d2, d3] => { results := [.lit (.bool false)], args := [d1, d2, d3] }
  | _ => none }
def CompileNearWrongFalsely : Prop := compileNearRow.holds Tryd.pinned (OpenSpec.ofChange compileNearWrong)

/-- 'commutatorlaw15.CompileCells': WHATEVER THE INPUT: true; the input reads as it did. -/
def compileCellsSpec : ChangeSpec := { name := "compileCells", fn := fun _ => fun
  | [d1, d2, d3] => { results := [.lit (.bool true)], args := [d1, d2, d3] }
  | _ => none }
def compileCellsRow : OpenClaim := { program := "ytjlocofimlgaoaadoor", sum := "605529d651adfca89f96a5b448cbabe73d3f23cbc175ad29da7085721296e25e", func := "commutator/commutatorlaw15.CompileCells", spec := "compileCells", named := ["math/bits.deBruijn32tab"], apart := false, laid := [("math/bits.deBruijn32tab", laid_math_bits_deBruijn32tab)] }
def CompileCellsSaid : Prop := compileCellsRow.holds Tryd.pinned (OpenSpec.ofChange compileCellsSpec)

/-- ITS FALSE NEIGHBOUR: 'it returns false'. Refute it at one input. -/
def compileCellsWrong : ChangeSpec := { name := "compileCells", fn := fun _ => fun
  | [d1, d2, d3] => { results := [.lit (.bool false)], args := [d1, d2, d3] }
  | _ => none }
def CompileCellsWrongFalsely : Prop := compileCellsRow.holds Tryd.pinned (OpenSpec.ofChange compileCellsWrong)

/-- 'commutatorlaw15.CompileWhole': WHATEVER THE INPUT: true; the input reads as it did. -/
def compileWholeSpec : ChangeSpec := { name := "compileWhole", fn := fun _ => fun
  | [d1, d2] => { results := [.lit (.bool true)], args := [d1, d2] }
  | _ => none }
def compileWholeRow : OpenClaim := { program := "ytjlocofimlgaoaadoor", sum := "605529d651adfca89f96a5b448cbabe73d3f23cbc175ad29da7085721296e25e", func := "commutator/commutatorlaw15.CompileWhole", spec := "compileWhole", unfollowed := true, recurses := true, named := ["math/bits.deBruijn32tab"], apart := false, laid := [("math/bits.deBruijn32tab", laid_math_bits_deBruijn32tab)] }
def CompileWholeSaid : Prop := compileWholeRow.holds Tryd.pinned (OpenSpec.ofChange compileWholeSpec)

/-- ITS FALSE NEIGHBOUR: 'it returns false'. Refute it at one input. -/
def compileWholeWrong : ChangeSpec := { name := "compileWhole", fn := fun _ => fun
  | [d1, d2] => { results := [.lit (.bool false)], args := [d1, d2] }
  | _ => none }
def CompileWholeWrongFalsely : Prop := compileWholeRow.holds Tryd.pinned (OpenSpec.ofChange compileWholeWrong)

/- THE SECOND FORM. 'bulk': how many values and letters a reading holds, each counted each time it is reached (what is shared counts as often as it is met; a slice's spare places count too). A statement '..UptoSaid' is the law's where the arguments, and the package variables that the reading takes, are together of bulk at most 1048576: NARROWER than '..Said'. Prove '..Said' where nothing that the law and all that it calls make is longer than what came in: it says more and counts as full. Else prove '..UptoSaid'. A law counts once. -/
mutual
def uptoBulk {H : Type} : DataW H → Nat
  | .lit (.string bytes) => bytes.length + 1
  | .lit _ => 1
  | .nil => 1
  | .ptr d => uptoBulk d + 1
  | .slice elems spare => uptoBulkAll elems + uptoBulkAll spare + 1
  | .agg parts => uptoBulkAll parts + 1
  | .iface _ d => uptoBulk d + 1
  | .map entries => uptoBulkEntries entries + 1
  | .held _ => 1
def uptoBulkAll {H : Type} : List (DataW H) → Nat
  | [] => 0
  | d :: r => uptoBulk d + uptoBulkAll r
def uptoBulkEntries {H : Type} : List (Lit × DataW H) → Nat
  | [] => 0
  | x :: r => uptoBulkEntry x + uptoBulkEntries r
def uptoBulkEntry {H : Type} : Lit × DataW H → Nat
  | (.string bytes, d) => bytes.length + uptoBulk d + 1
  | (_, d) => uptoBulk d + 1
 end
def uptoSmall : (H : Type) → List (DataW H) → Bool := fun _ ds => decide (uptoBulkAll ds ≤ 1048576)
def OpenSpec.upto (s : _root_.Go.ChangeSpec) : _root_.Go.OpenSpec := { _root_.Go.OpenSpec.ofChange s with cond := some uptoSmall }

/-- 'commutatorlaw15.CompileRaw', WHERE WHAT IT READS IS OF BULK AT MOST 1048576: true; the input reads as it did. -/
def compileRawUptoRow : OpenClaim := { program := "ytjlocofimlgaoaadoor", sum := "605529d651adfca89f96a5b448cbabe73d3f23cbc175ad29da7085721296e25e", func := "commutator/commutatorlaw15.CompileRaw", spec := "compileRaw", recurses := true, named := ["math/bits.deBruijn32tab"], apart := false, laid := [("math/bits.deBruijn32tab", laid_math_bits_deBruijn32tab)], narrowed := true }
def CompileRawUptoSaid : Prop := compileRawUptoRow.holds Tryd.pinned (OpenSpec.upto compileRawSpec)

/-- 'commutatorlaw15.CompileFine', WHERE WHAT IT READS IS OF BULK AT MOST 1048576: true; the input reads as it did. -/
def compileFineUptoRow : OpenClaim := { program := "ytjlocofimlgaoaadoor", sum := "605529d651adfca89f96a5b448cbabe73d3f23cbc175ad29da7085721296e25e", func := "commutator/commutatorlaw15.CompileFine", spec := "compileFine", recurses := true, named := ["math/bits.deBruijn32tab"], apart := false, laid := [("math/bits.deBruijn32tab", laid_math_bits_deBruijn32tab)], narrowed := true }
def CompileFineUptoSaid : Prop := compileFineUptoRow.holds Tryd.pinned (OpenSpec.upto compileFineSpec)

/-- 'commutatorlaw15.CompileMakes', WHERE WHAT IT READS IS OF BULK AT MOST 1048576: true; the input reads as it did. -/
def compileMakesUptoRow : OpenClaim := { program := "ytjlocofimlgaoaadoor", sum := "605529d651adfca89f96a5b448cbabe73d3f23cbc175ad29da7085721296e25e", func := "commutator/commutatorlaw15.CompileMakes", spec := "compileMakes", recurses := true, named := ["math/bits.deBruijn32tab"], apart := false, laid := [("math/bits.deBruijn32tab", laid_math_bits_deBruijn32tab)], narrowed := true }
def CompileMakesUptoSaid : Prop := compileMakesUptoRow.holds Tryd.pinned (OpenSpec.upto compileMakesSpec)

/-- 'commutatorlaw15.CompileNear', WHERE WHAT IT READS IS OF BULK AT MOST 1048576: true; the input reads as it did. -/
def compileNearUptoRow : OpenClaim := { program := "ytjlocofimlgaoaadoor", sum := "605529d651adfca89f96a5b448cbabe73d3f23cbc175ad29da7085721296e25e", func := "commutator/commutatorlaw15.CompileNear", spec := "compileNear", recurses := true, named := ["math/bits.deBruijn32tab"], apart := false, laid := [("math/bits.deBruijn32tab", laid_math_bits_deBruijn32tab)], narrowed := true }
def CompileNearUptoSaid : Prop := compileNearUptoRow.holds Tryd.pinned (OpenSpec.upto compileNearSpec)

/-- 'commutatorlaw15.CompileCells', WHERE WHAT IT READS IS OF BULK AT MOST 1048576: true; the input reads as it did. -/
def compileCellsUptoRow : OpenClaim := { program := "ytjlocofimlgaoaadoor", sum := "605529d651adfca89f96a5b448cbabe73d3f23cbc175ad29da7085721296e25e", func := "commutator/commutatorlaw15.CompileCells", spec := "compileCells", named := ["math/bits.deBruijn32tab"], apart := false, laid := [("math/bits.deBruijn32tab", laid_math_bits_deBruijn32tab)], narrowed := true }
def CompileCellsUptoSaid : Prop := compileCellsUptoRow.holds Tryd.pinned (OpenSpec.upto compileCellsSpec)

/-- 'commutatorlaw15.CompileWhole', WHERE WHAT IT READS IS OF BULK AT MOST 1048576: true; the input reads as it did. -/
def compileWholeUptoRow : OpenClaim := { program := "ytjlocofimlgaoaadoor", sum := "605529d651adfca89f96a5b448cbabe73d3f23cbc175ad29da7085721296e25e", func := "commutator/commutatorlaw15.CompileWhole", spec := "compileWhole", unfollowed := true, recurses := true, named := ["math/bits.deBruijn32tab"], apart := false, laid := [("math/bits.deBruijn32tab", laid_math_bits_deBruijn32tab)], narrowed := true }
def CompileWholeUptoSaid : Prop := compileWholeUptoRow.holds Tryd.pinned (OpenSpec.upto compileWholeSpec)

end Rows
end Go.Proofs.YtjlocofimlgaoaaDoor
