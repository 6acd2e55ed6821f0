/- The order of the operations of one statement of CodeOrders is open: they all only read. No conditions. -/
import Derived.Test.YtdhlmbnmgioeeaaQ
import Derived.Test.YtdhlmbnmgioeeaaRows
namespace Go.Proofs.Ytdhlmbnmgioeeaa
set_option linter.unusedVariables false
set_option linter.unusedSimpArgs false
set_option linter.unusedSectionVars false
def findR (n : Nat) : Code → Option (Array Oper)
  | .region id ops _ => if id = n then some ops else none
  | .seq a b => match findR n a with
    | some c => some c
    | none => findR n b
  | .block _ c => findR n c
  | .scope c => findR n c
  | .loop c => findR n c
  | .cond _ a b => match findR n a with
    | some c => some c
    | none => findR n b
  | _ => none
noncomputable def ops9 : Array Oper := ((Try.f5.body).bind (findR 9)).getD #[]
theorem lex9 : Region.lexB .any ops9 = true := by kernel_rfl
end Go.Proofs.Ytdhlmbnmgioeeaa
