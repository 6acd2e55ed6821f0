/- What the proofs of this claim share, part 8. No conditions. -/
import Derived.Test.YtilbehepmkpdbaaGreatDoorKj2
import Derived.Test.YtilbehepmkpdbaaGreatDoorKj7
import Derived.Test.YtilbehepmkpdbaaGreatDoorRows
import Derived.BigGuardPart
set_option linter.unusedVariables false
set_option linter.unusedSimpArgs false
set_option linter.unusedSectionVars false
namespace Go.Proofs.YtilbehepmkpdbaaGreatDoor
open Go.RowKit
def clipI (x lo hi : Int) : Int := max lo (min x hi)
def errV (n : Int) : Value := if n = 0 then .nilIface else .iface 48 (.int .i64 n)
theorem errV_0 : errV 0 = .nilIface := rfl
theorem errV_n {n : Int} (h : n ≠ 0) : errV n = .iface 48 (.int .i64 n) := if_neg h
def intsB (xs ys : List Int) : Bool := decide (xs = ys)
def intsRel (A B : Option Addr) (xs ys : List Int) (i : Value) (w wr : World) : Prop := ∃ k : Nat, k ≤ xs.length ∧ i = .int .i64 k ∧ xs.take k = ys.take k ∧ ∃ n, wr = w.drewN n
end Go.Proofs.YtilbehepmkpdbaaGreatDoor
