/- Contracts of the statements' own helpers: the number of an error, two lists of numbers. No conditions. -/
import Derived.Test.YtjlocofimlgaoaaDoorQ
import Derived.Test.YtjlocofimlgaoaaDoorRead
import Derived.Test.YtjlocofimlgaoaaDoorRows
import Derived.BigGuardPart
namespace Go.Proofs.YtjlocofimlgaoaaDoor
set_option linter.unusedVariables false
set_option linter.unusedSimpArgs false
set_option linter.unusedSectionVars false
open Go.RowKit

def clipI (x lo hi : Int) : Int := max lo (min x hi)
set_option maxHeartbeats 400000 in
theorem bclip_any (x lo hi : Int) (w : World) :
    Calls Tryd.prog 58 #[.int .i64 x, .int .i64 lo, .int .i64 hi] w fun e w' => e = .returned (.int .i64 (clipI x lo hi)) ∧ w = w' := by
  go_enter Tryd.func58, Tryd.ntmps58
  go_wp2
  go_ret
  exact ⟨rfl, rfl⟩

/-- An error of the program as a value: 0 is none. -/
def errV (n : Int) : Value := if n = 0 then .nilIface else .iface 34 (.int .i64 n)
theorem errV_0 : errV 0 = .nilIface := rfl
theorem errV_n {n : Int} (h : n ≠ 0) : errV n = .iface 34 (.int .i64 n) := if_neg h

def intsB (xs ys : List Int) : Bool := decide (xs = ys)
def intsRel (A B : Option Addr) (xs ys : List Int) (i : Value) (w wr : World) : Prop := ∃ k : Nat, k ≤ xs.length ∧ i = .int .i64 k ∧ xs.take k = ys.take k ∧ ∃ n, wr = w.drewN n

end Go.Proofs.YtjlocofimlgaoaaDoor
