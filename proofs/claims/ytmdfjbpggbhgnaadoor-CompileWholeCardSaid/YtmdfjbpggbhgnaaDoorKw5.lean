/- What the proofs of this claim share, part 5. No conditions. -/
import Derived.Test.YtmdfjbpggbhgnaaDoorKw4
import Derived.Test.YtmdfjbpggbhgnaaDoorKw2
import Derived.Test.YtmdfjbpggbhgnaaDoorRows
import Derived.BigGuardPart
set_option maxHeartbeats 400000
set_option linter.unusedVariables false
set_option linter.unusedSimpArgs false
set_option linter.unusedSectionVars false
namespace Go.Proofs.YtmdfjbpggbhgnaaDoor
open Go.RowKit
def clipI (x lo hi : Int) : Int := max lo (min x hi)
theorem bclip_any (x lo hi : Int) (w : World) :
    Calls Tryd.prog 25 #[.int .i64 x, .int .i64 lo, .int .i64 hi] w fun e w' => e = .returned (.int .i64 (clipI x lo hi)) ∧ w = w' := by
  go_enter Tryd.func25, Tryd.ntmps25
  go_wp2
  go_ret
  exact ⟨rfl, rfl⟩
def errV (n : Int) : Value := if n = 0 then .nilIface else .iface 68 (.int .i64 n)
theorem errV_0 : errV 0 = .nilIface := rfl
theorem errV_n {n : Int} (h : n ≠ 0) : errV n = .iface 68 (.int .i64 n) := if_neg h
def intsB (xs ys : List Int) : Bool := decide (xs = ys)
def intsRel (A B : Option Addr) (xs ys : List Int) (i : Value) (w wr : World) : Prop := ∃ k : Nat, k ≤ xs.length ∧ i = .int .i64 k ∧ xs.take k = ys.take k ∧ ∃ n, wr = w.drewN n
end Go.Proofs.YtmdfjbpggbhgnaaDoor
