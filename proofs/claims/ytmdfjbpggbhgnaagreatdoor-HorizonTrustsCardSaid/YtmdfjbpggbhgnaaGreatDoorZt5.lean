/- What the proofs of this claim share, part 5. No conditions. -/
import Derived.Test.YtmdfjbpggbhgnaaGreatDoorZt4
import Derived.Test.YtmdfjbpggbhgnaaGreatDoorZt2
import Derived.Test.YtmdfjbpggbhgnaaGreatDoorRows
import Derived.BigGuardPart
set_option linter.unusedVariables false
set_option linter.unusedSimpArgs false
set_option linter.unusedSectionVars false
namespace Go.Proofs.YtmdfjbpggbhgnaaGreatDoor
open Go.RowKit
def Afq (x lo hi:Int):Int:=max lo (min x hi)
def GH (n:Int):Value:=if n=0 then .nilIface else .iface 109 (.int .i64 n)
theorem Dk:GH 0=.nilIface:=rfl
theorem Dx {n:Int} (h:n≠0):GH n=.iface 109 (.int .i64 n):=if_neg h
def intsB (xs ys:List Int):Bool:=decide (xs=ys)
def Afr (A B:Option Addr) (xs ys:List Int) (i:Value) (w wr:World):Prop:=∃ k:Nat,k≤xs.length∧i=.int .i64 k∧xs.take k=ys.take k∧∃ n,wr=w.drewN n
end Go.Proofs.YtmdfjbpggbhgnaaGreatDoor
