/- What the proofs of this claim share, part 5. No conditions. -/
import Derived.Test.YtmdfjbpggbhgnaaGreatDoorMr4
import Derived.Test.YtmdfjbpggbhgnaaGreatDoorMr2
import Derived.Test.YtmdfjbpggbhgnaaGreatDoorRows
import Derived.BigGuardPart
set_option linter.all false
namespace Go.Proofs.YtmdfjbpggbhgnaaGreatDoor
open Go.RowKit
def Rr (n:Int):Value:=if n=0 then .nilIface else .iface 109 (.int .i64 n)
theorem AeM:Rr 0=.nilIface:=rfl
theorem Ym {n:Int} (h:n≠0):Rr n=.iface 109 (.int .i64 n):=if_neg h
end Go.Proofs.YtmdfjbpggbhgnaaGreatDoor
