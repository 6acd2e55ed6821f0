/- What the proofs of this claim share, part 5. No conditions. -/
import Derived.Test.YtmdfjbpggbhgnaaGreatDoorAt4
import Derived.Test.YtmdfjbpggbhgnaaGreatDoorAt2
import Derived.Test.YtmdfjbpggbhgnaaGreatDoorRows
import Derived.BigGuardPart
set_option linter.all false
namespace Go.Proofs.YtmdfjbpggbhgnaaGreatDoor
open Go.RowKit
def PB (n:Int):Value:=if n=0 then .nilIface else .iface 109 (.int .i64 n)
theorem AbB:PB 0=.nilIface:=rfl
theorem VV {n:Int} (h:n≠0):PB n=.iface 109 (.int .i64 n):=if_neg h
end Go.Proofs.YtmdfjbpggbhgnaaGreatDoor
