/- What the proofs of this claim share, part 5. No conditions. -/
import Derived.Test.YtmdfjbpggbhgnaaGreatDoorXt4
import Derived.Test.YtmdfjbpggbhgnaaGreatDoorXt2
import Derived.Test.YtmdfjbpggbhgnaaGreatDoorRows
import Derived.BigGuardPart
set_option maxHeartbeats 400000
set_option linter.all false
namespace Go.Proofs.YtmdfjbpggbhgnaaGreatDoor
open Go.RowKit
def RJ (x lo hi:Int):Int:=max lo (min x hi)
theorem AaL (x lo hi:Int) (w:World) :
  Calls Tryz.prog 208 #[.int .i64 x,.int .i64 lo,.int .i64 hi] w fun e w'=>e=.returned (.int .i64 (RJ x lo hi))∧w=w':=by
 go_enter Tryz.func208,Tryz.ntmps208
 go_wp2
 go_ret
 exact ⟨rfl,rfl⟩
def IV (n:Int):Value:=if n=0 then .nilIface else .iface 109 (.int .i64 n)
theorem Xg:IV 0=.nilIface:=rfl
theorem Tp {n:Int} (h:n≠0):IV n=.iface 109 (.int .i64 n):=if_neg h
end Go.Proofs.YtmdfjbpggbhgnaaGreatDoor
