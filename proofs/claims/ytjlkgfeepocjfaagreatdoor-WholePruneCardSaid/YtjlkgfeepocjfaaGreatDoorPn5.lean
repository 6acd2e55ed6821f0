/- What the proofs of this claim share, part 5. No conditions. -/
import Derived.Test.YtjlkgfeepocjfaaGreatDoorPn4
import Derived.Test.YtjlkgfeepocjfaaGreatDoorPn2
import Derived.Test.YtjlkgfeepocjfaaGreatDoorRows
import Derived.BigGuardPart
set_option linter.all false
namespace Go.Proofs.YtjlkgfeepocjfaaGreatDoor
open Go.RowKit
def EK (n:Int):Value:=if n=0 then .nilIface else .iface 85 (.int .i64 n)
theorem Gj:EK 0=.nilIface:=rfl
theorem Mg {n:Int} (h:n≠0):EK n=.iface 85 (.int .i64 n):=if_neg h
end Go.Proofs.YtjlkgfeepocjfaaGreatDoor
