/- What the proofs of this claim share, part 5. No conditions. -/
import Derived.Test.YtjlkgfeepocjfaaGreatDoorMk4
import Derived.Test.YtjlkgfeepocjfaaGreatDoorMk2
import Derived.Test.YtjlkgfeepocjfaaGreatDoorRows
import Derived.BigGuardPart
set_option maxHeartbeats 400000
set_option linter.all false
open Go.Proofs.Tryz
namespace Go.Proofs.YtjlkgfeepocjfaaGreatDoor
open Go.RowKit
def Rs (n:Int):Value:=if n=0 then .nilIface else .iface 85 (.int .i64 n)
theorem AaC:Rs 0=.nilIface:=rfl
theorem WX {n:Int} (h:n≠0):Rs n=.iface 85 (.int .i64 n):=if_neg h
theorem AjU (n:Int) (w:World):Calls prog 14 #[Rs n] w fun e w'=>e=.returned (.int .i64 n)∧w=w':=by
 by_cases h:n=0
 ·subst h
  rw [AaC]
  go_enter func14,ntmps14
  go_wp2
  go_ret
  exact ⟨rfl,rfl⟩
 ·rw [WX h]
  clear h
  have hta:∀ w,(Instr.typeAssert (.iface 85 (.int .i64 n)) 36 85 true).run prog w=.ok (.tuple #[.int .i64 n,.bool true]) w:=fun _=>by kernel_rfl
  go_enter func14,ntmps14
  go_wp2
  go_ret
  exact ⟨rfl,rfl⟩
end Go.Proofs.YtjlkgfeepocjfaaGreatDoor
