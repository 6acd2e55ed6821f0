/- What the proofs of this claim share, part 1. No conditions. -/
import Derived.WalkKit
import Derived.WalkSpells
import Derived.WalkLawsBesides
import Derived.ProofKit
import Derived.SizedLaws
import Derived.OpenShut
set_option linter.unusedVariables false
set_option linter.unusedSimpArgs false
set_option linter.unusedSectionVars false
namespace Go.Proofs.YtmdfjbpggbhgnaaGreatDoor
open Go.RowKit Go.ChangeShapes Go.WideShapes
section
variable {a b c w:World}
theorem Aq (h:Below a.heap.size a w) (o:Obj):Below a.heap.size a (w.alloc o):=h.alloc h.size o
theorem DW (h:Below a.heap.size a w) (n:Nat):Below a.heap.size a (w.drewN n):=below_drewN h n
theorem UV (h:Below a.heap.size a w) {p:Addr} (hp:a.heap.size≤p.block) (u:Value):Below a.heap.size a (w.setCell p u):=h.setCell hp u
theorem EO {W w1:World} {n m:Nat} (hb:Below n W w1) (hm:m≤n) (hs:m≤W.heap.size):(∀ b o,b<m→w1.cell? ⟨b,o,none⟩=W.cell? ⟨b,o,none⟩)∧(∀ b o,b<m→w1.frozen? ⟨b,o,none⟩=W.frozen? ⟨b,o,none⟩)∧(∀ b,b<m→b<w1.heap.size)∧m≤w1.heap.size :=
 ⟨fun b o h=>hb.cell (p:=⟨b,o,none⟩) (Nat.lt_of_lt_of_le h hm),fun b o h=>hb.frozen (p:=⟨b,o,none⟩) (Nat.lt_of_lt_of_le h hm),fun _ h=>Nat.lt_of_lt_of_le h (Nat.le_trans hs hb.size),Nat.le_trans hs hb.size⟩
end
@[go_sem high] theorem QM {P:Program} {w:World} (ts:Array TypeId) (t:TypeId) (k k':IntKind) (x y:Int):(Builtin.min_ ts t #[.int k x,.int k' y]).run P w=.ok (.int k (min x y)) w:=by
 rw [run_min_int2]
 congr 2
 split <;> omega
@[go_sem high] theorem QN {P:Program} {w:World} (ts:Array TypeId) (t:TypeId) (k k':IntKind) (x y:Int):(Builtin.max_ ts t #[.int k x,.int k' y]).run P w=.ok (.int k (max x y)) w:=by
 rw [run_max_int2]
 congr 2
 split <;> omega
theorem Sc {a b:Bool} (h:a=b):Ending.returned (.bool a)=.returned (.bool b):=by rw [h]
end Go.Proofs.YtmdfjbpggbhgnaaGreatDoor
