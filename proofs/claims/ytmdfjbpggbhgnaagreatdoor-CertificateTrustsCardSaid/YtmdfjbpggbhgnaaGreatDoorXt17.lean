/- What the proofs of this claim share, part 17. No conditions. -/
import Derived.Test.YtmdfjbpggbhgnaaGreatDoorXt5
import Derived.Test.YtmdfjbpggbhgnaaGreatDoorXt3
import Derived.BigGuardPart
import Derived.Deep.Light
set_option maxHeartbeats 4000000
set_option maxRecDepth 100000
set_option linter.all false
open Go.Proofs.Tryz
namespace Go.Proofs.YtmdfjbpggbhgnaaGreatDoor
variable {op:Int} {a b:List Int}
namespace Cd
open Go.RowKit
def Bc (n:Int):Bool:=decide (-2147483648≤n∧n<2147483648)
def FG (n:Int):Bool:=decide (-62≤n∧n≤30)
theorem EF {n:Int} (h:Bc n=true) : -2147483648≤n∧n<2147483648:=by simpa [Bc] using h
theorem Hf (n:Int) (w:World):Calls prog 120 #[.int .i64 n] w fun e w'=>e=.returned (.bool (Bc n))∧w=w':=by
 go_enter func120,ntmps120
 go_wp2
 all_goals
  go_ret
  exact ⟨Xd (by simp [Bc];omega),rfl⟩
theorem Aej (n:Int) (w:World):Calls prog 251 #[.int .i64 n] w fun e w'=>e=.returned (.bool (FG n))∧w=w':=by
 go_enter func251,ntmps251
 go_wp2
 all_goals
  go_ret
  exact ⟨Xd (by simp [FG];omega),rfl⟩
def scl (x k:Int):Int:=if k<0 then x / 2 ^ (-k).toNat else max (-4294967296) (min x 4294967296)*2 ^ k.toNat
theorem Aaj (x k:Int) (w:World) (h1 : -62≤k) (h2:k≤30):Calls prog 121 #[.int .i64 x,.int .i64 k] w fun e w'=>e=.returned (.int .i64 (scl x k))∧w=w':=by
 go_enter func121,ntmps121
 go_wp2
 ·have hk:k<0:=by assumption
  go_ret
  exact ⟨AaJ (by unfold scl;rw [if_pos hk]),rfl⟩
 ·have hk:0≤k:=by assumption
  go_ret
  refine ⟨AaJ ?_,rfl⟩
  obtain ⟨n,rfl⟩:=kx hk
  have hp:(2:Int) ^ n≤2 ^ 30:=by exact_mod_cast ax (by omega) (by omega)
  have hp0:(0:Int)≤2 ^ n:=Int.pow_nonneg (by omega)
  have m1 : -4294967296≤max (-4294967296) (min x 4294967296):=by omega
  have m2:max (-4294967296) (min x 4294967296)≤4294967296:=by omega
  have a:=dc m2 hp0
  have b:=dc m1 hp0
  unfold scl
  rw [if_neg (by omega),am,Zc (by omega) (by omega)]
def Fe (op:Int):Int × Bool :=
 if op=0∨op=2∨op=5∨op=10 then (5,true) else if op=1 then (16,true) else if op=3∨op=4∨op=8∨op=9 then (15,true) else if op=6 then (21,true) else if op=7 then (7,true) else (0,false)
theorem Amg {u:Int} {b:Bool} (h:(u,b)=Fe op):Ending.returned (.tuple #[.int .i64 u,.bool b])=.returned (.tuple #[.int .i64 (Fe op).1,.bool (Fe op).2]):=by rw [←h]
theorem YJ (op:Int) (w:World):Calls prog 250 #[.int .i64 op] w fun e w'=>e=.returned (.tuple #[.int .i64 (Fe op).1,.bool (Fe op).2])∧w=w':=by
 go_enter func250,ntmps250
 go_wp2
 all_goals
  go_ret2
  exact ⟨Amg (by simp only [beq_iff_eq,beq_eq_false_iff_ne,ne_eq] at *;simp [Fe, *]),rfl⟩
def Cw (op:Int):Bool × Bool × Bool × Bool × Bool × Bool :=
 if op=0∨op=2∨op=5∨op=10 then (true,false,true,false,false,true) else if op=1 then (false,false,false,false,true,true) else if op=3∨op=4∨op=8∨op=9 then (true,true,true,true,false,true)
 else if op=6 then (true,false,true,false,true,true) else if op=7 then (true,true,true,false,false,true) else (false,false,false,false,false,false)
def GR (n lo hi:Int):Bool:=decide (lo≤n∧n≤hi)
end Cd
namespace Cd
open Go.RowKit
def Dr (np n:Nat) (op dst a b sa sb imm:Int):Int :=
 if (Cw op).2.2.2.2.2=false then 7
 else if ¬ (0≤dst∧dst<n) then 10
 else if (Cw op).1=true∧¬ (0≤a∧a<(if op=0 then (np:Int) else n)) then 10
 else if (Cw op).2.1=true∧¬ (0≤b∧b<n) then 10
 else if (Cw op).2.2.1=true∧FG sa=false then 3
 else if (Cw op).2.2.2.1=true∧FG sb=false then 3
 else if (Cw op).2.2.2.2.1=true∧Bc imm=false then 3
 else if ((Cw op).1=false∧a≠0)∨((Cw op).2.1=false∧b≠0)∨((Cw op).2.2.1=false∧sa≠0)∨((Cw op).2.2.2.1=false∧sb≠0)∨((Cw op).2.2.2.2.1=false∧imm≠0) then 2
 else 0
theorem Ff {v:Value} {k n:Int} (h:n=k) (hv:v=IV k):Ending.returned v=.returned (IV n):=by rw [hv,h]
theorem Amh {u:Int} (h:Fe op=(u,true)) (w:World):Calls prog 250 #[.int .i64 op] w fun e w'=>e=.returned (.tuple #[.int .i64 u,.bool true])∧w=w' :=
 (YJ op w).mono fun _ _ ⟨he,hw⟩=>⟨by rw [he,h],hw⟩
end Cd
namespace Cd
open Go.RowKit
theorem Rt {p:Prop} (h:p:=by
  go_enter func211,ntmps211
  go_wp2_with (first
    | (go_at_call 250;refine (Amh HF.out _).mono ?_;rintro e w1 ⟨rfl,rfl⟩)
    | (go_at_call 251;refine (Aej _ _).mono ?_;rintro e w1 ⟨rfl,rfl⟩)
    | (go_at_call 120;refine (Hf _ _).mono ?_;rintro e w1 ⟨rfl,rfl⟩))
  all_goals clear bt1 bt2 bt4 bt8 bt16
  all_goals
    go_ret
    refine ⟨?_,Am (Am (ab _ _) _) _⟩
    go_light
    have hR:=HR.out
    first
      | refine Ff (k:=10) ?_ rfl
      | refine Ff (k:=3) ?_ rfl
      | refine Ff (k:=2) ?_ rfl
      | refine Ff (k:=0) ?_ rfl
    simp only [beq_iff_eq,beq_eq_false_iff_ne,bne_iff_ne,bne_eq_false_iff_eq,ne_eq,lc,Bool.not_eq_false'] at *
    unfold Dr
    rw [hR]
    simp only [true_and,false_and,reduceCtorEq,if_false,or_false,false_or,Bool.true_eq_false,dr]
    (repeat' split) <;> first|rfl|omega|(exfalso;simp_all;done)):p:=h
theorem Ami (A1 A2 A3 A4:Option Addr) (n1 n2 n3 n4 c1 c2 c3 c4:Nat) (op dst a b sa sb imm:Int) (w:World) (hF:Fe op=(5,true)) (hR:Cw op=(true,false,true,false,false,true)) (h0:(op == 0)=true) (hn1:n1≤1000000) (hn2:n2≤1000000) :
  Calls prog 211 #[.agg #[.slice A1 n1 c1,.slice A2 n2 c2,.slice A3 n3 c3,.slice A4 n4 c4],.agg #[.int .i64 op,.int .i64 dst,.int .i64 a,.int .i64 b,.int .i64 sa,.int .i64 sb,.int .i64 imm]] w
   fun e w'=>e=.returned (IV (Dr n1 n2 op dst a b sa sb imm))∧Below w.heap.size w w':=by
 have HF:Hid (Fe op=(5,true)):=hF
 have HR:Hid (Cw op=(true,false,true,false,false,true)):=hR
 clear hF hR
 have bt1:bits BinOp.and IntKind.i64 5 1=1:=by decide
 have bt2:bits BinOp.and IntKind.i64 5 2=0:=by decide
 have bt4:bits BinOp.and IntKind.i64 5 4=4:=by decide
 have bt8:bits BinOp.and IntKind.i64 5 8=0:=by decide
 have bt16:bits BinOp.and IntKind.i64 5 16=0:=by decide
 exact Rt
theorem Aek (A1 A2 A3 A4:Option Addr) (n1 n2 n3 n4 c1 c2 c3 c4:Nat) (op dst a b sa sb imm:Int) (w:World) (hF:Fe op=(5,true)) (hR:Cw op=(true,false,true,false,false,true)) (h0:(op == 0)=false) (hn1:n1≤1000000) (hn2:n2≤1000000) :
  Calls prog 211 #[.agg #[.slice A1 n1 c1,.slice A2 n2 c2,.slice A3 n3 c3,.slice A4 n4 c4],.agg #[.int .i64 op,.int .i64 dst,.int .i64 a,.int .i64 b,.int .i64 sa,.int .i64 sb,.int .i64 imm]] w
   fun e w'=>e=.returned (IV (Dr n1 n2 op dst a b sa sb imm))∧Below w.heap.size w w':=by
 have HF:Hid (Fe op=(5,true)):=hF
 have HR:Hid (Cw op=(true,false,true,false,false,true)):=hR
 clear hF hR
 have bt1:bits BinOp.and IntKind.i64 5 1=1:=by decide
 have bt2:bits BinOp.and IntKind.i64 5 2=0:=by decide
 have bt4:bits BinOp.and IntKind.i64 5 4=4:=by decide
 have bt8:bits BinOp.and IntKind.i64 5 8=0:=by decide
 have bt16:bits BinOp.and IntKind.i64 5 16=0:=by decide
 exact Rt
theorem Aak (A1 A2 A3 A4:Option Addr) (n1 n2 n3 n4 c1 c2 c3 c4:Nat) (op dst a b sa sb imm:Int) (w:World) (hF:Fe op=(16,true)) (hR:Cw op=(false,false,false,false,true,true)) (h0:(op == 0)=false) (hn1:n1≤1000000) (hn2:n2≤1000000) :
  Calls prog 211 #[.agg #[.slice A1 n1 c1,.slice A2 n2 c2,.slice A3 n3 c3,.slice A4 n4 c4],.agg #[.int .i64 op,.int .i64 dst,.int .i64 a,.int .i64 b,.int .i64 sa,.int .i64 sb,.int .i64 imm]] w
   fun e w'=>e=.returned (IV (Dr n1 n2 op dst a b sa sb imm))∧Below w.heap.size w w':=by
 have HF:Hid (Fe op=(16,true)):=hF
 have HR:Hid (Cw op=(false,false,false,false,true,true)):=hR
 clear hF hR
 have bt1:bits BinOp.and IntKind.i64 16 1=0:=by decide
 have bt2:bits BinOp.and IntKind.i64 16 2=0:=by decide
 have bt4:bits BinOp.and IntKind.i64 16 4=0:=by decide
 have bt8:bits BinOp.and IntKind.i64 16 8=0:=by decide
 have bt16:bits BinOp.and IntKind.i64 16 16=16:=by decide
 exact Rt
theorem Ahs (A1 A2 A3 A4:Option Addr) (n1 n2 n3 n4 c1 c2 c3 c4:Nat) (op dst a b sa sb imm:Int) (w:World) (hF:Fe op=(15,true)) (hR:Cw op=(true,true,true,true,false,true)) (h0:(op == 0)=false) (hn1:n1≤1000000) (hn2:n2≤1000000) :
  Calls prog 211 #[.agg #[.slice A1 n1 c1,.slice A2 n2 c2,.slice A3 n3 c3,.slice A4 n4 c4],.agg #[.int .i64 op,.int .i64 dst,.int .i64 a,.int .i64 b,.int .i64 sa,.int .i64 sb,.int .i64 imm]] w
   fun e w'=>e=.returned (IV (Dr n1 n2 op dst a b sa sb imm))∧Below w.heap.size w w':=by
 have HF:Hid (Fe op=(15,true)):=hF
 have HR:Hid (Cw op=(true,true,true,true,false,true)):=hR
 clear hF hR
 have bt1:bits BinOp.and IntKind.i64 15 1=1:=by decide
 have bt2:bits BinOp.and IntKind.i64 15 2=2:=by decide
 have bt4:bits BinOp.and IntKind.i64 15 4=4:=by decide
 have bt8:bits BinOp.and IntKind.i64 15 8=8:=by decide
 have bt16:bits BinOp.and IntKind.i64 15 16=0:=by decide
 exact Rt
theorem Ael (A1 A2 A3 A4:Option Addr) (n1 n2 n3 n4 c1 c2 c3 c4:Nat) (op dst a b sa sb imm:Int) (w:World) (hF:Fe op=(21,true)) (hR:Cw op=(true,false,true,false,true,true)) (h0:(op == 0)=false) (hn1:n1≤1000000) (hn2:n2≤1000000) :
  Calls prog 211 #[.agg #[.slice A1 n1 c1,.slice A2 n2 c2,.slice A3 n3 c3,.slice A4 n4 c4],.agg #[.int .i64 op,.int .i64 dst,.int .i64 a,.int .i64 b,.int .i64 sa,.int .i64 sb,.int .i64 imm]] w
   fun e w'=>e=.returned (IV (Dr n1 n2 op dst a b sa sb imm))∧Below w.heap.size w w':=by
 have HF:Hid (Fe op=(21,true)):=hF
 have HR:Hid (Cw op=(true,false,true,false,true,true)):=hR
 clear hF hR
 have bt1:bits BinOp.and IntKind.i64 21 1=1:=by decide
 have bt2:bits BinOp.and IntKind.i64 21 2=0:=by decide
 have bt4:bits BinOp.and IntKind.i64 21 4=4:=by decide
 have bt8:bits BinOp.and IntKind.i64 21 8=0:=by decide
 have bt16:bits BinOp.and IntKind.i64 21 16=16:=by decide
 exact Rt
theorem Aht (A1 A2 A3 A4:Option Addr) (n1 n2 n3 n4 c1 c2 c3 c4:Nat) (op dst a b sa sb imm:Int) (w:World) (hF:Fe op=(7,true)) (hR:Cw op=(true,true,true,false,false,true)) (h0:(op == 0)=false) (hn1:n1≤1000000) (hn2:n2≤1000000) :
  Calls prog 211 #[.agg #[.slice A1 n1 c1,.slice A2 n2 c2,.slice A3 n3 c3,.slice A4 n4 c4],.agg #[.int .i64 op,.int .i64 dst,.int .i64 a,.int .i64 b,.int .i64 sa,.int .i64 sb,.int .i64 imm]] w
   fun e w'=>e=.returned (IV (Dr n1 n2 op dst a b sa sb imm))∧Below w.heap.size w w':=by
 have HF:Hid (Fe op=(7,true)):=hF
 have HR:Hid (Cw op=(true,true,true,false,false,true)):=hR
 clear hF hR
 have bt1:bits BinOp.and IntKind.i64 7 1=1:=by decide
 have bt2:bits BinOp.and IntKind.i64 7 2=2:=by decide
 have bt4:bits BinOp.and IntKind.i64 7 4=4:=by decide
 have bt8:bits BinOp.and IntKind.i64 7 8=0:=by decide
 have bt16:bits BinOp.and IntKind.i64 7 16=0:=by decide
 exact Rt
end Cd
namespace Cd
open Go.RowKit
end Cd
namespace Cd
open Go.RowKit
theorem Aem (h:(Cw op).2.2.2.2.2=false):Fe op=(0,false):=by
 unfold Cw at h
 unfold Fe
 repeat' split at h
 all_goals simp_all
theorem Ahu (h:Fe op=(0,false)) (w:World):Calls prog 250 #[.int .i64 op] w fun e w'=>e=.returned (.tuple #[.int .i64 0,.bool false])∧w=w' :=
 (YJ op w).mono fun _ _ ⟨he,hw⟩=>⟨by rw [he,h],hw⟩
section
variable (A1 A2 A3 A4:Option Addr) (n1 n2 n3 n4 c1 c2 c3 c4:Nat) (op dst a b sa sb imm:Int) (w:World)
theorem Ahv (h:(Cw op).2.2.2.2.2=false) :
  Calls prog 211 #[.agg #[.slice A1 n1 c1,.slice A2 n2 c2,.slice A3 n3 c3,.slice A4 n4 c4],.agg #[.int .i64 op,.int .i64 dst,.int .i64 a,.int .i64 b,.int .i64 sa,.int .i64 sb,.int .i64 imm]] w
   fun e w'=>e=.returned (IV (Dr n1 n2 op dst a b sa sb imm))∧Below w.heap.size w w':=by
 have HF:Hid (Fe op=(0,false)):=Aem h
 have HE:Hid (Dr n1 n2 op dst a b sa sb imm=7):=if_pos h
 clear h
 go_enter func211,ntmps211
 go_wp2_with (go_at_call 250;refine (Ahu HF.out _).mono ?_;rintro e w1 ⟨rfl,rfl⟩)
 go_ret
 exact ⟨Ff HE.out rfl,Am (Am (ab _ _) _) _⟩
theorem Aen (op:Int):(Cw op).2.2.2.2.2=false∨(op=0)∨(op=2∨op=5∨op=10)∨op=1∨(op=3∨op=4∨op=8∨op=9)∨op=6∨op=7:=by
 by_cases h:(Cw op).2.2.2.2.2=false
 ·exact .inl h
 ·right
  unfold Cw at h
  repeat' split at h
  all_goals first|omega|(exfalso;exact h rfl)
theorem UT (hn1:n1≤1000000) (hn2:n2≤1000000) :
  Calls prog 211 #[.agg #[.slice A1 n1 c1,.slice A2 n2 c2,.slice A3 n3 c3,.slice A4 n4 c4],.agg #[.int .i64 op,.int .i64 dst,.int .i64 a,.int .i64 b,.int .i64 sa,.int .i64 sb,.int .i64 imm]] w
   fun e w'=>e=.returned (IV (Dr n1 n2 op dst a b sa sb imm))∧Below w.heap.size w w':=by
 rcases Aen op with h|h|h|h|h|h|h
 ·exact Ahv _ _ _ _ _ _ _ _ _ _ _ _ _ _ _ _ _ _ _ _ h
 ·subst h;exact Ami _ _ _ _ _ _ _ _ _ _ _ _ _ _ _ _ _ _ _ _ rfl rfl rfl hn1 hn2
 ·rcases h with rfl|rfl|rfl <;> exact Aek _ _ _ _ _ _ _ _ _ _ _ _ _ _ _ _ _ _ _ _ rfl rfl rfl hn1 hn2
 ·subst h;exact Aak _ _ _ _ _ _ _ _ _ _ _ _ _ _ _ _ _ _ _ _ rfl rfl rfl hn1 hn2
 ·rcases h with rfl|rfl|rfl|rfl <;> exact Ahs _ _ _ _ _ _ _ _ _ _ _ _ _ _ _ _ _ _ _ _ rfl rfl rfl hn1 hn2
 ·subst h;exact Ael _ _ _ _ _ _ _ _ _ _ _ _ _ _ _ _ _ _ _ _ rfl rfl rfl hn1 hn2
 ·subst h;exact Aht _ _ _ _ _ _ _ _ _ _ _ _ _ _ _ _ _ _ _ _ rfl rfl rfl hn1 hn2
end
end Cd
namespace Cd
open Go.RowKit
def Lr (p:Prt):Int:=if Bc p.lo=true∧Bc p.hi=true∧p.lo≤p.hi∧0≤p.fr∧p.fr≤30 then 0 else 3
def Qc (n:Int):Int:=if Bc n=true then 0 else 3
def Qd (n:Nat) (o:Int):Int:=if 0≤o∧o<n then 0 else 10
def Ins.err (np n:Nat) (x:Ins):Int:=Dr np n x.op x.dst x.a x.b x.sa x.sb x.imm
def Ci (ps:List Prt) (is:List Int) (xs:List Ins) (os:List Int):Int :=
 if ¬ (ps.length≤16∧is.length≤192∧xs.length≤256∧os.length≤16) then 4
 else Ah (ps.map Lr++(is.map Qc++(xs.map (Ins.err ps.length is.length)++os.map (Qd is.length))))
def Aeo (w:World) (vs:List Value) (es:List Int) (i:Value) (wr:World):Prop:=∃ k:Nat,k≤es.length∧i=.int .i64 k∧Ah (es.take k)=0∧Ij wr w.heap.size vs∧Below w.heap.size w wr
theorem Ox {w wr:World} {vs:List Value} {es:List Int} (hb:Ij wr w.heap.size vs) (hw:Below w.heap.size w wr):Aeo w vs es (.int .i64 0) wr:=⟨0,ad _,rfl,rfl,hb,hw⟩
theorem fe2 (ha:Ah a=0) (hb:Ah b=0):Ah (a++b)=0:=by rw [AI,if_pos ha,hb]
theorem Amj {l post:List Int} {k:Nat} {e:Int} (ha:Ah a=0) (hb:Ah b=0) (h:l[k]?=some e) (he:e≠0) (ht:Ah (l.take k)=0):Ah (a++(b++(l++post)))=e:=by
 rw [←kp];exact Tl (fe2 ha hb) h he ht
theorem Amk {c l:List Int} {k:Nat} {e:Int} (ha:Ah a=0) (hb:Ah b=0) (hc:Ah c=0) (h:l[k]?=some e) (he:e≠0) (ht:Ah (l.take k)=0):Ah (a++(b++(c++l)))=e:=by
 rw [AI,if_pos ha,AI,if_pos hb,AI,if_pos hc,Xe h he ht]
theorem Ahw (A1 A2 A3 A4:Option Addr) (ps:List Prt) (is:List Int) (xs:List Ins) (os:List Int) (c1 c2 c3 c4 m:Nat) (w:World) (hm:m≤w.heap.size) (h1:Al w m A1 (MH Prt.cells ps)) (h2:Al w m A2 (Ii is)) (h3:Al w m A3 (MH Ins.cells xs)) (h4:Al w m A4 (Ii os))
    (l1:ps.length≤16) (l2:is.length≤192) (l3:xs.length≤256) (l4:os.length≤16) :
    Calls prog 119 #[.agg #[.slice A1 ps.length c1,.slice A2 is.length c2,.slice A3 xs.length c3,.slice A4 os.length c4]] w fun e w'=>e=.returned (IV (Ci ps is xs os))∧Below w.heap.size w w':=by
  have H1:=mo h1
  have H2:=mo h2
  have H3:=mo h3
  have H4:=mo h4
  have HE:Hid (Ci ps is xs os=Ah (ps.map Lr++(is.map Qc++(xs.map (Ins.err ps.length is.length)++os.map (Qd is.length))))):=if_neg (by simp;omega)
  clear h1 h2 h3 h4
  have l1':(ps.length:Int)≤16:=by omega
  have l2':(is.length:Int)≤192:=by omega
  have l3':(xs.length:Int)≤256:=by omega
  have l4':(os.length:Int)≤16:=by omega
  go_enter func119,ntmps119
  go_wp2_with fail
  all_goals try (exfalso;omega)
  go_loopw [38] (fun i wr=>Aeo w [.slice A1 ps.length c1,.slice A2 is.length c2,.slice A3 xs.length c3,.slice A4 os.length c4] (ps.map Lr) i wr) (fun i _=>ps.length - (intOf i).toNat)
  case atStart=>exact Ox (Ij.new_ _ _ _) (Am (ab _ _) _)
  case round =>
    obtain ⟨k,hk,rfl,hf,hbox,hb⟩:=hrel
    have HF:=mo hf
    have HB:=mo hbox
    clear hf hbox
    rw [af] at hk
    have z0:w.heap.size<wr.heap.size:=HB.out.1
    by_cases hlt:k<ps.length
    · obtain ⟨b,off,x,rfl,hbm,hbs,hx,hc⟩:=H1.out.row (s:=3) (fun _=>rfl) (by omega) hlt
      have hc':=fun j u (hu:(Prt.cells x)[j]?=some u)=>(hb.cell (p:=⟨b,off+k*3+j,none⟩) (al hbm hm)).trans (hc j u hu)
      have g0:wr.cell? ⟨b,off+k*3,none⟩=some (.int .i64 x.lo):=hc' 0 _ rfl
      have g1:=hc' 1 _ rfl
      have g2:=hc' 2 _ rfl
      clear hc hc'
      have HX:=mo hx
      clear hx
      go_wp2_with (go_at_call 120;refine (Hf _ _).mono ?_;rintro e w1 ⟨rfl,rfl⟩)
      all_goals first
        | (go_ret
           refine ⟨Ff (k:=3) ?_ rfl,Am hb _⟩
           go_light
           rw [HE.out]
           refine Tl (pre:=[]) (k:=k) rfl ?_ (by decide) HF.out
           rw [ag,HX.out]
           exact congrArg some (if_neg (fun ⟨a1,a2,a3,a4,a5⟩=>by first|omega|simp_all)))
        | exact ⟨⟨k+1,by rw [af];omega,by go_num,MI (by rw [ag,HX.out];exact congrArg some (if_pos ⟨by assumption,by assumption,by omega,by omega,by omega⟩)) HF.out,HB.out.below (Am (ab _ _) _) HB.out.1,Am hb _⟩,by simp [intOf];omega⟩
    · have b0:=HB.out.c0
      have b1:=HB.out.c1
      have b2:=HB.out.c2
      have b3:=HB.out.c3
      have P1:=mo (Xf (k:=k) (by rw [af];omega) HF.out)
      clear HF
      go_wp2_with fail
      clear b0 b1 b2 b3 hk hlt
      obtain ⟨w1,hw1⟩:∃ w1,w1=wr:=⟨_,rfl⟩
      rw [←hw1] at HB hb
      rw [←hw1]
      clear hw1 z0
      go_loopw [74] (fun i wr=>Aeo w [.slice A1 ps.length c1,.slice A2 is.length c2,.slice A3 xs.length c3,.slice A4 os.length c4] (is.map Qc) i wr) (fun i _=>is.length - (intOf i).toNat)
      case atStart=>exact Ox HB.out hb
      case round =>
        clear HB hb
        obtain ⟨k,hk,rfl,hf,hbox,hb⟩:=hrel
        have HF:=mo hf
        have HB:=mo hbox
        clear hf hbox
        rw [af] at hk
        have z0:w.heap.size<wr.heap.size:=HB.out.1
        by_cases hlt:k<is.length
        · obtain ⟨b,off,z,rfl,hbm,hbs,hx,hc⟩:=H2.out.int_ hlt
          have hc':=(hb.cell (p:=⟨b,off+k,none⟩) (al hbm hm)).trans hc
          clear hc
          have HX:=mo hx
          clear hx
          by_cases hs:Bc z=true
          · go_wp2_with (go_at_call 120;refine (Hf _ _).mono ?_;rintro e w1 ⟨rfl,rfl⟩)
            exact ⟨⟨k+1,by rw [af];omega,by go_num,MI (by rw [ag,HX.out];exact congrArg some (if_pos hs)) HF.out,HB.out,hb⟩,by simp [intOf];omega⟩
          · have HS:=mo hs
            have hs:Bc z=false:=by simpa using hs
            go_wp2_with (go_at_call 120;refine (Hf _ _).mono ?_;rintro e w1 ⟨rfl,rfl⟩)
            go_ret
            refine ⟨Ff (k:=3) ?_ rfl,hb⟩
            rw [HE.out]
            refine Tl P1.out (k:=k) ?_ (by decide) HF.out
            rw [ag,HX.out]
            exact congrArg some (if_neg HS.out)
        · have b0:=HB.out.c0
          have b1:=HB.out.c1
          have b2:=HB.out.c2
          have b3:=HB.out.c3
          have P2:=mo (Xf (k:=k) (by rw [af];omega) HF.out)
          clear HF
          go_wp2_with fail
          clear b0 b1 b2 b3 hk hlt
          obtain ⟨w2,hw2⟩:∃ w2,w2=wr:=⟨_,rfl⟩
          rw [←hw2] at HB hb
          rw [←hw2]
          clear hw2 z0
          go_loopw [86] (fun i wr=>Aeo w [.slice A1 ps.length c1,.slice A2 is.length c2,.slice A3 xs.length c3,.slice A4 os.length c4] (xs.map (Ins.err ps.length is.length)) i wr) (fun i _=>xs.length - (intOf i).toNat)
          case atStart=>exact Ox HB.out hb
          case round =>
            clear HB hb
            obtain ⟨k,hk,rfl,hf,hbox,hb⟩:=hrel
            have HF:=mo hf
            have HB:=mo hbox
            clear hf hbox
            rw [af] at hk
            have z0:w.heap.size<wr.heap.size:=HB.out.1
            have b0:=HB.out.c0
            have b1:=HB.out.c1
            have b2:=HB.out.c2
            have b3:=HB.out.c3
            by_cases hlt:k<xs.length
            · obtain ⟨b,off,x,rfl,hbm,hbs,hx,hc⟩:=H3.out.row (s:=7) (fun _=>rfl) (by omega) hlt
              have hc':=fun j u (hu:(Ins.cells x)[j]?=some u)=>(hb.cell (p:=⟨b,off+k*7+j,none⟩) (al hbm hm)).trans (hc j u hu)
              have g0:wr.cell? ⟨b,off+k*7,none⟩=some (.int .i64 x.op):=hc' 0 _ rfl
              have g1:=hc' 1 _ rfl
              have g2:=hc' 2 _ rfl
              have g3:=hc' 3 _ rfl
              have g4:=hc' 4 _ rfl
              have g5:=hc' 5 _ rfl
              have g6:=hc' 6 _ rfl
              clear hc hc'
              have HX:=mo hx
              clear hx
              by_cases hxe:Ins.err ps.length is.length x=0
              · have HXE:=mo hxe
                clear hxe
                go_wp2_with (go_at_call 211;refine (UT _ _ _ _ _ _ _ _ _ _ _ _ _ _ _ _ _ _ _ _ (by omega) (by omega)).mono ?_;rintro e w3 ⟨rfl,hb3⟩;rw [show Dr ps.length is.length x.op x.dst x.a x.b x.sa x.sb x.imm=0 from HXE.out,Xg])
                exact ⟨⟨k+1,by rw [af];omega,by go_num,MI (by rw [ag,HX.out];exact congrArg some HXE.out) HF.out,(HB.out.below (Am (ab _ _) _) HB.out.1).below hb3 (by simp;omega),(Am hb _).trans (hb3.mono (by simp;omega))⟩,by simp [intOf];omega⟩
              · have HXE:=mo hxe
                clear hxe
                have hne:Hid (IV (Dr ps.length is.length x.op x.dst x.a x.b x.sa x.sb x.imm)=.iface 109 (.int .i64 (Dr ps.length is.length x.op x.dst x.a x.b x.sa x.sb x.imm))):=Tp HXE.out
                go_wp2_with (go_at_call 211;refine (UT _ _ _ _ _ _ _ _ _ _ _ _ _ _ _ _ _ _ _ _ (by omega) (by omega)).mono ?_;rintro e w3 ⟨rfl,hb3⟩;rw [hne.out])
                go_ret
                refine ⟨Ff (k:=Dr ps.length is.length x.op x.dst x.a x.b x.sa x.sb x.imm) ?_ hne.out.symm,(Am hb _).trans (hb3.mono (by simp;omega))⟩
                rw [HE.out]
                exact Amj P1.out P2.out (k:=k) (by rw [ag,HX.out];rfl) HXE.out HF.out
            · have P3:=mo (Xf (k:=k) (by rw [af];omega) HF.out)
              clear HF
              go_wp2_with fail
              clear b0 b1 b2 b3 hk hlt
              obtain ⟨w4,hw4⟩:∃ w4,w4=wr:=⟨_,rfl⟩
              rw [←hw4] at HB hb
              rw [←hw4]
              clear hw4 z0
              go_loopw [100] (fun i wr=>Aeo w [.slice A1 ps.length c1,.slice A2 is.length c2,.slice A3 xs.length c3,.slice A4 os.length c4] (os.map (Qd is.length)) i wr) (fun i _=>os.length - (intOf i).toNat)
              case atStart=>exact Ox HB.out hb
              case round =>
                clear HB hb
                obtain ⟨k,hk,rfl,hf,hbox,hb⟩:=hrel
                have HF:=mo hf
                have HB:=mo hbox
                clear hf hbox
                rw [af] at hk
                have z0:w.heap.size<wr.heap.size:=HB.out.1
                have b1:=HB.out.c1
                by_cases hlt:k<os.length
                · obtain ⟨b,off,z,rfl,hbm,hbs,hx,hc⟩:=H4.out.int_ hlt
                  have hc':=(hb.cell (p:=⟨b,off+k,none⟩) (al hbm hm)).trans hc
                  clear hc
                  have HX:=mo hx
                  clear hx
                  go_wp2_with fail
                  all_goals first
                    | (go_ret
                       refine ⟨Ff (k:=10) ?_ rfl,hb⟩
                       go_light
                       rw [HE.out]
                       refine Amk P1.out P2.out P3.out (k:=k) ?_ (by decide) HF.out
                       rw [ag,HX.out]
                       exact congrArg some (if_neg (fun ⟨a1,a2⟩=>by omega)))
                    | exact ⟨⟨k+1,by rw [af];omega,by go_num,MI (by rw [ag,HX.out];exact congrArg some (if_pos (⟨by omega,by omega⟩))) HF.out,HB.out,hb⟩,by simp [intOf];omega⟩
                · have P4:=mo (Xf (k:=k) (by rw [af];omega) HF.out)
                  go_wp2_with fail
                  go_ret
                  refine ⟨Ff (k:=0) ?_ rfl,hb⟩
                  rw [HE.out]
                  exact fe2 P1.out (fe2 P2.out (fe2 P3.out P4.out))
theorem YK {p:Prop} (h:p:=by
 go_enter func119,ntmps119
 go_wp2_with fail
 all_goals
  go_ret
  exact ⟨Ff HE.out rfl,Am (ab _ _) _⟩):p:=h
theorem Aal (A1 A2 A3 A4:Option Addr) (ps:List Prt) (is:List Int) (xs:List Ins) (os:List Int) (c1 c2 c3 c4:Nat) (w:World) (hn:16<ps.length) :
  Calls prog 119 #[.agg #[.slice A1 ps.length c1,.slice A2 is.length c2,.slice A3 xs.length c3,.slice A4 os.length c4]] w fun e w'=>e=.returned (IV (Ci ps is xs os))∧Below w.heap.size w w':=by
 have HE:Hid (Ci ps is xs os=4):=if_pos (by omega)
 have hp0:(16:Int)<(ps.length:Int):=by omega
 exact YK
theorem Aam (A1 A2 A3 A4:Option Addr) (ps:List Prt) (is:List Int) (xs:List Ins) (os:List Int) (c1 c2 c3 c4:Nat) (w:World) (hn:ps.length≤16) (hn2:192<is.length) :
  Calls prog 119 #[.agg #[.slice A1 ps.length c1,.slice A2 is.length c2,.slice A3 xs.length c3,.slice A4 os.length c4]] w fun e w'=>e=.returned (IV (Ci ps is xs os))∧Below w.heap.size w w':=by
 have HE:Hid (Ci ps is xs os=4):=if_pos (by omega)
 have hp0:(ps.length:Int)≤16:=by omega
 have hp1:(192:Int)<(is.length:Int):=by omega
 exact YK
theorem Aan (A1 A2 A3 A4:Option Addr) (ps:List Prt) (is:List Int) (xs:List Ins) (os:List Int) (c1 c2 c3 c4:Nat) (w:World) (hn:ps.length≤16) (hn2:is.length≤192) (hn3:256<xs.length) :
  Calls prog 119 #[.agg #[.slice A1 ps.length c1,.slice A2 is.length c2,.slice A3 xs.length c3,.slice A4 os.length c4]] w fun e w'=>e=.returned (IV (Ci ps is xs os))∧Below w.heap.size w w':=by
 have HE:Hid (Ci ps is xs os=4):=if_pos (by omega)
 have hp0:(ps.length:Int)≤16:=by omega
 have hp1:(is.length:Int)≤192:=by omega
 have hp2:(256:Int)<(xs.length:Int):=by omega
 exact YK
theorem Aao (A1 A2 A3 A4:Option Addr) (ps:List Prt) (is:List Int) (xs:List Ins) (os:List Int) (c1 c2 c3 c4:Nat) (w:World) (hn:ps.length≤16) (hn2:is.length≤192) (hn3:xs.length≤256) (hn4:16<os.length) :
  Calls prog 119 #[.agg #[.slice A1 ps.length c1,.slice A2 is.length c2,.slice A3 xs.length c3,.slice A4 os.length c4]] w fun e w'=>e=.returned (IV (Ci ps is xs os))∧Below w.heap.size w w':=by
 have HE:Hid (Ci ps is xs os=4):=if_pos (by omega)
 have hp0:(ps.length:Int)≤16:=by omega
 have hp1:(is.length:Int)≤192:=by omega
 have hp2:(xs.length:Int)≤256:=by omega
 have hp3:(16:Int)<(os.length:Int):=by omega
 exact YK
theorem Check_any (A1 A2 A3 A4:Option Addr) (ps:List Prt) (is:List Int) (xs:List Ins) (os:List Int) (c1 c2 c3 c4 m:Nat) (w:World) (hm:m≤w.heap.size) (h1:Al w m A1 (MH Prt.cells ps)) (h2:Al w m A2 (Ii is)) (h3:Al w m A3 (MH Ins.cells xs)) (h4:Al w m A4 (Ii os)) :
  Calls prog 119 #[.agg #[.slice A1 ps.length c1,.slice A2 is.length c2,.slice A3 xs.length c3,.slice A4 os.length c4]] w fun e w'=>e=.returned (IV (Ci ps is xs os))∧Below w.heap.size w w':=by
 by_cases g1:ps.length≤16
 ·by_cases g2:is.length≤192
  ·by_cases g3:xs.length≤256
   ·by_cases g4:os.length≤16
    ·exact Ahw A1 A2 A3 A4 ps is xs os c1 c2 c3 c4 m w hm h1 h2 h3 h4 g1 g2 g3 g4
    ·exact Aao A1 A2 A3 A4 ps is xs os c1 c2 c3 c4 w g1 g2 g3 (by omega)
   ·exact Aan A1 A2 A3 A4 ps is xs os c1 c2 c3 c4 w g1 g2 (by omega)
  ·exact Aam A1 A2 A3 A4 ps is xs os c1 c2 c3 c4 w g1 (by omega)
 ·exact Aal A1 A2 A3 A4 ps is xs os c1 c2 c3 c4 w (by omega)
end Cd
end Go.Proofs.YtmdfjbpggbhgnaaGreatDoor
