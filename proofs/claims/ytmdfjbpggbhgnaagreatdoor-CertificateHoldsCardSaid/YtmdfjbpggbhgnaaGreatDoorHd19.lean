/- What the proofs of this claim share, part 19. No conditions. -/
import Derived.Test.YtmdfjbpggbhgnaaGreatDoorHd5
import Derived.Test.YtmdfjbpggbhgnaaGreatDoorHd3
import Derived.BigGuardPart
import Derived.Deep.Light
set_option maxHeartbeats 4000000
set_option maxRecDepth 100000
set_option linter.all false
open Go.Proofs.Tryz
namespace Go.Proofs.YtmdfjbpggbhgnaaGreatDoor
variable {op:Int} {a b:List Int}
namespace Cd
open Go.RowKit
def Bh (n:Int):Bool:=decide (-2147483648≤n∧n<2147483648)
def Gd (n:Int):Bool:=decide (-62≤n∧n≤30)
theorem Ff {n:Int} (h:Bh n=true) : -2147483648≤n∧n<2147483648:=by simpa [Bh] using h
theorem IB (n:Int) (w:World):Calls prog 120 #[.int .i64 n] w fun e w'=>e=.returned (.bool (Bh n))∧w=w':=by
 go_enter func120,ntmps120
 go_wp2
 all_goals
  go_ret
  exact ⟨YL (by simp [Bh];omega),rfl⟩
theorem Ago (n:Int) (w:World):Calls prog 251 #[.int .i64 n] w fun e w'=>e=.returned (.bool (Gd n))∧w=w':=by
 go_enter func251,ntmps251
 go_wp2
 all_goals
  go_ret
  exact ⟨YL (by simp [Gd];omega),rfl⟩
def scl (x k:Int):Int:=if k<0 then x / 2 ^ (-k).toNat else max (-4294967296) (min x 4294967296)*2 ^ k.toNat
theorem AbK (x k:Int) (w:World) (h1 : -62≤k) (h2:k≤30):Calls prog 121 #[.int .i64 x,.int .i64 k] w fun e w'=>e=.returned (.int .i64 (scl x k))∧w=w':=by
 go_enter func121,ntmps121
 go_wp2
 ·have hk:k<0:=by assumption
  go_ret
  exact ⟨Aci (by unfold scl;rw [if_pos hk]),rfl⟩
 ·have hk:0≤k:=by assumption
  go_ret
  refine ⟨Aci ?_,rfl⟩
  obtain ⟨n,rfl⟩:=mu hk
  have hp:(2:Int) ^ n≤2 ^ 30:=by exact_mod_cast av (by omega) (by omega)
  have hp0:(0:Int)≤2 ^ n:=Int.pow_nonneg (by omega)
  have m1 : -4294967296≤max (-4294967296) (min x 4294967296):=by omega
  have m2:max (-4294967296) (min x 4294967296)≤4294967296:=by omega
  have a:=ci m2 hp0
  have b:=ci m1 hp0
  unfold scl
  rw [if_neg (by omega),ao,AaA (by omega) (by omega)]
def Fy (op:Int):Int × Bool :=
 if op=0∨op=2∨op=5∨op=10 then (5,true) else if op=1 then (16,true) else if op=3∨op=4∨op=8∨op=9 then (15,true) else if op=6 then (21,true) else if op=7 then (7,true) else (0,false)
theorem AoX {u:Int} {b:Bool} (h:(u,b)=Fy op):Ending.returned (.tuple #[.int .i64 u,.bool b])=.returned (.tuple #[.int .i64 (Fy op).1,.bool (Fy op).2]):=by rw [←h]
theorem Aaq (op:Int) (w:World):Calls prog 250 #[.int .i64 op] w fun e w'=>e=.returned (.tuple #[.int .i64 (Fy op).1,.bool (Fy op).2])∧w=w':=by
 go_enter func250,ntmps250
 go_wp2
 all_goals
  go_ret2
  exact ⟨AoX (by simp only [beq_iff_eq,beq_eq_false_iff_ne,ne_eq] at *;simp [Fy, *]),rfl⟩
def CF (op:Int):Bool × Bool × Bool × Bool × Bool × Bool :=
 if op=0∨op=2∨op=5∨op=10 then (true,false,true,false,false,true) else if op=1 then (false,false,false,false,true,true) else if op=3∨op=4∨op=8∨op=9 then (true,true,true,true,false,true)
 else if op=6 then (true,false,true,false,true,true) else if op=7 then (true,true,true,false,false,true) else (false,false,false,false,false,false)
end Cd
namespace Cd
open Go.RowKit
def DP (np n:Nat) (op dst a b sa sb imm:Int):Int :=
 if (CF op).2.2.2.2.2=false then 7
 else if ¬ (0≤dst∧dst<n) then 10
 else if (CF op).1=true∧¬ (0≤a∧a<(if op=0 then (np:Int) else n)) then 10
 else if (CF op).2.1=true∧¬ (0≤b∧b<n) then 10
 else if (CF op).2.2.1=true∧Gd sa=false then 3
 else if (CF op).2.2.2.1=true∧Gd sb=false then 3
 else if (CF op).2.2.2.2.1=true∧Bh imm=false then 3
 else if ((CF op).1=false∧a≠0)∨((CF op).2.1=false∧b≠0)∨((CF op).2.2.1=false∧sa≠0)∨((CF op).2.2.2.1=false∧sb≠0)∨((CF op).2.2.2.2.1=false∧imm≠0) then 2
 else 0
theorem Fz {v:Value} {k n:Int} (h:n=k) (hv:v=Hf k):Ending.returned v=.returned (Hf n):=by rw [hv,h]
theorem AoY {u:Int} (h:Fy op=(u,true)) (w:World):Calls prog 250 #[.int .i64 op] w fun e w'=>e=.returned (.tuple #[.int .i64 u,.bool true])∧w=w' :=
 (Aaq op w).mono fun _ _ ⟨he,hw⟩=>⟨by rw [he,h],hw⟩
end Cd
namespace Cd
open Go.RowKit
theorem Tp {p:Prop} (h:p:=by
  go_enter func211,ntmps211
  go_wp2_with (first
    | (go_at_call 250;refine (AoY HF.out _).mono ?_;rintro e w1 ⟨rfl,rfl⟩)
    | (go_at_call 251;refine (Ago _ _).mono ?_;rintro e w1 ⟨rfl,rfl⟩)
    | (go_at_call 120;refine (IB _ _).mono ?_;rintro e w1 ⟨rfl,rfl⟩))
  all_goals clear bt1 bt2 bt4 bt8 bt16
  all_goals
    go_ret
    refine ⟨?_,Aq (Aq (ab _ _) _) _⟩
    go_light
    have hR:=HR.out
    first
      | refine Fz (k:=10) ?_ rfl
      | refine Fz (k:=3) ?_ rfl
      | refine Fz (k:=2) ?_ rfl
      | refine Fz (k:=0) ?_ rfl
    simp only [beq_iff_eq,beq_eq_false_iff_ne,bne_iff_ne,bne_eq_false_iff_eq,ne_eq,mb,Bool.not_eq_false'] at *
    unfold DP
    rw [hR]
    simp only [true_and,false_and,reduceCtorEq,if_false,or_false,false_or,Bool.true_eq_false,du]
    (repeat' split) <;> first|rfl|omega|(exfalso;simp_all;done)):p:=h
theorem AoZ (A1 A2 A3 A4:Option Addr) (n1 n2 n3 n4 c1 c2 c3 c4:Nat) (op dst a b sa sb imm:Int) (w:World) (hF:Fy op=(5,true)) (hR:CF op=(true,false,true,false,false,true)) (h0:(op == 0)=true) (hn1:n1≤1000000) (hn2:n2≤1000000) :
  Calls prog 211 #[.agg #[.slice A1 n1 c1,.slice A2 n2 c2,.slice A3 n3 c3,.slice A4 n4 c4],.agg #[.int .i64 op,.int .i64 dst,.int .i64 a,.int .i64 b,.int .i64 sa,.int .i64 sb,.int .i64 imm]] w
   fun e w'=>e=.returned (Hf (DP n1 n2 op dst a b sa sb imm))∧Below w.heap.size w w':=by
 have HF:Hid (Fy op=(5,true)):=hF
 have HR:Hid (CF op=(true,false,true,false,false,true)):=hR
 clear hF hR
 have bt1:bits BinOp.and IntKind.i64 5 1=1:=by decide
 have bt2:bits BinOp.and IntKind.i64 5 2=0:=by decide
 have bt4:bits BinOp.and IntKind.i64 5 4=4:=by decide
 have bt8:bits BinOp.and IntKind.i64 5 8=0:=by decide
 have bt16:bits BinOp.and IntKind.i64 5 16=0:=by decide
 exact Tp
theorem Agp (A1 A2 A3 A4:Option Addr) (n1 n2 n3 n4 c1 c2 c3 c4:Nat) (op dst a b sa sb imm:Int) (w:World) (hF:Fy op=(5,true)) (hR:CF op=(true,false,true,false,false,true)) (h0:(op == 0)=false) (hn1:n1≤1000000) (hn2:n2≤1000000) :
  Calls prog 211 #[.agg #[.slice A1 n1 c1,.slice A2 n2 c2,.slice A3 n3 c3,.slice A4 n4 c4],.agg #[.int .i64 op,.int .i64 dst,.int .i64 a,.int .i64 b,.int .i64 sa,.int .i64 sb,.int .i64 imm]] w
   fun e w'=>e=.returned (Hf (DP n1 n2 op dst a b sa sb imm))∧Below w.heap.size w w':=by
 have HF:Hid (Fy op=(5,true)):=hF
 have HR:Hid (CF op=(true,false,true,false,false,true)):=hR
 clear hF hR
 have bt1:bits BinOp.and IntKind.i64 5 1=1:=by decide
 have bt2:bits BinOp.and IntKind.i64 5 2=0:=by decide
 have bt4:bits BinOp.and IntKind.i64 5 4=4:=by decide
 have bt8:bits BinOp.and IntKind.i64 5 8=0:=by decide
 have bt16:bits BinOp.and IntKind.i64 5 16=0:=by decide
 exact Tp
theorem AbL (A1 A2 A3 A4:Option Addr) (n1 n2 n3 n4 c1 c2 c3 c4:Nat) (op dst a b sa sb imm:Int) (w:World) (hF:Fy op=(16,true)) (hR:CF op=(false,false,false,false,true,true)) (h0:(op == 0)=false) (hn1:n1≤1000000) (hn2:n2≤1000000) :
  Calls prog 211 #[.agg #[.slice A1 n1 c1,.slice A2 n2 c2,.slice A3 n3 c3,.slice A4 n4 c4],.agg #[.int .i64 op,.int .i64 dst,.int .i64 a,.int .i64 b,.int .i64 sa,.int .i64 sb,.int .i64 imm]] w
   fun e w'=>e=.returned (Hf (DP n1 n2 op dst a b sa sb imm))∧Below w.heap.size w w':=by
 have HF:Hid (Fy op=(16,true)):=hF
 have HR:Hid (CF op=(false,false,false,false,true,true)):=hR
 clear hF hR
 have bt1:bits BinOp.and IntKind.i64 16 1=0:=by decide
 have bt2:bits BinOp.and IntKind.i64 16 2=0:=by decide
 have bt4:bits BinOp.and IntKind.i64 16 4=0:=by decide
 have bt8:bits BinOp.and IntKind.i64 16 8=0:=by decide
 have bt16:bits BinOp.and IntKind.i64 16 16=16:=by decide
 exact Tp
theorem Ajt (A1 A2 A3 A4:Option Addr) (n1 n2 n3 n4 c1 c2 c3 c4:Nat) (op dst a b sa sb imm:Int) (w:World) (hF:Fy op=(15,true)) (hR:CF op=(true,true,true,true,false,true)) (h0:(op == 0)=false) (hn1:n1≤1000000) (hn2:n2≤1000000) :
  Calls prog 211 #[.agg #[.slice A1 n1 c1,.slice A2 n2 c2,.slice A3 n3 c3,.slice A4 n4 c4],.agg #[.int .i64 op,.int .i64 dst,.int .i64 a,.int .i64 b,.int .i64 sa,.int .i64 sb,.int .i64 imm]] w
   fun e w'=>e=.returned (Hf (DP n1 n2 op dst a b sa sb imm))∧Below w.heap.size w w':=by
 have HF:Hid (Fy op=(15,true)):=hF
 have HR:Hid (CF op=(true,true,true,true,false,true)):=hR
 clear hF hR
 have bt1:bits BinOp.and IntKind.i64 15 1=1:=by decide
 have bt2:bits BinOp.and IntKind.i64 15 2=2:=by decide
 have bt4:bits BinOp.and IntKind.i64 15 4=4:=by decide
 have bt8:bits BinOp.and IntKind.i64 15 8=8:=by decide
 have bt16:bits BinOp.and IntKind.i64 15 16=0:=by decide
 exact Tp
theorem Agq (A1 A2 A3 A4:Option Addr) (n1 n2 n3 n4 c1 c2 c3 c4:Nat) (op dst a b sa sb imm:Int) (w:World) (hF:Fy op=(21,true)) (hR:CF op=(true,false,true,false,true,true)) (h0:(op == 0)=false) (hn1:n1≤1000000) (hn2:n2≤1000000) :
  Calls prog 211 #[.agg #[.slice A1 n1 c1,.slice A2 n2 c2,.slice A3 n3 c3,.slice A4 n4 c4],.agg #[.int .i64 op,.int .i64 dst,.int .i64 a,.int .i64 b,.int .i64 sa,.int .i64 sb,.int .i64 imm]] w
   fun e w'=>e=.returned (Hf (DP n1 n2 op dst a b sa sb imm))∧Below w.heap.size w w':=by
 have HF:Hid (Fy op=(21,true)):=hF
 have HR:Hid (CF op=(true,false,true,false,true,true)):=hR
 clear hF hR
 have bt1:bits BinOp.and IntKind.i64 21 1=1:=by decide
 have bt2:bits BinOp.and IntKind.i64 21 2=0:=by decide
 have bt4:bits BinOp.and IntKind.i64 21 4=4:=by decide
 have bt8:bits BinOp.and IntKind.i64 21 8=0:=by decide
 have bt16:bits BinOp.and IntKind.i64 21 16=16:=by decide
 exact Tp
theorem Aju (A1 A2 A3 A4:Option Addr) (n1 n2 n3 n4 c1 c2 c3 c4:Nat) (op dst a b sa sb imm:Int) (w:World) (hF:Fy op=(7,true)) (hR:CF op=(true,true,true,false,false,true)) (h0:(op == 0)=false) (hn1:n1≤1000000) (hn2:n2≤1000000) :
  Calls prog 211 #[.agg #[.slice A1 n1 c1,.slice A2 n2 c2,.slice A3 n3 c3,.slice A4 n4 c4],.agg #[.int .i64 op,.int .i64 dst,.int .i64 a,.int .i64 b,.int .i64 sa,.int .i64 sb,.int .i64 imm]] w
   fun e w'=>e=.returned (Hf (DP n1 n2 op dst a b sa sb imm))∧Below w.heap.size w w':=by
 have HF:Hid (Fy op=(7,true)):=hF
 have HR:Hid (CF op=(true,true,true,false,false,true)):=hR
 clear hF hR
 have bt1:bits BinOp.and IntKind.i64 7 1=1:=by decide
 have bt2:bits BinOp.and IntKind.i64 7 2=2:=by decide
 have bt4:bits BinOp.and IntKind.i64 7 4=4:=by decide
 have bt8:bits BinOp.and IntKind.i64 7 8=0:=by decide
 have bt16:bits BinOp.and IntKind.i64 7 16=0:=by decide
 exact Tp
end Cd
namespace Cd
open Go.RowKit
end Cd
namespace Cd
open Go.RowKit
theorem Agr (h:(CF op).2.2.2.2.2=false):Fy op=(0,false):=by
 unfold CF at h
 unfold Fy
 repeat' split at h
 all_goals simp_all
theorem Ajv (h:Fy op=(0,false)) (w:World):Calls prog 250 #[.int .i64 op] w fun e w'=>e=.returned (.tuple #[.int .i64 0,.bool false])∧w=w' :=
 (Aaq op w).mono fun _ _ ⟨he,hw⟩=>⟨by rw [he,h],hw⟩
section
variable (A1 A2 A3 A4:Option Addr) (n1 n2 n3 n4 c1 c2 c3 c4:Nat) (op dst a b sa sb imm:Int) (w:World)
theorem Ajw (h:(CF op).2.2.2.2.2=false) :
  Calls prog 211 #[.agg #[.slice A1 n1 c1,.slice A2 n2 c2,.slice A3 n3 c3,.slice A4 n4 c4],.agg #[.int .i64 op,.int .i64 dst,.int .i64 a,.int .i64 b,.int .i64 sa,.int .i64 sb,.int .i64 imm]] w
   fun e w'=>e=.returned (Hf (DP n1 n2 op dst a b sa sb imm))∧Below w.heap.size w w':=by
 have HF:Hid (Fy op=(0,false)):=Agr h
 have HE:Hid (DP n1 n2 op dst a b sa sb imm=7):=if_pos h
 clear h
 go_enter func211,ntmps211
 go_wp2_with (go_at_call 250;refine (Ajv HF.out _).mono ?_;rintro e w1 ⟨rfl,rfl⟩)
 go_ret
 exact ⟨Fz HE.out rfl,Aq (Aq (ab _ _) _) _⟩
theorem Ags (op:Int):(CF op).2.2.2.2.2=false∨(op=0)∨(op=2∨op=5∨op=10)∨op=1∨(op=3∨op=4∨op=8∨op=9)∨op=6∨op=7:=by
 by_cases h:(CF op).2.2.2.2.2=false
 ·exact .inl h
 ·right
  unfold CF at h
  repeat' split at h
  all_goals first|omega|(exfalso;exact h rfl)
theorem WX (hn1:n1≤1000000) (hn2:n2≤1000000) :
  Calls prog 211 #[.agg #[.slice A1 n1 c1,.slice A2 n2 c2,.slice A3 n3 c3,.slice A4 n4 c4],.agg #[.int .i64 op,.int .i64 dst,.int .i64 a,.int .i64 b,.int .i64 sa,.int .i64 sb,.int .i64 imm]] w
   fun e w'=>e=.returned (Hf (DP n1 n2 op dst a b sa sb imm))∧Below w.heap.size w w':=by
 rcases Ags op with h|h|h|h|h|h|h
 ·exact Ajw _ _ _ _ _ _ _ _ _ _ _ _ _ _ _ _ _ _ _ _ h
 ·subst h;exact AoZ _ _ _ _ _ _ _ _ _ _ _ _ _ _ _ _ _ _ _ _ rfl rfl rfl hn1 hn2
 ·rcases h with rfl|rfl|rfl <;> exact Agp _ _ _ _ _ _ _ _ _ _ _ _ _ _ _ _ _ _ _ _ rfl rfl rfl hn1 hn2
 ·subst h;exact AbL _ _ _ _ _ _ _ _ _ _ _ _ _ _ _ _ _ _ _ _ rfl rfl rfl hn1 hn2
 ·rcases h with rfl|rfl|rfl|rfl <;> exact Ajt _ _ _ _ _ _ _ _ _ _ _ _ _ _ _ _ _ _ _ _ rfl rfl rfl hn1 hn2
 ·subst h;exact Agq _ _ _ _ _ _ _ _ _ _ _ _ _ _ _ _ _ _ _ _ rfl rfl rfl hn1 hn2
 ·subst h;exact Aju _ _ _ _ _ _ _ _ _ _ _ _ _ _ _ _ _ _ _ _ rfl rfl rfl hn1 hn2
end
end Cd
namespace Cd
open Go.RowKit
def Mw (p:Prt):Int:=if Bh p.lo=true∧Bh p.hi=true∧p.lo≤p.hi∧0≤p.fr∧p.fr≤30 then 0 else 3
def Rr (n:Int):Int:=if Bh n=true then 0 else 3
def Rs (n:Nat) (o:Int):Int:=if 0≤o∧o<n then 0 else 10
def Ins.err (np n:Nat) (x:Ins):Int:=DP np n x.op x.dst x.a x.b x.sa x.sb x.imm
def Cu (ps:List Prt) (is:List Int) (xs:List Ins) (os:List Int):Int :=
 if ¬ (ps.length≤16∧is.length≤192∧xs.length≤256∧os.length≤16) then 4
 else Ak (ps.map Mw++(is.map Rr++(xs.map (Ins.err ps.length is.length)++os.map (Rs is.length))))
def Agt (w:World) (vs:List Value) (es:List Int) (i:Value) (wr:World):Prop:=∃ k:Nat,k≤es.length∧i=.int .i64 k∧Ak (es.take k)=0∧Li wr w.heap.size vs∧Below w.heap.size w wr
theorem Qd {w wr:World} {vs:List Value} {es:List Int} (hb:Li wr w.heap.size vs) (hw:Below w.heap.size w wr):Agt w vs es (.int .i64 0) wr:=⟨0,ad _,rfl,rfl,hb,hw⟩
theorem fe2 (ha:Ak a=0) (hb:Ak b=0):Ak (a++b)=0:=by rw [AQ,if_pos ha,hb]
theorem Apa {l post:List Int} {k:Nat} {e:Int} (ha:Ak a=0) (hb:Ak b=0) (h:l[k]?=some e) (he:e≠0) (ht:Ak (l.take k)=0):Ak (a++(b++(l++post)))=e:=by
 rw [←ja];exact UZ (fe2 ha hb) h he ht
theorem Apb {c l:List Int} {k:Nat} {e:Int} (ha:Ak a=0) (hb:Ak b=0) (hc:Ak c=0) (h:l[k]?=some e) (he:e≠0) (ht:Ak (l.take k)=0):Ak (a++(b++(c++l)))=e:=by
 rw [AQ,if_pos ha,AQ,if_pos hb,AQ,if_pos hc,YM h he ht]
theorem Ajx (A1 A2 A3 A4:Option Addr) (ps:List Prt) (is:List Int) (xs:List Ins) (os:List Int) (c1 c2 c3 c4 m:Nat) (w:World) (hm:m≤w.heap.size) (h1:Am w m A1 (NT Prt.cells ps)) (h2:Am w m A2 (Lv is)) (h3:Am w m A3 (NT Ins.cells xs)) (h4:Am w m A4 (Lv os))
    (l1:ps.length≤16) (l2:is.length≤192) (l3:xs.length≤256) (l4:os.length≤16) :
    Calls prog 119 #[.agg #[.slice A1 ps.length c1,.slice A2 is.length c2,.slice A3 xs.length c3,.slice A4 os.length c4]] w fun e w'=>e=.returned (Hf (Cu ps is xs os))∧Below w.heap.size w w':=by
  have H1:=mz h1
  have H2:=mz h2
  have H3:=mz h3
  have H4:=mz h4
  have HE:Hid (Cu ps is xs os=Ak (ps.map Mw++(is.map Rr++(xs.map (Ins.err ps.length is.length)++os.map (Rs is.length))))):=if_neg (by simp;omega)
  clear h1 h2 h3 h4
  have l1':(ps.length:Int)≤16:=by omega
  have l2':(is.length:Int)≤192:=by omega
  have l3':(xs.length:Int)≤256:=by omega
  have l4':(os.length:Int)≤16:=by omega
  go_enter func119,ntmps119
  go_wp2_with fail
  all_goals try (exfalso;omega)
  go_loopw [38] (fun i wr=>Agt w [.slice A1 ps.length c1,.slice A2 is.length c2,.slice A3 xs.length c3,.slice A4 os.length c4] (ps.map Mw) i wr) (fun i _=>ps.length - (intOf i).toNat)
  case atStart=>exact Qd (Li.new_ _ _ _) (Aq (ab _ _) _)
  case round =>
    obtain ⟨k,hk,rfl,hf,hbox,hb⟩:=hrel
    have HF:=mz hf
    have HB:=mz hbox
    clear hf hbox
    rw [af] at hk
    have z0:w.heap.size<wr.heap.size:=HB.out.1
    by_cases hlt:k<ps.length
    · obtain ⟨b,off,x,rfl,hbm,hbs,hx,hc⟩:=H1.out.row (s:=3) (fun _=>rfl) (by omega) hlt
      have hc':=fun j u (hu:(Prt.cells x)[j]?=some u)=>(hb.cell (p:=⟨b,off+k*3+j,none⟩) (am hbm hm)).trans (hc j u hu)
      have g0:wr.cell? ⟨b,off+k*3,none⟩=some (.int .i64 x.lo):=hc' 0 _ rfl
      have g1:=hc' 1 _ rfl
      have g2:=hc' 2 _ rfl
      clear hc hc'
      have HX:=mz hx
      clear hx
      go_wp2_with (go_at_call 120;refine (IB _ _).mono ?_;rintro e w1 ⟨rfl,rfl⟩)
      all_goals first
        | (go_ret
           refine ⟨Fz (k:=3) ?_ rfl,Aq hb _⟩
           go_light
           rw [HE.out]
           refine UZ (pre:=[]) (k:=k) rfl ?_ (by decide) HF.out
           rw [ag,HX.out]
           exact congrArg some (if_neg (fun ⟨a1,a2,a3,a4,a5⟩=>by first|omega|simp_all)))
        | exact ⟨⟨k+1,by rw [af];omega,by go_num,NV (by rw [ag,HX.out];exact congrArg some (if_pos ⟨by assumption,by assumption,by omega,by omega,by omega⟩)) HF.out,HB.out.below (Aq (ab _ _) _) HB.out.1,Aq hb _⟩,by simp [intOf];omega⟩
    · have b0:=HB.out.c0
      have b1:=HB.out.c1
      have b2:=HB.out.c2
      have b3:=HB.out.c3
      have P1:=mz (YN (k:=k) (by rw [af];omega) HF.out)
      clear HF
      go_wp2_with fail
      clear b0 b1 b2 b3 hk hlt
      obtain ⟨w1,hw1⟩:∃ w1,w1=wr:=⟨_,rfl⟩
      rw [←hw1] at HB hb
      rw [←hw1]
      clear hw1 z0
      go_loopw [74] (fun i wr=>Agt w [.slice A1 ps.length c1,.slice A2 is.length c2,.slice A3 xs.length c3,.slice A4 os.length c4] (is.map Rr) i wr) (fun i _=>is.length - (intOf i).toNat)
      case atStart=>exact Qd HB.out hb
      case round =>
        clear HB hb
        obtain ⟨k,hk,rfl,hf,hbox,hb⟩:=hrel
        have HF:=mz hf
        have HB:=mz hbox
        clear hf hbox
        rw [af] at hk
        have z0:w.heap.size<wr.heap.size:=HB.out.1
        by_cases hlt:k<is.length
        · obtain ⟨b,off,z,rfl,hbm,hbs,hx,hc⟩:=H2.out.int_ hlt
          have hc':=(hb.cell (p:=⟨b,off+k,none⟩) (am hbm hm)).trans hc
          clear hc
          have HX:=mz hx
          clear hx
          by_cases hs:Bh z=true
          · go_wp2_with (go_at_call 120;refine (IB _ _).mono ?_;rintro e w1 ⟨rfl,rfl⟩)
            exact ⟨⟨k+1,by rw [af];omega,by go_num,NV (by rw [ag,HX.out];exact congrArg some (if_pos hs)) HF.out,HB.out,hb⟩,by simp [intOf];omega⟩
          · have HS:=mz hs
            have hs:Bh z=false:=by simpa using hs
            go_wp2_with (go_at_call 120;refine (IB _ _).mono ?_;rintro e w1 ⟨rfl,rfl⟩)
            go_ret
            refine ⟨Fz (k:=3) ?_ rfl,hb⟩
            rw [HE.out]
            refine UZ P1.out (k:=k) ?_ (by decide) HF.out
            rw [ag,HX.out]
            exact congrArg some (if_neg HS.out)
        · have b0:=HB.out.c0
          have b1:=HB.out.c1
          have b2:=HB.out.c2
          have b3:=HB.out.c3
          have P2:=mz (YN (k:=k) (by rw [af];omega) HF.out)
          clear HF
          go_wp2_with fail
          clear b0 b1 b2 b3 hk hlt
          obtain ⟨w2,hw2⟩:∃ w2,w2=wr:=⟨_,rfl⟩
          rw [←hw2] at HB hb
          rw [←hw2]
          clear hw2 z0
          go_loopw [86] (fun i wr=>Agt w [.slice A1 ps.length c1,.slice A2 is.length c2,.slice A3 xs.length c3,.slice A4 os.length c4] (xs.map (Ins.err ps.length is.length)) i wr) (fun i _=>xs.length - (intOf i).toNat)
          case atStart=>exact Qd HB.out hb
          case round =>
            clear HB hb
            obtain ⟨k,hk,rfl,hf,hbox,hb⟩:=hrel
            have HF:=mz hf
            have HB:=mz hbox
            clear hf hbox
            rw [af] at hk
            have z0:w.heap.size<wr.heap.size:=HB.out.1
            have b0:=HB.out.c0
            have b1:=HB.out.c1
            have b2:=HB.out.c2
            have b3:=HB.out.c3
            by_cases hlt:k<xs.length
            · obtain ⟨b,off,x,rfl,hbm,hbs,hx,hc⟩:=H3.out.row (s:=7) (fun _=>rfl) (by omega) hlt
              have hc':=fun j u (hu:(Ins.cells x)[j]?=some u)=>(hb.cell (p:=⟨b,off+k*7+j,none⟩) (am hbm hm)).trans (hc j u hu)
              have g0:wr.cell? ⟨b,off+k*7,none⟩=some (.int .i64 x.op):=hc' 0 _ rfl
              have g1:=hc' 1 _ rfl
              have g2:=hc' 2 _ rfl
              have g3:=hc' 3 _ rfl
              have g4:=hc' 4 _ rfl
              have g5:=hc' 5 _ rfl
              have g6:=hc' 6 _ rfl
              clear hc hc'
              have HX:=mz hx
              clear hx
              by_cases hxe:Ins.err ps.length is.length x=0
              · have HXE:=mz hxe
                clear hxe
                go_wp2_with (go_at_call 211;refine (WX _ _ _ _ _ _ _ _ _ _ _ _ _ _ _ _ _ _ _ _ (by omega) (by omega)).mono ?_;rintro e w3 ⟨rfl,hb3⟩;rw [show DP ps.length is.length x.op x.dst x.a x.b x.sa x.sb x.imm=0 from HXE.out,YO])
                exact ⟨⟨k+1,by rw [af];omega,by go_num,NV (by rw [ag,HX.out];exact congrArg some HXE.out) HF.out,(HB.out.below (Aq (ab _ _) _) HB.out.1).below hb3 (by simp;omega),(Aq hb _).trans (hb3.mono (by simp;omega))⟩,by simp [intOf];omega⟩
              · have HXE:=mz hxe
                clear hxe
                have hne:Hid (Hf (DP ps.length is.length x.op x.dst x.a x.b x.sa x.sb x.imm)=.iface 109 (.int .i64 (DP ps.length is.length x.op x.dst x.a x.b x.sa x.sb x.imm))):=Vc HXE.out
                go_wp2_with (go_at_call 211;refine (WX _ _ _ _ _ _ _ _ _ _ _ _ _ _ _ _ _ _ _ _ (by omega) (by omega)).mono ?_;rintro e w3 ⟨rfl,hb3⟩;rw [hne.out])
                go_ret
                refine ⟨Fz (k:=DP ps.length is.length x.op x.dst x.a x.b x.sa x.sb x.imm) ?_ hne.out.symm,(Aq hb _).trans (hb3.mono (by simp;omega))⟩
                rw [HE.out]
                exact Apa P1.out P2.out (k:=k) (by rw [ag,HX.out];rfl) HXE.out HF.out
            · have P3:=mz (YN (k:=k) (by rw [af];omega) HF.out)
              clear HF
              go_wp2_with fail
              clear b0 b1 b2 b3 hk hlt
              obtain ⟨w4,hw4⟩:∃ w4,w4=wr:=⟨_,rfl⟩
              rw [←hw4] at HB hb
              rw [←hw4]
              clear hw4 z0
              go_loopw [100] (fun i wr=>Agt w [.slice A1 ps.length c1,.slice A2 is.length c2,.slice A3 xs.length c3,.slice A4 os.length c4] (os.map (Rs is.length)) i wr) (fun i _=>os.length - (intOf i).toNat)
              case atStart=>exact Qd HB.out hb
              case round =>
                clear HB hb
                obtain ⟨k,hk,rfl,hf,hbox,hb⟩:=hrel
                have HF:=mz hf
                have HB:=mz hbox
                clear hf hbox
                rw [af] at hk
                have z0:w.heap.size<wr.heap.size:=HB.out.1
                have b1:=HB.out.c1
                by_cases hlt:k<os.length
                · obtain ⟨b,off,z,rfl,hbm,hbs,hx,hc⟩:=H4.out.int_ hlt
                  have hc':=(hb.cell (p:=⟨b,off+k,none⟩) (am hbm hm)).trans hc
                  clear hc
                  have HX:=mz hx
                  clear hx
                  go_wp2_with fail
                  all_goals first
                    | (go_ret
                       refine ⟨Fz (k:=10) ?_ rfl,hb⟩
                       go_light
                       rw [HE.out]
                       refine Apb P1.out P2.out P3.out (k:=k) ?_ (by decide) HF.out
                       rw [ag,HX.out]
                       exact congrArg some (if_neg (fun ⟨a1,a2⟩=>by omega)))
                    | exact ⟨⟨k+1,by rw [af];omega,by go_num,NV (by rw [ag,HX.out];exact congrArg some (if_pos (⟨by omega,by omega⟩))) HF.out,HB.out,hb⟩,by simp [intOf];omega⟩
                · have P4:=mz (YN (k:=k) (by rw [af];omega) HF.out)
                  go_wp2_with fail
                  go_ret
                  refine ⟨Fz (k:=0) ?_ rfl,hb⟩
                  rw [HE.out]
                  exact fe2 P1.out (fe2 P2.out (fe2 P3.out P4.out))
theorem Aar {p:Prop} (h:p:=by
 go_enter func119,ntmps119
 go_wp2_with fail
 all_goals
  go_ret
  exact ⟨Fz HE.out rfl,Aq (ab _ _) _⟩):p:=h
theorem AbM (A1 A2 A3 A4:Option Addr) (ps:List Prt) (is:List Int) (xs:List Ins) (os:List Int) (c1 c2 c3 c4:Nat) (w:World) (hn:16<ps.length) :
  Calls prog 119 #[.agg #[.slice A1 ps.length c1,.slice A2 is.length c2,.slice A3 xs.length c3,.slice A4 os.length c4]] w fun e w'=>e=.returned (Hf (Cu ps is xs os))∧Below w.heap.size w w':=by
 have HE:Hid (Cu ps is xs os=4):=if_pos (by omega)
 have hp0:(16:Int)<(ps.length:Int):=by omega
 exact Aar
theorem AbN (A1 A2 A3 A4:Option Addr) (ps:List Prt) (is:List Int) (xs:List Ins) (os:List Int) (c1 c2 c3 c4:Nat) (w:World) (hn:ps.length≤16) (hn2:192<is.length) :
  Calls prog 119 #[.agg #[.slice A1 ps.length c1,.slice A2 is.length c2,.slice A3 xs.length c3,.slice A4 os.length c4]] w fun e w'=>e=.returned (Hf (Cu ps is xs os))∧Below w.heap.size w w':=by
 have HE:Hid (Cu ps is xs os=4):=if_pos (by omega)
 have hp0:(ps.length:Int)≤16:=by omega
 have hp1:(192:Int)<(is.length:Int):=by omega
 exact Aar
theorem AbO (A1 A2 A3 A4:Option Addr) (ps:List Prt) (is:List Int) (xs:List Ins) (os:List Int) (c1 c2 c3 c4:Nat) (w:World) (hn:ps.length≤16) (hn2:is.length≤192) (hn3:256<xs.length) :
  Calls prog 119 #[.agg #[.slice A1 ps.length c1,.slice A2 is.length c2,.slice A3 xs.length c3,.slice A4 os.length c4]] w fun e w'=>e=.returned (Hf (Cu ps is xs os))∧Below w.heap.size w w':=by
 have HE:Hid (Cu ps is xs os=4):=if_pos (by omega)
 have hp0:(ps.length:Int)≤16:=by omega
 have hp1:(is.length:Int)≤192:=by omega
 have hp2:(256:Int)<(xs.length:Int):=by omega
 exact Aar
theorem AbP (A1 A2 A3 A4:Option Addr) (ps:List Prt) (is:List Int) (xs:List Ins) (os:List Int) (c1 c2 c3 c4:Nat) (w:World) (hn:ps.length≤16) (hn2:is.length≤192) (hn3:xs.length≤256) (hn4:16<os.length) :
  Calls prog 119 #[.agg #[.slice A1 ps.length c1,.slice A2 is.length c2,.slice A3 xs.length c3,.slice A4 os.length c4]] w fun e w'=>e=.returned (Hf (Cu ps is xs os))∧Below w.heap.size w w':=by
 have HE:Hid (Cu ps is xs os=4):=if_pos (by omega)
 have hp0:(ps.length:Int)≤16:=by omega
 have hp1:(is.length:Int)≤192:=by omega
 have hp2:(xs.length:Int)≤256:=by omega
 have hp3:(16:Int)<(os.length:Int):=by omega
 exact Aar
theorem Check_any (A1 A2 A3 A4:Option Addr) (ps:List Prt) (is:List Int) (xs:List Ins) (os:List Int) (c1 c2 c3 c4 m:Nat) (w:World) (hm:m≤w.heap.size) (h1:Am w m A1 (NT Prt.cells ps)) (h2:Am w m A2 (Lv is)) (h3:Am w m A3 (NT Ins.cells xs)) (h4:Am w m A4 (Lv os)) :
  Calls prog 119 #[.agg #[.slice A1 ps.length c1,.slice A2 is.length c2,.slice A3 xs.length c3,.slice A4 os.length c4]] w fun e w'=>e=.returned (Hf (Cu ps is xs os))∧Below w.heap.size w w':=by
 by_cases g1:ps.length≤16
 ·by_cases g2:is.length≤192
  ·by_cases g3:xs.length≤256
   ·by_cases g4:os.length≤16
    ·exact Ajx A1 A2 A3 A4 ps is xs os c1 c2 c3 c4 m w hm h1 h2 h3 h4 g1 g2 g3 g4
    ·exact AbP A1 A2 A3 A4 ps is xs os c1 c2 c3 c4 w g1 g2 g3 (by omega)
   ·exact AbO A1 A2 A3 A4 ps is xs os c1 c2 c3 c4 w g1 g2 (by omega)
  ·exact AbN A1 A2 A3 A4 ps is xs os c1 c2 c3 c4 w g1 (by omega)
 ·exact AbM A1 A2 A3 A4 ps is xs os c1 c2 c3 c4 w (by omega)
end Cd
end Go.Proofs.YtmdfjbpggbhgnaaGreatDoor
