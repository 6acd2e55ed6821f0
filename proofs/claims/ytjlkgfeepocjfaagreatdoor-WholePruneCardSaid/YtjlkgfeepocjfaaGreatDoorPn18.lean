/- What the proofs of this claim share, part 18. No conditions. -/
import Derived.Test.YtjlkgfeepocjfaaGreatDoorPn5
import Derived.Test.YtjlkgfeepocjfaaGreatDoorPn3
import Derived.BigGuardPart
import Derived.Deep.Light
set_option maxHeartbeats 4000000
set_option maxRecDepth 100000
set_option linter.all false
open Go.Proofs.Tryz
namespace Go.Proofs.YtjlkgfeepocjfaaGreatDoor
variable {op:Int} {a b:List Int}
namespace Cd
open Go.RowKit
def CB (n:Int):Bool:=decide (-2147483648≤n∧n<2147483648)
def Ls (n:Int):Bool:=decide (-62≤n∧n≤30)
theorem UY {n:Int} (h:CB n=true) : -2147483648≤n∧n<2147483648:=by simpa [CB] using h
theorem Iz (n:Int) (w:World):Calls prog 55 #[.int .i64 n] w fun e w'=>e=.returned (.bool (CB n))∧w=w':=by
 go_enter func55,ntmps55
 go_wp2
 all_goals
  go_ret
  exact ⟨Zp (by simp [CB];omega),rfl⟩
theorem Agp (n:Int) (w:World):Calls prog 207 #[.int .i64 n] w fun e w'=>e=.returned (.bool (Ls n))∧w=w':=by
 go_enter func207,ntmps207
 go_wp2
 all_goals
  go_ret
  exact ⟨Zp (by simp [Ls];omega),rfl⟩
def scl (x k:Int):Int:=if k<0 then x / 2 ^ (-k).toNat else max (-4294967296) (min x 4294967296)*2 ^ k.toNat
theorem Acs (x k:Int) (w:World) (h1 : -62≤k) (h2:k≤30):Calls prog 56 #[.int .i64 x,.int .i64 k] w fun e w'=>e=.returned (.int .i64 (scl x k))∧w=w':=by
 go_enter func56,ntmps56
 go_wp2
 ·have hk:k<0:=by assumption
  go_ret
  exact ⟨AcV (by unfold scl;rw [if_pos hk]),rfl⟩
 ·have hk:0≤k:=by assumption
  go_ret
  refine ⟨AcV ?_,rfl⟩
  obtain ⟨n,rfl⟩:=fh hk
  have hp:(2:Int) ^ n≤2 ^ 30:=by exact_mod_cast ba (by omega) (by omega)
  have hp0:(0:Int)≤2 ^ n:=Int.pow_nonneg (by omega)
  have m1 : -4294967296≤max (-4294967296) (min x 4294967296):=by omega
  have m2:max (-4294967296) (min x 4294967296)≤4294967296:=by omega
  have a:=fq m2 hp0
  have b:=fq m1 hp0
  unfold scl
  rw [if_neg (by omega),ar,Abg (by omega) (by omega)]
def Fk (op:Int):Int × Bool :=
 if op=0∨op=2∨op=5∨op=10 then (5,true) else if op=1 then (16,true) else if op=3∨op=4∨op=8∨op=9 then (15,true) else if op=6 then (21,true) else if op=7 then (7,true) else (0,false)
theorem Apj {u:Int} {b:Bool} (h:(u,b)=Fk op):Ending.returned (.tuple #[.int .i64 u,.bool b])=.returned (.tuple #[.int .i64 (Fk op).1,.bool (Fk op).2]):=by rw [←h]
theorem AaQ (op:Int) (w:World):Calls prog 206 #[.int .i64 op] w fun e w'=>e=.returned (.tuple #[.int .i64 (Fk op).1,.bool (Fk op).2])∧w=w':=by
 go_enter func206,ntmps206
 go_wp2
 all_goals
  go_ret2
  exact ⟨Apj (by simp only [beq_iff_eq,beq_eq_false_iff_ne,ne_eq] at *;simp [Fk, *]),rfl⟩
def Cz (op:Int):Bool × Bool × Bool × Bool × Bool × Bool :=
 if op=0∨op=2∨op=5∨op=10 then (true,false,true,false,false,true) else if op=1 then (false,false,false,false,true,true) else if op=3∨op=4∨op=8∨op=9 then (true,true,true,true,false,true)
 else if op=6 then (true,false,true,false,true,true) else if op=7 then (true,true,true,false,false,true) else (false,false,false,false,false,false)
end Cd
namespace Cd
open Go.RowKit
def DU (np n:Nat) (op dst a b sa sb imm:Int):Int :=
 if (Cz op).2.2.2.2.2=false then 7
 else if ¬ (0≤dst∧dst<n) then 10
 else if (Cz op).1=true∧¬ (0≤a∧a<(if op=0 then (np:Int) else n)) then 10
 else if (Cz op).2.1=true∧¬ (0≤b∧b<n) then 10
 else if (Cz op).2.2.1=true∧Ls sa=false then 3
 else if (Cz op).2.2.2.1=true∧Ls sb=false then 3
 else if (Cz op).2.2.2.2.1=true∧CB imm=false then 3
 else if ((Cz op).1=false∧a≠0)∨((Cz op).2.1=false∧b≠0)∨((Cz op).2.2.1=false∧sa≠0)∨((Cz op).2.2.2.1=false∧sb≠0)∨((Cz op).2.2.2.2.1=false∧imm≠0) then 2
 else 0
theorem Fl {v:Value} {k n:Int} (h:n=k) (hv:v=EK k):Ending.returned v=.returned (EK n):=by rw [hv,h]
theorem Apk {u:Int} (h:Fk op=(u,true)) (w:World):Calls prog 206 #[.int .i64 op] w fun e w'=>e=.returned (.tuple #[.int .i64 u,.bool true])∧w=w' :=
 (AaQ op w).mono fun _ _ ⟨he,hw⟩=>⟨by rw [he,h],hw⟩
end Cd
namespace Cd
open Go.RowKit
theorem Tr {p:Prop} (h:p:=by
  go_enter func125,ntmps125
  go_wp2_with (first
    | (go_at_call 206;refine (Apk HF.out _).mono ?_;rintro e w1 ⟨rfl,rfl⟩)
    | (go_at_call 207;refine (Agp _ _).mono ?_;rintro e w1 ⟨rfl,rfl⟩)
    | (go_at_call 55;refine (Iz _ _).mono ?_;rintro e w1 ⟨rfl,rfl⟩))
  all_goals clear bt1 bt2 bt4 bt8 bt16
  all_goals
    go_ret
    refine ⟨?_,Au (Au (ah _ _) _) _⟩
    go_light
    have hR:=HR.out
    first
      | refine Fl (k:=10) ?_ rfl
      | refine Fl (k:=3) ?_ rfl
      | refine Fl (k:=2) ?_ rfl
      | refine Fl (k:=0) ?_ rfl
    simp only [beq_iff_eq,beq_eq_false_iff_ne,bne_iff_ne,bne_eq_false_iff_eq,ne_eq,lh,Bool.not_eq_false'] at *
    unfold DU
    rw [hR]
    simp only [true_and,false_and,reduceCtorEq,if_false,or_false,false_or,Bool.true_eq_false,dn]
    (repeat' split) <;> first|rfl|omega|(exfalso;simp_all;done)):p:=h
theorem Apl (A1 A2 A3 A4:Option Addr) (n1 n2 n3 n4 c1 c2 c3 c4:Nat) (op dst a b sa sb imm:Int) (w:World) (hF:Fk op=(5,true)) (hR:Cz op=(true,false,true,false,false,true)) (h0:(op == 0)=true) (hn1:n1≤1000000) (hn2:n2≤1000000) :
  Calls prog 125 #[.agg #[.slice A1 n1 c1,.slice A2 n2 c2,.slice A3 n3 c3,.slice A4 n4 c4],.agg #[.int .i64 op,.int .i64 dst,.int .i64 a,.int .i64 b,.int .i64 sa,.int .i64 sb,.int .i64 imm]] w
   fun e w'=>e=.returned (EK (DU n1 n2 op dst a b sa sb imm))∧Below w.heap.size w w':=by
 have HF:Hid (Fk op=(5,true)):=hF
 have HR:Hid (Cz op=(true,false,true,false,false,true)):=hR
 clear hF hR
 have bt1:bits BinOp.and IntKind.i64 5 1=1:=by decide
 have bt2:bits BinOp.and IntKind.i64 5 2=0:=by decide
 have bt4:bits BinOp.and IntKind.i64 5 4=4:=by decide
 have bt8:bits BinOp.and IntKind.i64 5 8=0:=by decide
 have bt16:bits BinOp.and IntKind.i64 5 16=0:=by decide
 exact Tr
theorem Agq (A1 A2 A3 A4:Option Addr) (n1 n2 n3 n4 c1 c2 c3 c4:Nat) (op dst a b sa sb imm:Int) (w:World) (hF:Fk op=(5,true)) (hR:Cz op=(true,false,true,false,false,true)) (h0:(op == 0)=false) (hn1:n1≤1000000) (hn2:n2≤1000000) :
  Calls prog 125 #[.agg #[.slice A1 n1 c1,.slice A2 n2 c2,.slice A3 n3 c3,.slice A4 n4 c4],.agg #[.int .i64 op,.int .i64 dst,.int .i64 a,.int .i64 b,.int .i64 sa,.int .i64 sb,.int .i64 imm]] w
   fun e w'=>e=.returned (EK (DU n1 n2 op dst a b sa sb imm))∧Below w.heap.size w w':=by
 have HF:Hid (Fk op=(5,true)):=hF
 have HR:Hid (Cz op=(true,false,true,false,false,true)):=hR
 clear hF hR
 have bt1:bits BinOp.and IntKind.i64 5 1=1:=by decide
 have bt2:bits BinOp.and IntKind.i64 5 2=0:=by decide
 have bt4:bits BinOp.and IntKind.i64 5 4=4:=by decide
 have bt8:bits BinOp.and IntKind.i64 5 8=0:=by decide
 have bt16:bits BinOp.and IntKind.i64 5 16=0:=by decide
 exact Tr
theorem Acu (A1 A2 A3 A4:Option Addr) (n1 n2 n3 n4 c1 c2 c3 c4:Nat) (op dst a b sa sb imm:Int) (w:World) (hF:Fk op=(16,true)) (hR:Cz op=(false,false,false,false,true,true)) (h0:(op == 0)=false) (hn1:n1≤1000000) (hn2:n2≤1000000) :
  Calls prog 125 #[.agg #[.slice A1 n1 c1,.slice A2 n2 c2,.slice A3 n3 c3,.slice A4 n4 c4],.agg #[.int .i64 op,.int .i64 dst,.int .i64 a,.int .i64 b,.int .i64 sa,.int .i64 sb,.int .i64 imm]] w
   fun e w'=>e=.returned (EK (DU n1 n2 op dst a b sa sb imm))∧Below w.heap.size w w':=by
 have HF:Hid (Fk op=(16,true)):=hF
 have HR:Hid (Cz op=(false,false,false,false,true,true)):=hR
 clear hF hR
 have bt1:bits BinOp.and IntKind.i64 16 1=0:=by decide
 have bt2:bits BinOp.and IntKind.i64 16 2=0:=by decide
 have bt4:bits BinOp.and IntKind.i64 16 4=0:=by decide
 have bt8:bits BinOp.and IntKind.i64 16 8=0:=by decide
 have bt16:bits BinOp.and IntKind.i64 16 16=16:=by decide
 exact Tr
theorem Ajw (A1 A2 A3 A4:Option Addr) (n1 n2 n3 n4 c1 c2 c3 c4:Nat) (op dst a b sa sb imm:Int) (w:World) (hF:Fk op=(15,true)) (hR:Cz op=(true,true,true,true,false,true)) (h0:(op == 0)=false) (hn1:n1≤1000000) (hn2:n2≤1000000) :
  Calls prog 125 #[.agg #[.slice A1 n1 c1,.slice A2 n2 c2,.slice A3 n3 c3,.slice A4 n4 c4],.agg #[.int .i64 op,.int .i64 dst,.int .i64 a,.int .i64 b,.int .i64 sa,.int .i64 sb,.int .i64 imm]] w
   fun e w'=>e=.returned (EK (DU n1 n2 op dst a b sa sb imm))∧Below w.heap.size w w':=by
 have HF:Hid (Fk op=(15,true)):=hF
 have HR:Hid (Cz op=(true,true,true,true,false,true)):=hR
 clear hF hR
 have bt1:bits BinOp.and IntKind.i64 15 1=1:=by decide
 have bt2:bits BinOp.and IntKind.i64 15 2=2:=by decide
 have bt4:bits BinOp.and IntKind.i64 15 4=4:=by decide
 have bt8:bits BinOp.and IntKind.i64 15 8=8:=by decide
 have bt16:bits BinOp.and IntKind.i64 15 16=0:=by decide
 exact Tr
theorem Agr (A1 A2 A3 A4:Option Addr) (n1 n2 n3 n4 c1 c2 c3 c4:Nat) (op dst a b sa sb imm:Int) (w:World) (hF:Fk op=(21,true)) (hR:Cz op=(true,false,true,false,true,true)) (h0:(op == 0)=false) (hn1:n1≤1000000) (hn2:n2≤1000000) :
  Calls prog 125 #[.agg #[.slice A1 n1 c1,.slice A2 n2 c2,.slice A3 n3 c3,.slice A4 n4 c4],.agg #[.int .i64 op,.int .i64 dst,.int .i64 a,.int .i64 b,.int .i64 sa,.int .i64 sb,.int .i64 imm]] w
   fun e w'=>e=.returned (EK (DU n1 n2 op dst a b sa sb imm))∧Below w.heap.size w w':=by
 have HF:Hid (Fk op=(21,true)):=hF
 have HR:Hid (Cz op=(true,false,true,false,true,true)):=hR
 clear hF hR
 have bt1:bits BinOp.and IntKind.i64 21 1=1:=by decide
 have bt2:bits BinOp.and IntKind.i64 21 2=0:=by decide
 have bt4:bits BinOp.and IntKind.i64 21 4=4:=by decide
 have bt8:bits BinOp.and IntKind.i64 21 8=0:=by decide
 have bt16:bits BinOp.and IntKind.i64 21 16=16:=by decide
 exact Tr
theorem Ajx (A1 A2 A3 A4:Option Addr) (n1 n2 n3 n4 c1 c2 c3 c4:Nat) (op dst a b sa sb imm:Int) (w:World) (hF:Fk op=(7,true)) (hR:Cz op=(true,true,true,false,false,true)) (h0:(op == 0)=false) (hn1:n1≤1000000) (hn2:n2≤1000000) :
  Calls prog 125 #[.agg #[.slice A1 n1 c1,.slice A2 n2 c2,.slice A3 n3 c3,.slice A4 n4 c4],.agg #[.int .i64 op,.int .i64 dst,.int .i64 a,.int .i64 b,.int .i64 sa,.int .i64 sb,.int .i64 imm]] w
   fun e w'=>e=.returned (EK (DU n1 n2 op dst a b sa sb imm))∧Below w.heap.size w w':=by
 have HF:Hid (Fk op=(7,true)):=hF
 have HR:Hid (Cz op=(true,true,true,false,false,true)):=hR
 clear hF hR
 have bt1:bits BinOp.and IntKind.i64 7 1=1:=by decide
 have bt2:bits BinOp.and IntKind.i64 7 2=2:=by decide
 have bt4:bits BinOp.and IntKind.i64 7 4=4:=by decide
 have bt8:bits BinOp.and IntKind.i64 7 8=0:=by decide
 have bt16:bits BinOp.and IntKind.i64 7 16=0:=by decide
 exact Tr
end Cd
namespace Cd
open Go.RowKit
end Cd
namespace Cd
open Go.RowKit
theorem Ags (h:(Cz op).2.2.2.2.2=false):Fk op=(0,false):=by
 unfold Cz at h
 unfold Fk
 repeat' split at h
 all_goals simp_all
theorem Ajy (h:Fk op=(0,false)) (w:World):Calls prog 206 #[.int .i64 op] w fun e w'=>e=.returned (.tuple #[.int .i64 0,.bool false])∧w=w' :=
 (AaQ op w).mono fun _ _ ⟨he,hw⟩=>⟨by rw [he,h],hw⟩
section
variable (A1 A2 A3 A4:Option Addr) (n1 n2 n3 n4 c1 c2 c3 c4:Nat) (op dst a b sa sb imm:Int) (w:World)
theorem Ajz (h:(Cz op).2.2.2.2.2=false) :
  Calls prog 125 #[.agg #[.slice A1 n1 c1,.slice A2 n2 c2,.slice A3 n3 c3,.slice A4 n4 c4],.agg #[.int .i64 op,.int .i64 dst,.int .i64 a,.int .i64 b,.int .i64 sa,.int .i64 sb,.int .i64 imm]] w
   fun e w'=>e=.returned (EK (DU n1 n2 op dst a b sa sb imm))∧Below w.heap.size w w':=by
 have HF:Hid (Fk op=(0,false)):=Ags h
 have HE:Hid (DU n1 n2 op dst a b sa sb imm=7):=if_pos h
 clear h
 go_enter func125,ntmps125
 go_wp2_with (go_at_call 206;refine (Ajy HF.out _).mono ?_;rintro e w1 ⟨rfl,rfl⟩)
 go_ret
 exact ⟨Fl HE.out rfl,Au (Au (ah _ _) _) _⟩
theorem Agt (op:Int):(Cz op).2.2.2.2.2=false∨(op=0)∨(op=2∨op=5∨op=10)∨op=1∨(op=3∨op=4∨op=8∨op=9)∨op=6∨op=7:=by
 by_cases h:(Cz op).2.2.2.2.2=false
 ·exact .inl h
 ·right
  unfold Cz at h
  repeat' split at h
  all_goals first|omega|(exfalso;exact h rfl)
theorem Mu (hn1:n1≤1000000) (hn2:n2≤1000000) :
  Calls prog 125 #[.agg #[.slice A1 n1 c1,.slice A2 n2 c2,.slice A3 n3 c3,.slice A4 n4 c4],.agg #[.int .i64 op,.int .i64 dst,.int .i64 a,.int .i64 b,.int .i64 sa,.int .i64 sb,.int .i64 imm]] w
   fun e w'=>e=.returned (EK (DU n1 n2 op dst a b sa sb imm))∧Below w.heap.size w w':=by
 rcases Agt op with h|h|h|h|h|h|h
 ·exact Ajz _ _ _ _ _ _ _ _ _ _ _ _ _ _ _ _ _ _ _ _ h
 ·subst h;exact Apl _ _ _ _ _ _ _ _ _ _ _ _ _ _ _ _ _ _ _ _ rfl rfl rfl hn1 hn2
 ·rcases h with rfl|rfl|rfl <;> exact Agq _ _ _ _ _ _ _ _ _ _ _ _ _ _ _ _ _ _ _ _ rfl rfl rfl hn1 hn2
 ·subst h;exact Acu _ _ _ _ _ _ _ _ _ _ _ _ _ _ _ _ _ _ _ _ rfl rfl rfl hn1 hn2
 ·rcases h with rfl|rfl|rfl|rfl <;> exact Ajw _ _ _ _ _ _ _ _ _ _ _ _ _ _ _ _ _ _ _ _ rfl rfl rfl hn1 hn2
 ·subst h;exact Agr _ _ _ _ _ _ _ _ _ _ _ _ _ _ _ _ _ _ _ _ rfl rfl rfl hn1 hn2
 ·subst h;exact Ajx _ _ _ _ _ _ _ _ _ _ _ _ _ _ _ _ _ _ _ _ rfl rfl rfl hn1 hn2
end
end Cd
namespace Cd
open Go.RowKit
def UZ (p:Prt):Int:=if CB p.lo=true∧CB p.hi=true∧p.lo≤p.hi∧0≤p.fr∧p.fr≤30 then 0 else 3
def Va (n:Int):Int:=if CB n=true then 0 else 3
def Ts (n:Nat) (o:Int):Int:=if 0≤o∧o<n then 0 else 10
def Ins.err (np n:Nat) (x:Ins):Int:=DU np n x.op x.dst x.a x.b x.sa x.sb x.imm
def Cr (ps:List Prt) (is:List Int) (xs:List Ins) (os:List Int):Int :=
 if ¬ (ps.length≤16∧is.length≤192∧xs.length≤256∧os.length≤16) then 4
 else Ai (ps.map UZ++(is.map Va++(xs.map (Ins.err ps.length is.length)++os.map (Ts is.length))))
def Agu (w:World) (vs:List Value) (es:List Int) (i:Value) (wr:World):Prop:=∃ k:Nat,k≤es.length∧i=.int .i64 k∧Ai (es.take k)=0∧Ld wr w.heap.size vs∧Below w.heap.size w wr
theorem PO {w wr:World} {vs:List Value} {es:List Int} (hb:Ld wr w.heap.size vs) (hw:Below w.heap.size w wr):Agu w vs es (.int .i64 0) wr:=⟨0,af _,rfl,rfl,hb,hw⟩
theorem fe2 (ha:Ai a=0) (hb:Ai b=0):Ai (a++b)=0:=by rw [Aw,if_pos ha,hb]
theorem Apm {l post:List Int} {k:Nat} {e:Int} (ha:Ai a=0) (hb:Ai b=0) (h:l[k]?=some e) (he:e≠0) (ht:Ai (l.take k)=0):Ai (a++(b++(l++post)))=e:=by
 rw [←jl];exact Vt (fe2 ha hb) h he ht
theorem Apn {c l:List Int} {k:Nat} {e:Int} (ha:Ai a=0) (hb:Ai b=0) (hc:Ai c=0) (h:l[k]?=some e) (he:e≠0) (ht:Ai (l.take k)=0):Ai (a++(b++(c++l)))=e:=by
 rw [Aw,if_pos ha,Aw,if_pos hb,Aw,if_pos hc,Zq h he ht]
theorem AjA (A1 A2 A3 A4:Option Addr) (ps:List Prt) (is:List Int) (xs:List Ins) (os:List Int) (c1 c2 c3 c4 m:Nat) (w:World) (hm:m≤w.heap.size) (h1:Aj w m A1 (Eg Prt.cells ps)) (h2:Aj w m A2 (CR is)) (h3:Aj w m A3 (Eg Ins.cells xs)) (h4:Aj w m A4 (CR os))
    (l1:ps.length≤16) (l2:is.length≤192) (l3:xs.length≤256) (l4:os.length≤16) :
    Calls prog 54 #[.agg #[.slice A1 ps.length c1,.slice A2 is.length c2,.slice A3 xs.length c3,.slice A4 os.length c4]] w fun e w'=>e=.returned (EK (Cr ps is xs os))∧Below w.heap.size w w':=by
  have H1:=mi h1
  have H2:=mi h2
  have H3:=mi h3
  have H4:=mi h4
  have HE:Hid (Cr ps is xs os=Ai (ps.map UZ++(is.map Va++(xs.map (Ins.err ps.length is.length)++os.map (Ts is.length))))):=if_neg (by simp;omega)
  clear h1 h2 h3 h4
  have l1':(ps.length:Int)≤16:=by omega
  have l2':(is.length:Int)≤192:=by omega
  have l3':(xs.length:Int)≤256:=by omega
  have l4':(os.length:Int)≤16:=by omega
  go_enter func54,ntmps54
  go_wp2_with fail
  all_goals try (exfalso;omega)
  go_loopw [38] (fun i wr=>Agu w [.slice A1 ps.length c1,.slice A2 is.length c2,.slice A3 xs.length c3,.slice A4 os.length c4] (ps.map UZ) i wr) (fun i _=>ps.length - (intOf i).toNat)
  case atStart=>exact PO (Ld.new_ _ _ _) (Au (ah _ _) _)
  case round =>
    obtain ⟨k,hk,rfl,hf,hbox,hb⟩:=hrel
    have HF:=mi hf
    have HB:=mi hbox
    clear hf hbox
    rw [ad] at hk
    have z0:w.heap.size<wr.heap.size:=HB.out.1
    by_cases hlt:k<ps.length
    · obtain ⟨b,off,x,rfl,hbm,hbs,hx,hc⟩:=H1.out.row (s:=3) (fun _=>rfl) (by omega) hlt
      have hc':=fun j u (hu:(Prt.cells x)[j]?=some u)=>(hb.cell (p:=⟨b,off+k*3+j,none⟩) (au hbm hm)).trans (hc j u hu)
      have g0:wr.cell? ⟨b,off+k*3,none⟩=some (.int .i64 x.lo):=hc' 0 _ rfl
      have g1:=hc' 1 _ rfl
      have g2:=hc' 2 _ rfl
      clear hc hc'
      have HX:=mi hx
      clear hx
      go_wp2_with (go_at_call 55;refine (Iz _ _).mono ?_;rintro e w1 ⟨rfl,rfl⟩)
      all_goals first
        | (go_ret
           refine ⟨Fl (k:=3) ?_ rfl,Au hb _⟩
           go_light
           rw [HE.out]
           refine Vt (pre:=[]) (k:=k) rfl ?_ (by decide) HF.out
           rw [ag,HX.out]
           exact congrArg some (if_neg (fun ⟨a1,a2,a3,a4,a5⟩=>by first|omega|simp_all)))
        | exact ⟨⟨k+1,by rw [ad];omega,by go_num,Ng (by rw [ag,HX.out];exact congrArg some (if_pos ⟨by assumption,by assumption,by omega,by omega,by omega⟩)) HF.out,HB.out.below (Au (ah _ _) _) HB.out.1,Au hb _⟩,by simp [intOf];omega⟩
    · have b0:=HB.out.c0
      have b1:=HB.out.c1
      have b2:=HB.out.c2
      have b3:=HB.out.c3
      have P1:=mi (Gi (k:=k) (by rw [ad];omega) HF.out)
      clear HF
      go_wp2_with fail
      clear b0 b1 b2 b3 hk hlt
      obtain ⟨w1,hw1⟩:∃ w1,w1=wr:=⟨_,rfl⟩
      rw [←hw1] at HB hb
      rw [←hw1]
      clear hw1 z0
      go_loopw [74] (fun i wr=>Agu w [.slice A1 ps.length c1,.slice A2 is.length c2,.slice A3 xs.length c3,.slice A4 os.length c4] (is.map Va) i wr) (fun i _=>is.length - (intOf i).toNat)
      case atStart=>exact PO HB.out hb
      case round =>
        clear HB hb
        obtain ⟨k,hk,rfl,hf,hbox,hb⟩:=hrel
        have HF:=mi hf
        have HB:=mi hbox
        clear hf hbox
        rw [ad] at hk
        have z0:w.heap.size<wr.heap.size:=HB.out.1
        by_cases hlt:k<is.length
        · obtain ⟨b,off,z,rfl,hbm,hbs,hx,hc⟩:=H2.out.int_ hlt
          have hc':=(hb.cell (p:=⟨b,off+k,none⟩) (au hbm hm)).trans hc
          clear hc
          have HX:=mi hx
          clear hx
          by_cases hs:CB z=true
          · go_wp2_with (go_at_call 55;refine (Iz _ _).mono ?_;rintro e w1 ⟨rfl,rfl⟩)
            exact ⟨⟨k+1,by rw [ad];omega,by go_num,Ng (by rw [ag,HX.out];exact congrArg some (if_pos hs)) HF.out,HB.out,hb⟩,by simp [intOf];omega⟩
          · have HS:=mi hs
            have hs:CB z=false:=by simpa using hs
            go_wp2_with (go_at_call 55;refine (Iz _ _).mono ?_;rintro e w1 ⟨rfl,rfl⟩)
            go_ret
            refine ⟨Fl (k:=3) ?_ rfl,hb⟩
            rw [HE.out]
            refine Vt P1.out (k:=k) ?_ (by decide) HF.out
            rw [ag,HX.out]
            exact congrArg some (if_neg HS.out)
        · have b0:=HB.out.c0
          have b1:=HB.out.c1
          have b2:=HB.out.c2
          have b3:=HB.out.c3
          have P2:=mi (Gi (k:=k) (by rw [ad];omega) HF.out)
          clear HF
          go_wp2_with fail
          clear b0 b1 b2 b3 hk hlt
          obtain ⟨w2,hw2⟩:∃ w2,w2=wr:=⟨_,rfl⟩
          rw [←hw2] at HB hb
          rw [←hw2]
          clear hw2 z0
          go_loopw [86] (fun i wr=>Agu w [.slice A1 ps.length c1,.slice A2 is.length c2,.slice A3 xs.length c3,.slice A4 os.length c4] (xs.map (Ins.err ps.length is.length)) i wr) (fun i _=>xs.length - (intOf i).toNat)
          case atStart=>exact PO HB.out hb
          case round =>
            clear HB hb
            obtain ⟨k,hk,rfl,hf,hbox,hb⟩:=hrel
            have HF:=mi hf
            have HB:=mi hbox
            clear hf hbox
            rw [ad] at hk
            have z0:w.heap.size<wr.heap.size:=HB.out.1
            have b0:=HB.out.c0
            have b1:=HB.out.c1
            have b2:=HB.out.c2
            have b3:=HB.out.c3
            by_cases hlt:k<xs.length
            · obtain ⟨b,off,x,rfl,hbm,hbs,hx,hc⟩:=H3.out.row (s:=7) (fun _=>rfl) (by omega) hlt
              have hc':=fun j u (hu:(Ins.cells x)[j]?=some u)=>(hb.cell (p:=⟨b,off+k*7+j,none⟩) (au hbm hm)).trans (hc j u hu)
              have g0:wr.cell? ⟨b,off+k*7,none⟩=some (.int .i64 x.op):=hc' 0 _ rfl
              have g1:=hc' 1 _ rfl
              have g2:=hc' 2 _ rfl
              have g3:=hc' 3 _ rfl
              have g4:=hc' 4 _ rfl
              have g5:=hc' 5 _ rfl
              have g6:=hc' 6 _ rfl
              clear hc hc'
              have HX:=mi hx
              clear hx
              by_cases hxe:Ins.err ps.length is.length x=0
              · have HXE:=mi hxe
                clear hxe
                go_wp2_with (go_at_call 125;refine (Mu _ _ _ _ _ _ _ _ _ _ _ _ _ _ _ _ _ _ _ _ (by omega) (by omega)).mono ?_;rintro e w3 ⟨rfl,hb3⟩;rw [show DU ps.length is.length x.op x.dst x.a x.b x.sa x.sb x.imm=0 from HXE.out,Gj])
                exact ⟨⟨k+1,by rw [ad];omega,by go_num,Ng (by rw [ag,HX.out];exact congrArg some HXE.out) HF.out,(HB.out.below (Au (ah _ _) _) HB.out.1).below hb3 (by simp;omega),(Au hb _).trans (hb3.mono (by simp;omega))⟩,by simp [intOf];omega⟩
              · have HXE:=mi hxe
                clear hxe
                have hne:Hid (EK (DU ps.length is.length x.op x.dst x.a x.b x.sa x.sb x.imm)=.iface 85 (.int .i64 (DU ps.length is.length x.op x.dst x.a x.b x.sa x.sb x.imm))):=Mg HXE.out
                go_wp2_with (go_at_call 125;refine (Mu _ _ _ _ _ _ _ _ _ _ _ _ _ _ _ _ _ _ _ _ (by omega) (by omega)).mono ?_;rintro e w3 ⟨rfl,hb3⟩;rw [hne.out])
                go_ret
                refine ⟨Fl (k:=DU ps.length is.length x.op x.dst x.a x.b x.sa x.sb x.imm) ?_ hne.out.symm,(Au hb _).trans (hb3.mono (by simp;omega))⟩
                rw [HE.out]
                exact Apm P1.out P2.out (k:=k) (by rw [ag,HX.out];rfl) HXE.out HF.out
            · have P3:=mi (Gi (k:=k) (by rw [ad];omega) HF.out)
              clear HF
              go_wp2_with fail
              clear b0 b1 b2 b3 hk hlt
              obtain ⟨w4,hw4⟩:∃ w4,w4=wr:=⟨_,rfl⟩
              rw [←hw4] at HB hb
              rw [←hw4]
              clear hw4 z0
              go_loopw [100] (fun i wr=>Agu w [.slice A1 ps.length c1,.slice A2 is.length c2,.slice A3 xs.length c3,.slice A4 os.length c4] (os.map (Ts is.length)) i wr) (fun i _=>os.length - (intOf i).toNat)
              case atStart=>exact PO HB.out hb
              case round =>
                clear HB hb
                obtain ⟨k,hk,rfl,hf,hbox,hb⟩:=hrel
                have HF:=mi hf
                have HB:=mi hbox
                clear hf hbox
                rw [ad] at hk
                have z0:w.heap.size<wr.heap.size:=HB.out.1
                have b1:=HB.out.c1
                by_cases hlt:k<os.length
                · obtain ⟨b,off,z,rfl,hbm,hbs,hx,hc⟩:=H4.out.int_ hlt
                  have hc':=(hb.cell (p:=⟨b,off+k,none⟩) (au hbm hm)).trans hc
                  clear hc
                  have HX:=mi hx
                  clear hx
                  go_wp2_with fail
                  all_goals first
                    | (go_ret
                       refine ⟨Fl (k:=10) ?_ rfl,hb⟩
                       go_light
                       rw [HE.out]
                       refine Apn P1.out P2.out P3.out (k:=k) ?_ (by decide) HF.out
                       rw [ag,HX.out]
                       exact congrArg some (if_neg (fun ⟨a1,a2⟩=>by omega)))
                    | exact ⟨⟨k+1,by rw [ad];omega,by go_num,Ng (by rw [ag,HX.out];exact congrArg some (if_pos (⟨by omega,by omega⟩))) HF.out,HB.out,hb⟩,by simp [intOf];omega⟩
                · have P4:=mi (Gi (k:=k) (by rw [ad];omega) HF.out)
                  go_wp2_with fail
                  go_ret
                  refine ⟨Fl (k:=0) ?_ rfl,hb⟩
                  rw [HE.out]
                  exact fe2 P1.out (fe2 P2.out (fe2 P3.out P4.out))
theorem AaR {p:Prop} (h:p:=by
 go_enter func54,ntmps54
 go_wp2_with fail
 all_goals
  go_ret
  exact ⟨Fl HE.out rfl,Au (ah _ _) _⟩):p:=h
theorem Acv (A1 A2 A3 A4:Option Addr) (ps:List Prt) (is:List Int) (xs:List Ins) (os:List Int) (c1 c2 c3 c4:Nat) (w:World) (hn:16<ps.length) :
  Calls prog 54 #[.agg #[.slice A1 ps.length c1,.slice A2 is.length c2,.slice A3 xs.length c3,.slice A4 os.length c4]] w fun e w'=>e=.returned (EK (Cr ps is xs os))∧Below w.heap.size w w':=by
 have HE:Hid (Cr ps is xs os=4):=if_pos (by omega)
 have hp0:(16:Int)<(ps.length:Int):=by omega
 exact AaR
theorem Acw (A1 A2 A3 A4:Option Addr) (ps:List Prt) (is:List Int) (xs:List Ins) (os:List Int) (c1 c2 c3 c4:Nat) (w:World) (hn:ps.length≤16) (hn2:192<is.length) :
  Calls prog 54 #[.agg #[.slice A1 ps.length c1,.slice A2 is.length c2,.slice A3 xs.length c3,.slice A4 os.length c4]] w fun e w'=>e=.returned (EK (Cr ps is xs os))∧Below w.heap.size w w':=by
 have HE:Hid (Cr ps is xs os=4):=if_pos (by omega)
 have hp0:(ps.length:Int)≤16:=by omega
 have hp1:(192:Int)<(is.length:Int):=by omega
 exact AaR
theorem Acx (A1 A2 A3 A4:Option Addr) (ps:List Prt) (is:List Int) (xs:List Ins) (os:List Int) (c1 c2 c3 c4:Nat) (w:World) (hn:ps.length≤16) (hn2:is.length≤192) (hn3:256<xs.length) :
  Calls prog 54 #[.agg #[.slice A1 ps.length c1,.slice A2 is.length c2,.slice A3 xs.length c3,.slice A4 os.length c4]] w fun e w'=>e=.returned (EK (Cr ps is xs os))∧Below w.heap.size w w':=by
 have HE:Hid (Cr ps is xs os=4):=if_pos (by omega)
 have hp0:(ps.length:Int)≤16:=by omega
 have hp1:(is.length:Int)≤192:=by omega
 have hp2:(256:Int)<(xs.length:Int):=by omega
 exact AaR
theorem Acy (A1 A2 A3 A4:Option Addr) (ps:List Prt) (is:List Int) (xs:List Ins) (os:List Int) (c1 c2 c3 c4:Nat) (w:World) (hn:ps.length≤16) (hn2:is.length≤192) (hn3:xs.length≤256) (hn4:16<os.length) :
  Calls prog 54 #[.agg #[.slice A1 ps.length c1,.slice A2 is.length c2,.slice A3 xs.length c3,.slice A4 os.length c4]] w fun e w'=>e=.returned (EK (Cr ps is xs os))∧Below w.heap.size w w':=by
 have HE:Hid (Cr ps is xs os=4):=if_pos (by omega)
 have hp0:(ps.length:Int)≤16:=by omega
 have hp1:(is.length:Int)≤192:=by omega
 have hp2:(xs.length:Int)≤256:=by omega
 have hp3:(16:Int)<(os.length:Int):=by omega
 exact AaR
theorem Check_any (A1 A2 A3 A4:Option Addr) (ps:List Prt) (is:List Int) (xs:List Ins) (os:List Int) (c1 c2 c3 c4 m:Nat) (w:World) (hm:m≤w.heap.size) (h1:Aj w m A1 (Eg Prt.cells ps)) (h2:Aj w m A2 (CR is)) (h3:Aj w m A3 (Eg Ins.cells xs)) (h4:Aj w m A4 (CR os)) :
  Calls prog 54 #[.agg #[.slice A1 ps.length c1,.slice A2 is.length c2,.slice A3 xs.length c3,.slice A4 os.length c4]] w fun e w'=>e=.returned (EK (Cr ps is xs os))∧Below w.heap.size w w':=by
 by_cases g1:ps.length≤16
 ·by_cases g2:is.length≤192
  ·by_cases g3:xs.length≤256
   ·by_cases g4:os.length≤16
    ·exact AjA A1 A2 A3 A4 ps is xs os c1 c2 c3 c4 m w hm h1 h2 h3 h4 g1 g2 g3 g4
    ·exact Acy A1 A2 A3 A4 ps is xs os c1 c2 c3 c4 w g1 g2 g3 (by omega)
   ·exact Acx A1 A2 A3 A4 ps is xs os c1 c2 c3 c4 w g1 g2 (by omega)
  ·exact Acw A1 A2 A3 A4 ps is xs os c1 c2 c3 c4 w g1 (by omega)
 ·exact Acv A1 A2 A3 A4 ps is xs os c1 c2 c3 c4 w (by omega)
end Cd
end Go.Proofs.YtjlkgfeepocjfaaGreatDoor
