/- What the proofs of this claim share, part 17. No conditions. -/
import Derived.Test.YtmdfjbpggbhgnaaGreatDoorHd16
import Derived.Test.YtmdfjbpggbhgnaaGreatDoorHd15
import Derived.Test.YtmdfjbpggbhgnaaGreatDoorHd11
import Derived.Test.YtmdfjbpggbhgnaaGreatDoorHd7
import Derived.Test.YtmdfjbpggbhgnaaGreatDoorHd8
import Derived.Test.YtmdfjbpggbhgnaaGreatDoorHd9
set_option maxRecDepth 100000
set_option maxHeartbeats 8000000
set_option linter.all false
open Go.Proofs.Tryz
namespace Go.Proofs.YtmdfjbpggbhgnaaGreatDoor
open Go.RowKit
variable {p':Prop} {id n s ty:Nat} {ps:List Prt} {bs:List Bk} {F os:List Int} {E:List Pq} {qs:List (Rv × Rv)} {rs:List Rv} {r:Rv} {w:World} {S:DH} {P:Program} {fn:Func} {f:FuncId} {xs:Array Operand} {ts:Array TypeId} {H:List Ob}
def Ajj (mk:Bool) (E:List Pq):D:=.row mk 3 E.length (Ay dyP E)
def dCx (u:Bool) (c:Ct) (xd:D):List D:=[AU u c.F,.row false 6 c.R.length (Ay (dIw false) c.R),xd]
def AsU {p:Prop} (h:p:=by first|exact xIr Af (AG hk)|exact xIr Af (AG hFr)|exact xIr Af (hEr)):p:=h
def AkH {p:Prop} (k:p') (h:Hd9 p'→p:=by with_reducible first|(intro Z9;refine qq ?_;exact Z9.o)|(intro Z9;refine Tx 0 ?_;refine gN (xAl Ao) ?_;exact Z9.o)|(intro Z9;refine Tx 1 ?_;refine gO xF <| gO xD <| gO xM <| gO AsU <| gO xD <| gO xA ?_;exact Z9.o)|(intro Z9;refine BU (id:=2) AN (by kernel_rfl) ?_;refine gP xD <| gP xF <| gP xD <| gP xM <| gP AsU <| gP xD <| gP xGe ?_;refine Ke ?_;exact Z9.o)|(intro Z9;refine Tx 3 ?_;refine gO xD <| gO xM <| gO (xIr Ah (hEr)) <| gO xL <| gZ (xSk Ad) ?_;exact Z9.o)|(intro Z9;refine AE (id:=4) 6 AN (by kernel_rfl) ?_;dsimp only [List.take,List.drop];refine gP xD <| gP xM <| gP (xIr Ah (hEr)) <| gP xL <| gP xL <| gP (xCl func152 (AD)) ?_;refine Ke ?_;refine gZ (xSk Ad) ?_;exact Z9.o)|fail):p:=h ⟨k⟩
def Eh {p:Prop} (h:p:=by
 exact AH rfl (.cons_ (rvW Ad rfl) .nil_)):p:=h
def EN (mk:Bool) (xd:D) (t u:Bool) (c:Ct) (E:List Pq) (y:Bk) (s:Int) (s0:0≤s) (s1:s≤30) (sE:∀ p∈E,Sm p LB LB) (k:Nat) {r:Nat} (hk:y.args[k]?=some (r:Int)) (hr:r<c.F.length) (hr2:r<E.length) (ha:y.args.length≤1000000) (hv:c.F.length≤1000000) (hv2:E.length≤1000000):CV prog An 220 [aI (k:Int),.one (.ptr true (dBk t y)),.one (.ptr true [dI s]),.one (.ptr true (dCx u c xd)),.one (.ptr true [Ajj mk E]),.one (.ptr true (dDy false (pw (-s)).1 (pw (-s)).2))] [aDy false (mvP c.F E s (r:Int)).1 (mvP c.F E s (r:Int)).2]:=by
 refine cvz func220 ntmps220 ?_
 have l1:=(gS.1 hk).1
 have hFr:=Xh (F:=c.F) (k:=r) (by omega)
 have hEr:=AkF (E:=E) (k:=r) (by omega)
 have sm:=CY sE r
 obtain ⟨e,he⟩:∃ e,E[r]?.getD (0,0)=e:=⟨_,rfl⟩
 rw [he] at sm hEr
 have um:=WG s0 s1
 have AD:=Ds e.1 e.2 (pw (-s)).1 (pw (-s)).2 sm.ok um.ok sm.lz um.lz
 by_cases h:scA c.F r≤s
 case pos =>
  rw [show mvP c.F E s (r:Int)=e by unfold mvP;rw [Ph,if_pos h,Tk,he]]
  repeat' (with_reducible first|refine AkH ?_)
  exact Eh
 rw [show mvP c.F E s (r:Int)=Du e (pw (-s)) by unfold mvP;rw [Ph,if_neg h,Tk,he]]
 repeat' (with_reducible first|refine AkH ?_)
 exact Eh
def OJ (b:Bool) (s:Int):CV prog An 221 [aB b,.one (.ptr true (dDy false (pw (-s)).1 (pw (-s)).2))] [aDy false (ixP b s).1 (ixP b s).2]:=by
 refine cvz func221 ntmps221 ?_
 cases b
 case true =>
  rw [show ixP true s=pw (-s) from rfl]
  repeat' (with_reducible first|refine qq ?_|(refine Tx 0 ?_;refine gN (xAl Ao) ?_)|(refine Tx 1 ?_;refine gO xM ?_)|(refine Tx 2 ?_;refine gO xL <| gZ (xSk Ad) ?_))
  exact Eh
 case false =>
  rw [show ixP false s=(0,0) from rfl,Ml]
  repeat' (with_reducible first|refine qq ?_|(refine Tx 0 ?_;refine gN (xAl Ao) ?_)|(refine Tx 1 ?_;refine gO xM ?_)|(refine Tx 3 ?_;refine gO (by exact Az rfl MT rfl rfl) <| gZ (xSk Ad) ?_))
  exact AH rfl (.cons_ (Avi Ad rfl) .nil_)
def GH {p:Prop} (k:p') (h:Hd9 p'→p:=by with_reducible first|(intro Z9;refine qq ?_;exact Z9.o)|(intro Z9;refine Tx 0 ?_;refine gN xBo <| gN xBo <| gN xBo <| gN (xAl Ao) ?_;exact Z9.o)|(intro Z9;refine Tx 3 ?_;refine gO xD <| gO (xCl func218 (UN)) <| gN (xAl Ao) <| gZ (xSk Ad) ?_;exact Z9.o)|(intro Z9;refine Tx 4 ?_;refine gO (by first|exact xMf [(4,0,none),(5,0,none),(1,0,none),(2,0,none),(6,0,none)]|exact CS rfl (by repeat' first|exact BJ rfl rfl|refine AZ rfl rfl rfl ?_)) <| gO xA ?_;exact Z9.o)|(intro Z9;refine Tx 5 ?_;refine gO (by first|exact xMf [(6,0,none)]|exact CS rfl (by repeat' first|exact BJ rfl rfl|refine AZ rfl rfl rfl ?_)) <| gO xA ?_;exact Z9.o)|(intro Z9;refine Tx 6 ?_;refine gO xF <| gO xD ?_;exact Z9.o)|(intro Z9;refine Tx 7 ?_;refine gO xEq <| gO xA ?_;exact Z9.o)|fail):p:=h ⟨k⟩
def Aot {p:Prop} (h:p:=by first|exact xS1 Ar|exact xSk Ar):p:=h
def Iy {p:Prop} (k:p') (h:Hd9 p'→p:=by with_reducible first|(intro Z9;refine Tx 1 ?_;refine gO xF <| gO xD <| gO xM <| gO (xIr Al (Fb hy)) <| gO xL <| gN (xAl Cm) <| gZ (xSk BW) ?_;exact Z9.o)|(intro Z9;refine Tx 2 ?_;refine gO xF <| gO xD <| gO xM <| gO (xIr Af (AG hFi)) <| gO xD <| gN (xAl BV) <| gZ Aot ?_;exact Z9.o)|fail):p:=h ⟨k⟩
def Hd {p:Prop} (k:p') (h:Hd9 p'→p:=by with_reducible first|(intro Z9;refine Tx 9 ?_;refine gO xEq <| gO xA ?_;exact Z9.o)|fail):p:=h ⟨k⟩
def Iz {p:Prop} (k:p') (h:Hd9 p'→p:=by with_reducible first|(intro Z9;refine Tx 11 ?_;refine gO xEq <| gO xA ?_;exact Z9.o)|fail):p:=h ⟨k⟩
def LU {p:Prop} (k:p') (h:Hd9 p'→p:=by with_reducible first|(intro Z9;refine Tx 12 ?_;refine gO xEq <| gO xA ?_;exact Z9.o)|fail):p:=h ⟨k⟩
def AsV {p:Prop} (h:p:=by first|exact xCl func222 (WH)|exact xCl func222 (WU)):p:=h
def FI {p:Prop} (h:p:=by first|exact xNt|exact xNg):p:=h
def AkI {p:Prop} (k:p') (h:Hd9 p'→p:=by with_reducible first|(intro Z9;refine AE (id:=27) 17 AN (by kernel_rfl) ?_;dsimp only [List.take,List.drop];refine gP xM <| gP (xCc func220 M0 (args:=[_]) rfl) <| gP xM <| gP xF <| gP xL <| gP xD <| gP AsV <| gP FI <| gP xM ?_;(first|iterate 5 refine Kd ?_|(refine Ky (xFa Ht BP) ?_;refine Ky (xLa BP) ?_;refine Ky (xLd Ar) ?_;refine Ky AsV ?_;refine Ky FI ?_));refine gP xPk <| gP (xCc func221 IX (args:=[_]) rfl) <| gP (xCl func156 (C)) ?_;refine Ke ?_;refine gZ (xSk Ad) ?_;exact Z9.o)|fail):p:=h ⟨k⟩
def Aou {p:Prop} (h:p:=by first|exact xIr Af (AG hFi)|exact xIr Af (AG hF0)|exact xIr Af (AG hF1)|exact xIr Af (hE0)|exact xIr Af (hE1)|exact xIr Af (hI0)|exact xIr Af (hI1)):p:=h
def AsW {p:Prop} (h:p:=by first|exact xIr Aj (hE0)|exact xIr Aj (hE1)|exact xIr Aj (hI0)|exact xIr Aj (hI1)):p:=h
def Ajk {p:Prop} (h:p:=by first|exact xIr Ah (hE0)|exact xIr Ah (hE1)|exact xIr Ah (hI0)|exact xIr Ah (hI1)):p:=h
def AsX {p:Prop} (h:p:=by first|exact xIr Af (AG hFi)|exact xIr Af (AG hF0)|exact xIr Af (hEa)):p:=h
def Aov {p:Prop} (h:p:=by first|exact xCl func157 (MA)|exact xCl func157 (MB)|exact xCl func157 (MC)):p:=h
def Aow {p:Prop} (h:p:=by first|exact xCl func152 (D1)|exact xCl func152 (D2)|exact xCl func152 (D3)):p:=h
def AsY {p:Prop} (h:p:=by first|exact xCl func159 (MG0)|exact xCl func159 (MG1)):p:=h
def AsZ {p:Prop} (h:p:=by first|exact xIr Af (AG hA0)|exact xIr Af (hEa)):p:=h
def Aox {p:Prop} (h:p:=by first|exact AjS rfl rfl rfl|exact xLt):p:=h
def OM (mk:Bool) (xd:D) (t u:Bool) {ps:List Prt} {bs:List Bk} (os:List Int) (c:Ct) (E:List Pq) (hE:E.length=bs.length) (sE:∀ p∈E,Sm p LB LB) (i:Nat) {y:Bk} (hy:bs[i]?=some y) (B:ApD ps bs.length y) (hF:c.F.length=bs.length) (hR:c.R.length=bs.length) (sR:∀ p∈c.R,IwS p LB LB) (hn:bs.length≤1000000) (hpn:ps.length≤1000000) (hs2:0≤scA c.F i∧scA c.F i≤30) (hsa:y.kind≠0→∀ a∈y.args,0≤sG c.F a∧sG c.F a≤30):CV prog An 127 [aDg t ps bs os,.agg (dCx u c xd),.one (Ajj mk E),aI (i:Int)] [aDy false (AM ps c.F c.R E y (scA c.F i)).1 (AM ps c.F c.R E y (scA c.F i)).2]:=by
 refine cvz func127 ntmps127 ?_
 have hil:=(gS.1 hy).1
 have hFi:=Xh (F:=c.F) (k:=i) (by omega)
 obtain ⟨s,hs⟩:∃ s,scA c.F i=s:=⟨_,rfl⟩
 rw [hs] at hFi
 have hBl:=B.len
 obtain ⟨s0,s1⟩:=hs2
 rw [hs] at s0 s1
 have UN:=Ri s (by omega) (by omega)
 have um:=WG s0 s1
 rw [hs]
 rcases B.hk with h|h|h|h|h|h|h|h|h|h|h|h
 ·
  obtain ⟨j,pp,hA0,ha0,hp,PS⟩:=B.port h
  have l3:=(gS.1 hp).1
  have hL0:=(gS.1 hA0).1
  rw [show AM ps c.F c.R E y s=ixP (decide (s<pp.fr)) s by unfold AM;rw [if_pos h,ha0,AfL hp]]
  have IX:=OJ (decide (s<pp.fr)) s
  repeat' (with_reducible first|refine GH ?_|refine Iy ?_|(refine AE (id:=8) 13 AN (by kernel_rfl) ?_;dsimp only [List.take,List.drop];refine gP xM <| gP xD <| gP xF <| gP xD <| gP xF <| gP xD <| gP (xIr Af (AG hA0)) <| gP xD <| gP (xIr BI (FX hp)) <| gP xF <| gP xD <| gP Aox <| gP (xCc func221 IX (args:=[_]) rfl) ?_;refine Ke ?_;refine gZ (xSk Ad) ?_))
  exact Eh
 ·
  have WH:=La y.vn y.ve s (B.sv (by omega)) s0 s1
  have IX:=OJ (!BS y.vn y.ve s) s
  rw [show AM ps c.F c.R E y s=ixP (!BS y.vn y.ve s) s by unfold AM;rw [if_neg (by omega),if_pos h]]
  repeat' (with_reducible first|refine GH ?_|refine Iy ?_|refine Hd ?_|(refine Tx 10 ?_;refine gO xM <| gO xF <| gO xL <| gO xD <| gO (xCl func222 (WH)) <| gO FI <| gO (xCc func221 IX (args:=[_]) rfl) <| gZ (xSk Ad) ?_))
  exact Eh
 ·
  obtain ⟨a,hA0,ha0,hl0⟩:=B.a0 (by omega)
  have hl0:=hl0 (by omega)
  have hL0:=(gS.1 hA0).1
  have M0:=EN mk xd t u c E y s s0 s1 sE 0 hA0 (by omega) (by omega) (by omega) (by omega) (by omega)
  obtain ⟨m0,hm0⟩:∃ m,mvP c.F E s (a:Int)=m:=⟨_,rfl⟩
  have t0:=GX (F:=c.F) s0 s1 sE (a:Int)
  rw [hm0] at M0 t0
  have WH:=La y.vn y.ve s (B.sv (by omega)) s0 s1
  have ib:=OG (b:=(!BS y.vn y.ve s)) s0 s1
  have IX:=OJ (!BS y.vn y.ve s) s
  have C:=Eu m0.1 m0.2 (ixP (!BS y.vn y.ve s) s).1 (ixP (!BS y.vn y.ve s) s).2 t0.ok ib.ok t0.lz ib.lz
  rw [show AM ps c.F c.R E y s=Fw m0 (ixP (!BS y.vn y.ve s) s) by unfold AM;rw [if_neg (by omega),if_neg (by omega),if_neg (by omega),if_neg (by omega),if_neg (by omega),if_neg (by omega),if_neg (by omega),if_neg (by omega),ha0,hm0]]
  repeat' (with_reducible first|refine GH ?_|refine Iy ?_|refine Hd ?_|refine Iz ?_|refine LU ?_|(refine Tx 14 ?_;refine gO xEq <| gO xA ?_)|(refine Tx 15 ?_;refine gO xEq <| gO xA ?_)|(refine Tx 17 ?_;refine gO xEq <| gO xA ?_)|(refine Tx 18 ?_;refine gO xEq <| gO xA ?_)|(refine Tx 20 ?_;refine gO xEq <| gO xA ?_)|(refine Tx 22 ?_;refine gO xEq <| gO xA ?_)|(refine Tx 26 ?_;refine gO xEq <| gO xA ?_)|(refine AE (id:=28) 10 AN (by kernel_rfl) ?_;dsimp only [List.take,List.drop];refine gP xM <| gP (xCc func220 M0 (args:=[_]) rfl) <| gP xM <| gP xF <| gP xL <| gP xD <| gP (xCl func222 (WH)) <| gP FI <| gP (xCc func221 IX (args:=[_]) rfl) <| gP (xCl func156 (C)) ?_;refine Ke ?_;refine gZ (xSk Ad) ?_))
  exact Eh
 ·
  obtain ⟨a,hA0,ha0,hl0⟩:=B.a0 (by omega)
  have hl0:=hl0 (by omega)
  have hL0:=(gS.1 hA0).1
  obtain ⟨b,hA1,ha1,hl1⟩:=B.a1 (by omega)
  have hL1:=(gS.1 hA1).1
  have M0:=EN mk xd t u c E y s s0 s1 sE 0 hA0 (by omega) (by omega) (by omega) (by omega) (by omega)
  obtain ⟨m0,hm0⟩:∃ m,mvP c.F E s (a:Int)=m:=⟨_,rfl⟩
  have t0:=GX (F:=c.F) s0 s1 sE (a:Int)
  rw [hm0] at M0 t0
  have M1:=EN mk xd t u c E y s s0 s1 sE 1 hA1 (by omega) (by omega) (by omega) (by omega) (by omega)
  obtain ⟨m1,hm1⟩:∃ m,mvP c.F E s (b:Int)=m:=⟨_,rfl⟩
  have t1:=GX (F:=c.F) s0 s1 sE (b:Int)
  rw [hm1] at M1 t1
  have C:=Ds m0.1 m0.2 m1.1 m1.2 t0.ok t1.ok t0.lz t1.lz
  rw [show AM ps c.F c.R E y s=Du m0 m1 by unfold AM;rw [if_neg (by omega),if_neg (by omega),if_pos (by omega),ha0,ha1,hm0,hm1]]
  repeat' (with_reducible first|refine GH ?_|refine Iy ?_|refine Hd ?_|refine Iz ?_|(refine Tx 13 ?_;refine gO xM <| gO (xCc func220 M0 (args:=[_]) rfl) <| gO xM <| gO (xCc func220 M1 (args:=[_]) rfl) <| gO (xCl func152 (C)) <| gZ (xSk Ad) ?_))
  exact Eh
 ·
  obtain ⟨a,hA0,ha0,hl0⟩:=B.a0 (by omega)
  have hl0:=hl0 (by omega)
  have hL0:=(gS.1 hA0).1
  obtain ⟨b,hA1,ha1,hl1⟩:=B.a1 (by omega)
  have hL1:=(gS.1 hA1).1
  have M0:=EN mk xd t u c E y s s0 s1 sE 0 hA0 (by omega) (by omega) (by omega) (by omega) (by omega)
  obtain ⟨m0,hm0⟩:∃ m,mvP c.F E s (a:Int)=m:=⟨_,rfl⟩
  have t0:=GX (F:=c.F) s0 s1 sE (a:Int)
  rw [hm0] at M0 t0
  have M1:=EN mk xd t u c E y s s0 s1 sE 1 hA1 (by omega) (by omega) (by omega) (by omega) (by omega)
  obtain ⟨m1,hm1⟩:∃ m,mvP c.F E s (b:Int)=m:=⟨_,rfl⟩
  have t1:=GX (F:=c.F) s0 s1 sE (b:Int)
  rw [hm1] at M1 t1
  have C:=Ds m0.1 m0.2 m1.1 m1.2 t0.ok t1.ok t0.lz t1.lz
  rw [show AM ps c.F c.R E y s=Du m0 m1 by unfold AM;rw [if_neg (by omega),if_neg (by omega),if_pos (by omega),ha0,ha1,hm0,hm1]]
  repeat' (with_reducible first|refine GH ?_|refine Iy ?_|refine Hd ?_|refine Iz ?_|refine LU ?_|(refine Tx 13 ?_;refine gO xM <| gO (xCc func220 M0 (args:=[_]) rfl) <| gO xM <| gO (xCc func220 M1 (args:=[_]) rfl) <| gO (xCl func152 (C)) <| gZ (xSk Ad) ?_))
  exact Eh
 ·
  obtain ⟨a,hA0,ha0,hl0⟩:=B.a0 (by omega)
  have hl0:=hl0 (by omega)
  have hL0:=(gS.1 hA0).1
  have M0:=EN mk xd t u c E y s s0 s1 sE 0 hA0 (by omega) (by omega) (by omega) (by omega) (by omega)
  obtain ⟨m0,hm0⟩:∃ m,mvP c.F E s (a:Int)=m:=⟨_,rfl⟩
  have t0:=GX (F:=c.F) s0 s1 sE (a:Int)
  rw [hm0] at M0 t0
  rw [show AM ps c.F c.R E y s=m0 by unfold AM;rw [if_neg (by omega),if_neg (by omega),if_neg (by omega),if_pos (by omega),ha0,hm0]]
  repeat' (with_reducible first|refine GH ?_|refine Iy ?_|refine Hd ?_|refine Iz ?_|refine LU ?_|(refine Tx 14 ?_;refine gO xEq <| gO xA ?_)|(refine Tx 16 ?_;refine gO xM <| gO (xCc func220 M0 (args:=[_]) rfl) <| gZ (xSk Ad) ?_))
  exact Eh
 ·
  obtain ⟨a,hA0,ha0,hl0⟩:=B.a0 (by omega)
  have hl0:=hl0 (by omega)
  have hL0:=(gS.1 hA0).1
  have hF0:=Xh (F:=c.F) (k:=a) (by omega)
  have hr0:=hsa (by omega) a (gM hA0)
  rw [Ph] at hr0
  have hv:=B.sv (by omega)
  have sv:=Ef hv
  have hv2:=hv
  unfold Dn at hv2
  have RV:=GY y.vn y.ve hv
  have hEa:=AkF (E:=E) (k:=a) (by omega)
  have se:=CY sE a
  obtain ⟨e,he⟩:∃ e,E[a]?.getD (0,0)=e:=⟨_,rfl⟩
  rw [he] at se hEa
  obtain ⟨r,hr⟩:∃ r,scA c.F a=r:=⟨_,rfl⟩
  rw [hr] at hF0 hr0
  obtain ⟨v,hvv⟩:∃ v,Ac y.vn 0 y.ve=v:=⟨_,rfl⟩
  rw [hvv] at RV sv
  have AB:=PO v.1 v.2 sv.ok sv.lz
  have sa:=sv.abs
  have MU:=Gl (Ha v).1 (Ha v).2 e.1 e.2 sa.ok se.ok sa.lz se.lz (lT (dc sa.d se.d) (by decide))
  have sm:=Sm.mul sa se (by decide)
  have ib:=OG (b:=decide (s - r+y.ve<0)) s0 s1
  have IX:=OJ (decide (s - r+y.ve<0)) s
  have AD:=Ds (BR (Ha v) e).1 (BR (Ha v) e).2 (ixP (decide (s - r+y.ve<0)) s).1 (ixP (decide (s - r+y.ve<0)) s).2 sm.ok ib.ok sm.lz ib.lz
  rw [show AM ps c.F c.R E y s=Du (BR (Ha v) e) (ixP (decide (s - r+y.ve<0)) s) by unfold AM;rw [if_neg (by omega),if_neg (by omega),if_neg (by omega),if_neg (by omega),if_neg (by omega),if_pos h,ha0,Ph,Tk,he,hr,hvv]]
  repeat' (with_reducible first|refine GH ?_|(refine Tx 1 ?_;refine gO xF <| gO xD <| gO xM <| gO (by first|exact xIr Al (Fb hy)|exact xIr Al (hEa)) <| gO xL <| gN (xAl Cm) <| gZ (xSk BW) ?_)|(refine Tx 2 ?_;refine gO xF <| gO xD <| gO xM <| gO AsX <| gO xD <| gN (xAl BV) <| gZ Aot ?_)|refine Hd ?_|refine Iz ?_|refine LU ?_|(refine Tx 14 ?_;refine gO xEq <| gO xA ?_)|(refine Tx 15 ?_;refine gO xEq <| gO xA ?_)|(refine Tx 17 ?_;refine gO xEq <| gO xA ?_)|(refine Tx 18 ?_;refine gO xEq <| gO xA ?_)|(refine Tx 20 ?_;refine gO xEq <| gO xA ?_)|(refine AE (id:=21) 30 AN (by kernel_rfl) ?_;dsimp only [List.take,List.drop];refine gP xF <| gP xL <| gP (xCl func219 (RV)) <| gP (xCl func158 (AB)) <| gP xD <| gP xF <| gP xD <| gP AsZ <| gP xD <| gP (xIr Ah (hEa)) <| gP xL <| gP (xCl func157 (MU)) <| gP xM <| gP xD <| gP xF <| gP xD <| gP xF <| gP xD <| gP AsZ <| gP xD <| gP AsX <| gP xD <| gP xSb <| gP xF <| gP xF <| gP xD <| gP xAd <| gP Aox <| gP (xCc func221 IX (args:=[_]) rfl) <| gP (xCl func152 (AD)) ?_;refine Ke ?_;refine gZ (xSk Ad) ?_))
  exact Eh
 ·
  obtain ⟨a,hA0,ha0,hl0⟩:=B.a0 (by omega)
  have hl0:=hl0 (by omega)
  have hL0:=(gS.1 hA0).1
  obtain ⟨b,hA1,ha1,hl1⟩:=B.a1 (by omega)
  have hL1:=(gS.1 hA1).1
  have hF0:=Xh (F:=c.F) (k:=a) (by omega)
  have hr0:=hsa (by omega) a (gM hA0)
  rw [Ph] at hr0
  have hE0:=AkF (E:=E) (k:=a) (by omega)
  have se0:=CY sE a
  obtain ⟨e0,he0⟩:∃ e,E[a]?.getD (0,0)=e:=⟨_,rfl⟩
  rw [he0] at se0 hE0
  obtain ⟨r0,hq0⟩:∃ r,scA c.F a=r:=⟨_,rfl⟩
  rw [hq0] at hF0 hr0
  have hI0:=AkG (R:=c.R) (k:=a) (by omega)
  have si0:=Bx sR a
  obtain ⟨P0,hP0⟩:∃ P,c.R[a]?.getD iZ=P:=⟨_,rfl⟩
  rw [hP0] at si0 hI0
  have MG0:=NC P0 (si0.more LBx LBx)
  have sg0:=Pg si0
  generalize hG0:DA P0=G0 at MG0 sg0
  have hF1:=Xh (F:=c.F) (k:=b) (by omega)
  have hr1:=hsa (by omega) b (gM hA1)
  rw [Ph] at hr1
  have hE1:=AkF (E:=E) (k:=b) (by omega)
  have se1:=CY sE b
  obtain ⟨e1,he1⟩:∃ e,E[b]?.getD (0,0)=e:=⟨_,rfl⟩
  rw [he1] at se1 hE1
  obtain ⟨r1,hq1⟩:∃ r,scA c.F b=r:=⟨_,rfl⟩
  rw [hq1] at hF1 hr1
  have hI1:=AkG (R:=c.R) (k:=b) (by omega)
  have si1:=Bx sR b
  obtain ⟨P1,hP1⟩:∃ P,c.R[b]?.getD iZ=P:=⟨_,rfl⟩
  rw [hP1] at si1 hI1
  have MG1:=NC P1 (si1.more LBx LBx)
  have sg1:=Pg si1
  generalize hG1:DA P1=G1 at MG1 sg1
  have MA:=Gl G0.1 G0.2 e1.1 e1.2 sg0.ok se1.ok sg0.lz se1.lz (lT (dc sg0.d se1.d) (by decide))
  have sMA:=Sm.mul sg0 se1 (by decide)
  have MB:=Gl G1.1 G1.2 e0.1 e0.2 sg1.ok se0.ok sg1.lz se0.lz (lT (dc sg1.d se0.d) (by decide))
  have sMB:=Sm.mul sg1 se0 (by decide)
  have MC:=Gl e0.1 e0.2 e1.1 e1.2 se0.ok se1.ok se0.lz se1.lz (lT (dc se0.d se1.d) (by decide))
  have sMC:=Sm.mul se0 se1 (by decide)
  generalize hA:BR G0 e1=A at *
  generalize hB:BR G1 e0=Bq at *
  generalize hC:BR e0 e1=Cq at *
  have hAe:Ou G0.1 G0.2 e1.1 e1.2=A:=hA
  have hBe:Ou G1.1 G1.2 e0.1 e0.2=Bq:=hB
  have hCe:Ou e0.1 e0.2 e1.1 e1.2=Cq:=hC
  rw [hAe] at MA sMA
  rw [hBe] at MB sMB
  rw [hCe] at MC sMC
  have D1:=Ds A.1 A.2 Bq.1 Bq.2 sMA.ok sMB.ok sMA.lz sMB.lz
  have t1:Sm (Du A Bq) 16385 8192:=Sm.sum sMA sMB (by decide)
  generalize hS:Du A Bq=S1 at *
  have hSe:Ck A.1 A.2 Bq.1 Bq.2=S1:=hS
  rw [hSe] at D1
  have D2:=Ds S1.1 S1.2 Cq.1 Cq.2 t1.ok sMC.ok t1.lz sMC.lz
  have t2:Sm (Du S1 Cq) 24578 8192:=Sm.sum t1 (sMC.more (by decide) (by decide)) (by decide)
  generalize hT:Du S1 Cq=S2 at *
  have hTe:Ck S1.1 S1.2 Cq.1 Cq.2=S2:=hT
  rw [hTe] at D2
  have ib:=OG (b:=decide (s - r0 - r1<0)) s0 s1
  have IX:=OJ (decide (s - r0 - r1<0)) s
  have D3:=Ds S2.1 S2.2 (ixP (decide (s - r0 - r1<0)) s).1 (ixP (decide (s - r0 - r1<0)) s).2 t2.ok ib.ok t2.lz ib.lz
  rw [show AM ps c.F c.R E y s=Du S2 (ixP (decide (s - r0 - r1<0)) s) by unfold AM;rw [if_neg (by omega),if_neg (by omega),if_neg (by omega),if_neg (by omega),if_neg (by omega),if_neg (by omega),if_pos h,ha0,ha1,Ph,Ph,Tk,Tk,Aaa,Aaa,he0,he1,hq0,hq1,hP0,hP1,hG0,hG1,hA,hB,hC,hS,hT]]
  repeat' (with_reducible first|refine GH ?_|(refine Tx 1 ?_;refine gO xF <| gO xD <| gO xM <| gO (by first|exact xIr Al (Fb hy)|exact xIr Al (hE0)|exact xIr Al (hE1)|exact xIr Al (hI0)|exact xIr Al (hI1)) <| gO xL <| gN (xAl Cm) <| gZ (xSk BW) ?_)|(refine Tx 2 ?_;refine gO xF <| gO xD <| gO xM <| gO Aou <| gO xD <| gN (xAl BV) <| gZ Aot ?_)|refine Hd ?_|refine Iz ?_|refine LU ?_|(refine Tx 14 ?_;refine gO xEq <| gO xA ?_)|(refine Tx 15 ?_;refine gO xEq <| gO xA ?_)|(refine Tx 17 ?_;refine gO xEq <| gO xA ?_)|(refine Tx 18 ?_;refine gO xEq <| gO xA ?_)|(refine Tx 20 ?_;refine gO xEq <| gO xA ?_)|(refine Tx 22 ?_;refine gO xEq <| gO xA ?_)|(refine BU (id:=23) AN (by kernel_rfl) ?_;refine gP xF <| gP xD <| gP (by first|exact xIr Af (AG hA0)|exact xIr Af (hE0)|exact xIr Af (hE1)|exact xIr Af (hI0)|exact xIr Af (hI1)) <| gP xD <| gP xF <| gP xD <| gP (by first|exact xIr Af (AG hA1)|exact xIr Af (hE0)|exact xIr Af (hE1)|exact xIr Af (hI0)|exact xIr Af (hI1)) <| gP xD <| gP xA <| gP xA ?_;refine Ke ?_)|(refine AE (id:=24) 24 AN (by kernel_rfl) ?_;dsimp only [List.take,List.drop];refine gP xF <| gP xD <| gP xM <| gP AsW <| gP xL <| gP AsY <| gP xD <| gP xM <| gP Ajk <| gP xL <| gP Aov <| gP xF <| gP xD <| gP xM <| gP AsW <| gP xL <| gP AsY <| gP xD <| gP xM <| gP Ajk <| gP xL <| gP Aov <| gP Aow <| gQ (xAl Ao) ?_;refine Ke ?_;refine gZ (xSk Ad) ?_)|(refine AE (id:=25) 28 AN (by kernel_rfl) ?_;dsimp only [List.take,List.drop];refine gP xL <| gP xD <| gP xM <| gP Ajk <| gP xL <| gP xD <| gP xM <| gP Ajk <| gP xL <| gP Aov <| gP Aow <| gP xM <| gP xD <| gP xF <| gP xD <| gP xM <| gP Aou <| gP xD <| gP xSb <| gP xF <| gP xD <| gP xM <| gP Aou <| gP xD <| gP xSb <| gP Aox <| gP (xCc func221 IX (args:=[_]) rfl) <| gP Aow ?_;refine Ke ?_;refine gZ (xSk Ad) ?_))
  exact Eh
 ·
  obtain ⟨a,hA0,ha0,hl0⟩:=B.a0 (by omega)
  have hl0:=hl0 (by omega)
  have hL0:=(gS.1 hA0).1
  obtain ⟨b,hA1,ha1,hl1⟩:=B.a1 (by omega)
  have hL1:=(gS.1 hA1).1
  have M0:=EN mk xd t u c E y s s0 s1 sE 0 hA0 (by omega) (by omega) (by omega) (by omega) (by omega)
  obtain ⟨m0,hm0⟩:∃ m,mvP c.F E s (a:Int)=m:=⟨_,rfl⟩
  have t0:=GX (F:=c.F) s0 s1 sE (a:Int)
  rw [hm0] at M0 t0
  have M1:=EN mk xd t u c E y s s0 s1 sE 1 hA1 (by omega) (by omega) (by omega) (by omega) (by omega)
  obtain ⟨m1,hm1⟩:∃ m,mvP c.F E s (b:Int)=m:=⟨_,rfl⟩
  have t1:=GX (F:=c.F) s0 s1 sE (b:Int)
  rw [hm1] at M1 t1
  have C:=Eu m0.1 m0.2 m1.1 m1.2 t0.ok t1.ok t0.lz t1.lz
  rw [show AM ps c.F c.R E y s=Fw m0 m1 by unfold AM;rw [if_neg (by omega),if_neg (by omega),if_neg (by omega),if_neg (by omega),if_pos (by omega),ha0,ha1,hm0,hm1]]
  repeat' (with_reducible first|refine GH ?_|refine Iy ?_|refine Hd ?_|refine Iz ?_|refine LU ?_|(refine Tx 14 ?_;refine gO xEq <| gO xA ?_)|(refine Tx 15 ?_;refine gO xEq <| gO xA ?_)|(refine Tx 17 ?_;refine gO xEq <| gO xA ?_)|(refine Tx 19 ?_;refine gO xM <| gO (xCc func220 M0 (args:=[_]) rfl) <| gO xM <| gO (xCc func220 M1 (args:=[_]) rfl) <| gO (xCl func156 (C)) <| gZ (xSk Ad) ?_))
  exact Eh
 ·
  obtain ⟨a,hA0,ha0,hl0⟩:=B.a0 (by omega)
  have hl0:=hl0 (by omega)
  have hL0:=(gS.1 hA0).1
  obtain ⟨b,hA1,ha1,hl1⟩:=B.a1 (by omega)
  have hL1:=(gS.1 hA1).1
  have M0:=EN mk xd t u c E y s s0 s1 sE 0 hA0 (by omega) (by omega) (by omega) (by omega) (by omega)
  obtain ⟨m0,hm0⟩:∃ m,mvP c.F E s (a:Int)=m:=⟨_,rfl⟩
  have t0:=GX (F:=c.F) s0 s1 sE (a:Int)
  rw [hm0] at M0 t0
  have M1:=EN mk xd t u c E y s s0 s1 sE 1 hA1 (by omega) (by omega) (by omega) (by omega) (by omega)
  obtain ⟨m1,hm1⟩:∃ m,mvP c.F E s (b:Int)=m:=⟨_,rfl⟩
  have t1:=GX (F:=c.F) s0 s1 sE (b:Int)
  rw [hm1] at M1 t1
  have C:=Eu m0.1 m0.2 m1.1 m1.2 t0.ok t1.ok t0.lz t1.lz
  rw [show AM ps c.F c.R E y s=Fw m0 m1 by unfold AM;rw [if_neg (by omega),if_neg (by omega),if_neg (by omega),if_neg (by omega),if_pos (by omega),ha0,ha1,hm0,hm1]]
  repeat' (with_reducible first|refine GH ?_|refine Iy ?_|refine Hd ?_|refine Iz ?_|refine LU ?_|(refine Tx 14 ?_;refine gO xEq <| gO xA ?_)|(refine Tx 15 ?_;refine gO xEq <| gO xA ?_)|(refine Tx 17 ?_;refine gO xEq <| gO xA ?_)|(refine Tx 18 ?_;refine gO xEq <| gO xA ?_)|(refine Tx 19 ?_;refine gO xM <| gO (xCc func220 M0 (args:=[_]) rfl) <| gO xM <| gO (xCc func220 M1 (args:=[_]) rfl) <| gO (xCl func156 (C)) <| gZ (xSk Ad) ?_))
  exact Eh
 ·
  obtain ⟨a,hA0,ha0,hl0⟩:=B.a0 (by omega)
  have hl0:=hl0 (by omega)
  have hL0:=(gS.1 hA0).1
  have M0:=EN mk xd t u c E y s s0 s1 sE 0 hA0 (by omega) (by omega) (by omega) (by omega) (by omega)
  obtain ⟨m0,hm0⟩:∃ m,mvP c.F E s (a:Int)=m:=⟨_,rfl⟩
  have t0:=GX (F:=c.F) s0 s1 sE (a:Int)
  rw [hm0] at M0 t0
  rw [show AM ps c.F c.R E y s=m0 by unfold AM;rw [if_neg (by omega),if_neg (by omega),if_neg (by omega),if_pos (by omega),ha0,hm0]]
  repeat' (with_reducible first|refine GH ?_|refine Iy ?_|refine Hd ?_|refine Iz ?_|refine LU ?_|(refine Tx 14 ?_;refine gO xEq <| gO xA ?_)|(refine Tx 15 ?_;refine gO xEq <| gO xA ?_)|(refine Tx 16 ?_;refine gO xM <| gO (xCc func220 M0 (args:=[_]) rfl) <| gZ (xSk Ad) ?_))
  exact Eh
 ·
  obtain ⟨a,hA0,ha0,hl0⟩:=B.a0 (by omega)
  have hl0:=hl0 (by omega)
  have hL0:=(gS.1 hA0).1
  have M0:=EN mk xd t u c E y s s0 s1 sE 0 hA0 (by omega) (by omega) (by omega) (by omega) (by omega)
  obtain ⟨m0,hm0⟩:∃ m,mvP c.F E s (a:Int)=m:=⟨_,rfl⟩
  have t0:=GX (F:=c.F) s0 s1 sE (a:Int)
  rw [hm0] at M0 t0
  have WH:=La y.vn y.ve s (B.sv (by omega)) s0 s1
  have WU:=La y.un y.ue s (B.su h) s0 s1
  have ib:=OG (b:=(!BS y.vn y.ve s || !BS y.un y.ue s)) s0 s1
  have IX:=OJ (!BS y.vn y.ve s || !BS y.un y.ue s) s
  have C:=Eu m0.1 m0.2 (ixP (!BS y.vn y.ve s || !BS y.un y.ue s) s).1 (ixP (!BS y.vn y.ve s || !BS y.un y.ue s) s).2 t0.ok ib.ok t0.lz ib.lz
  rw [show AM ps c.F c.R E y s=Fw m0 (ixP (!BS y.vn y.ve s || !BS y.un y.ue s) s) by unfold AM;rw [if_neg (by omega),if_neg (by omega),if_neg (by omega),if_neg (by omega),if_neg (by omega),if_neg (by omega),if_neg (by omega),if_pos h,ha0,hm0]]
  cases hw:BS y.vn y.ve s
  case false =>
   rw [hw] at WH IX C
   simp only [fm,fj,Bool.true_or,gp] at IX C
   simp only [fm,fj,Bool.true_or,gp]
   repeat' (with_reducible first|refine GH ?_|refine Iy ?_|refine Hd ?_|refine Iz ?_|refine LU ?_|(refine Tx 14 ?_;refine gO xEq <| gO xA ?_)|(refine Tx 15 ?_;refine gO xEq <| gO xA ?_)|(refine Tx 17 ?_;refine gO xEq <| gO xA ?_)|(refine Tx 18 ?_;refine gO xEq <| gO xA ?_)|(refine Tx 20 ?_;refine gO xEq <| gO xA ?_)|(refine Tx 22 ?_;refine gO xEq <| gO xA ?_)|(refine Tx 26 ?_;refine gO xEq <| gO xA ?_)|refine AkI ?_)
   exact Eh
  case true =>
   rw [hw] at WH IX C
   simp only [fm,fj,Bool.true_or,gp] at IX C
   simp only [fm,fj,Bool.true_or,gp]
   repeat' (with_reducible first|refine GH ?_|refine Iy ?_|refine Hd ?_|refine Iz ?_|refine LU ?_|(refine Tx 14 ?_;refine gO xEq <| gO xA ?_)|(refine Tx 15 ?_;refine gO xEq <| gO xA ?_)|(refine Tx 17 ?_;refine gO xEq <| gO xA ?_)|(refine Tx 18 ?_;refine gO xEq <| gO xA ?_)|(refine Tx 20 ?_;refine gO xEq <| gO xA ?_)|(refine Tx 22 ?_;refine gO xEq <| gO xA ?_)|(refine Tx 26 ?_;refine gO xEq <| gO xA ?_)|refine AkI ?_)
   exact Eh
def vfit {M E:Pq} {f:Int}:LM (Du M E) f=decide (BM (Ac (Ck M.1 M.2 E.1 E.2).1 (Ck M.1 M.2 E.1 E.2).2 f).1 (Ac (Ck M.1 M.2 E.1 E.2).1 (Ck M.1 M.2 E.1 E.2).2 f).2 2147483647 0≤0):=rfl
def AfN (x:Pq) (sx:Sm x 40064 40000):CV prog An 182 [aDy false x.1 x.2] [aDy false (upQ x).1 (upQ x).2]:=by
 refine cvz func182 ntmps182 ?_
 have CE:=Wo x.1 x.2 62 sx.ok sx.lz (by decide)
 repeat' (with_reducible first|refine qq ?_|(refine Tx 0 ?_;refine gN xBo <| gN (xAl Ao) ?_)|(refine Tx 1 ?_;refine gO xL <| gO (xCl func153 (CE)) <| gO xMt <| gO (by exact EO rfl rfl rfl) <| gO xEx <| gN (xAl Ao) <| gZ (xSk Ad) <| gO xA ?_)|(refine Tx 2 ?_;refine gO xL <| gZ (xSk Ad) ?_))
 exact Eh
def Tl {p:Prop} (h:p:=by
 exact AH rfl (.cons_ (Fi rfl (rfl)) .nil_)):p:=h
def Aab (x:Pq) (sx:Sm x 41000 40000):CV prog An 183 [aDy false x.1 x.2] [aB (Ahg x)]:=by
 refine cvz func183 ntmps183 ?_
 have OF:=Ft 1099511627776 (by decide) (by decide)
 have CM:=Cv x.1 x.2 1099511627776 0 sx.ok ⟨by decide,fun h=>absurd rfl h⟩ sx.lz (lT (AJ (k:=2) (by decide)) (by decide))
 rw [show Ahg x=decide (0<BM x.1 x.2 1099511627776 0) from rfl]
 generalize BM x.1 x.2 1099511627776 0=q at *
 repeat' (with_reducible first|refine qq ?_|(refine Tx 0 ?_;refine gN xBo <| gO xA ?_)|(refine BU (id:=1) AN (by kernel_rfl) ?_;refine gP xL <| gP (xCl func68 (OF)) <| gP (xCl func15 (CM)) <| gP (by first|exact AjT rfl rfl rfl|exact xGt) <| gP xA ?_;refine Ke ?_))
 exact Tl
def AfO {p:Prop} (k:p') (h:Hd9 p'→p:=by with_reducible first|(intro Z9;refine qq ?_;exact Z9.o)|(intro Z9;refine Tx 0 ?_;refine gN xBo <| gN xBo <| gO xA ?_;exact Z9.o)|(intro Z9;refine Tx 1 ?_;refine gO (xCl func68 (OF)) <| gN (xAl Ao) <| gZ (xSk Ad) ?_;exact Z9.o)|fail):p:=h ⟨k⟩
def AkJ {p:Prop} (k:p') (h:Hd9 p'→p:=by with_reducible first|(intro Z9;refine Tx 2 ?_;refine gO xF <| gO xD <| gO xM <| gO (by first|exact xIr Af (AG hFi)|exact xIr Af (hIi)|exact xIr Af (hEi)) <| gO xD <| gO xA ?_;exact Z9.o)|(intro Z9;refine BU (id:=3) AN (by kernel_rfl) ?_;refine gP xF <| gP xD <| gP xM <| gP (by first|exact xIr Aj (hIi)|exact xIr Aj (hEi)) <| gP xL <| gP (xCl func159 (MG)) <| gP xM <| gP xM <| gP (by first|exact xIr Ah (hIi)|exact xIr Ah (hEi)) <| gP xL <| gP (xCl func152 (AD1)) <| gP xM <| gP (xCl func21 (SH1)) <| gP xL <| gP (xCl func15 (CM1)) <| gP xGt ?_;refine Ke ?_;exact Z9.o)|fail):p:=h ⟨k⟩
def Ata {p:Prop} (h:p:=by first|exact xIr Aj (hIi)|exact xIr Aj (hEi)|exact xIr Aj (hIa)|exact xIr Aj (hEa)):p:=h
def Atb {p:Prop} (h:p:=by first|exact xIr Ah (hIi)|exact xIr Ah (hEi)|exact xIr Ah (hIa)|exact xIr Ah (hEa)):p:=h
def Atc {p:Prop} (h:p:=by first|exact xCl func152 (AD1)|exact xCl func152 (AD2)):p:=h
def Atd {p:Prop} (h:p:=by first|exact xCl func21 (SH1)|exact xCl func21 (SH2)):p:=h
def Ate {p:Prop} (h:p:=by first|exact xCl func15 (CM1)|exact xCl func15 (CM2)):p:=h
def AfP (t u:Bool) {ps:List Prt} {bs:List Bk} (os:List Int) (c:Ct) (E:List Pq) (hE:E.length=bs.length) (sE:∀ p∈E,Sm p LB LB) (i:Nat) {y:Bk} (hy:bs[i]?=some y) (B:ApD ps bs.length y) (hF:c.F.length=bs.length) (hR:c.R.length=bs.length) (sR:∀ p∈c.R,IwS p LB LB) (hn:bs.length≤1000000) (hs2:0≤scA c.F i∧scA c.F i≤30):CV prog An 128 [aDg t ps bs os,.agg (dCt u c),.one (rowE E),aI (i:Int)] [aB (Ajg c.F c.R E y i)]:=by
 refine cvz func128 ntmps128 ?_
 have hil:=(gS.1 hy).1
 have hFi:=Xh (F:=c.F) (k:=i) (by omega)
 obtain ⟨s,hs⟩:∃ s,scA c.F i=s:=⟨_,rfl⟩
 rw [hs] at hFi
 have hBl:=B.len
 rw [hs] at hs2
 have hil2:i<c.R.length:=by omega
 have hIi:=AkG hil2
 have hEi:=AkF (E:=E) (k:=i) (by omega)
 have si:=Bx sR i
 have se:=CY sE i
 obtain ⟨P,hP⟩:∃ P,c.R[i]?.getD iZ=P:=⟨_,rfl⟩
 obtain ⟨e,he⟩:∃ e,E[i]?.getD (0,0)=e:=⟨_,rfl⟩
 rw [hP] at si hIi
 rw [he] at se hEi
 have MG:=NC P (si.more LBx LBx)
 have sg:=Pg si
 obtain ⟨M,hM⟩:∃ M,DA P=M:=⟨_,rfl⟩
 rw [hM] at MG sg
 have OF:=Ft 2147483647 (by decide) (by decide)
 have AD1:=Ds M.1 M.2 e.1 e.2 sg.ok se.ok sg.lz se.lz
 have ss1:=Sm.sum sg se (by decide)
 obtain ⟨S1,hS1⟩:∃ S,Ck M.1 M.2 e.1 e.2=S:=⟨_,rfl⟩
 rw [hS1] at AD1 ss1
 have SH1:=BE S1.1 S1.2 s ss1.ok ss1.lz (by have:=ss1.ok.1;omega)
 have st1:=It ss1 hs2.1 hs2.2
 obtain ⟨T1,hT1⟩:∃ T,Ac S1.1 S1.2 s=T:=⟨_,rfl⟩
 rw [show ES S1 s=T1 from hT1] at st1
 rw [hT1] at SH1
 have CM1:=Cv T1.1 T1.2 2147483647 0 st1.ok ⟨by decide,fun h=>absurd rfl h⟩ st1.lz (lT (AJ (k:=2) (by decide)) (by decide))
 have sb1:LM (Du M e) s=decide (BM T1.1 T1.2 2147483647 0≤0):=by rw [vfit,hS1,hT1]
 generalize BM T1.1 T1.2 2147483647 0=q1 at *
 have hb:Ajg c.F c.R E y i=(decide (q1≤0) && (!decide (y.kind=11) || LM (Du (rG c.R (Bi y)).2 (eG E (Bi y))) s)):=by unfold Ajg;rw [hs,hP,he,hM,sb1]
 rw [hb]
 by_cases c1:q1≤0
 case neg =>
  rw [decide_eq_false c1,gz]
  repeat' (with_reducible first|refine AfO ?_|refine AkJ ?_|(refine Tx 4 ?_;refine gO xA ?_))
  exact Tl
 rw [decide_eq_true c1,ga]
 by_cases k11:y.kind=11
 case neg =>
  rw [decide_eq_false k11,fm,Bool.true_or]
  repeat' (with_reducible first|refine AfO ?_|refine AkJ ?_|(refine Tx 5 ?_;refine gO xF <| gO xD <| gO xM <| gO (by first|exact xIr Al (Fb hy)|exact xIr Al (hIi)|exact xIr Al (hEi)) <| gO xL <| gN (xAl Cm) <| gZ (xSk BW) ?_)|(refine Tx 6 ?_;refine gO xF <| gO xD <| gO xNe ?_)|(refine Tx 7 ?_;refine gO xA ?_))
  exact Tl
 rw [decide_eq_true k11,fj,gp]
 obtain ⟨a,hA0,ha0,hl0⟩:=B.a0 (by omega)
 have hl0:=hl0 (by omega)
 have hL0:=(gS.1 hA0).1
 rw [ha0,Aaa,Tk]
 have hIa:=AkG (R:=c.R) (k:=a) (by omega)
 have hEa:=AkF (E:=E) (k:=a) (by omega)
 have sj:=Bx sR a
 have sf:=CY sE a
 obtain ⟨Q,hQ⟩:∃ Q,c.R[a]?.getD iZ=Q:=⟨_,rfl⟩
 obtain ⟨f,hf⟩:∃ f,E[a]?.getD (0,0)=f:=⟨_,rfl⟩
 rw [hQ] at sj hIa
 rw [hf] at sf hEa
 rw [hQ,hf]
 have sq:=sj.s2
 have AD2:=Ds Q.2.1 Q.2.2 f.1 f.2 sq.ok sf.ok sq.lz sf.lz
 have ss2:=Sm.sum sq sf (by decide)
 obtain ⟨S2,hS2⟩:∃ S,Ck Q.2.1 Q.2.2 f.1 f.2=S:=⟨_,rfl⟩
 rw [hS2] at AD2 ss2
 have SH2:=BE S2.1 S2.2 s ss2.ok ss2.lz (by have:=ss2.ok.1;omega)
 have st2:=It ss2 hs2.1 hs2.2
 obtain ⟨T2,hT2⟩:∃ T,Ac S2.1 S2.2 s=T:=⟨_,rfl⟩
 rw [show ES S2 s=T2 from hT2] at st2
 rw [hT2] at SH2
 have CM2:=Cv T2.1 T2.2 2147483647 0 st2.ok ⟨by decide,fun h=>absurd rfl h⟩ st2.lz (lT (AJ (k:=2) (by decide)) (by decide))
 have sb2:LM (Du Q.2 f) s=decide (BM T2.1 T2.2 2147483647 0≤0):=by rw [vfit,hS2,hT2]
 generalize BM T2.1 T2.2 2147483647 0=q2 at *
 rw [sb2]
 repeat' (with_reducible first|refine AfO ?_|(refine Tx 2 ?_;refine gO xF <| gO xD <| gO xM <| gO (by first|exact xIr Af (AG hFi)|exact xIr Af (hIi)|exact xIr Af (hEi)|exact xIr Af (hIa)|exact xIr Af (hEa)) <| gO xD <| gO xA ?_)|(refine BU (id:=3) AN (by kernel_rfl) ?_;refine gP xF <| gP xD <| gP xM <| gP Ata <| gP xL <| gP (xCl func159 (MG)) <| gP xM <| gP xM <| gP Atb <| gP xL <| gP Atc <| gP xM <| gP Atd <| gP xL <| gP Ate <| gP xGt ?_;refine Ke ?_)|(refine Tx 5 ?_;refine gO xF <| gO xD <| gO xM <| gO (by first|exact xIr Al (Fb hy)|exact xIr Al (hIi)|exact xIr Al (hEi)|exact xIr Al (hIa)|exact xIr Al (hEa)) <| gO xL <| gN (xAl Cm) <| gZ (xSk BW) ?_)|(refine Tx 6 ?_;refine gO xF <| gO xD <| gO xNe ?_)|(refine Tx 8 ?_;refine gO xF <| gO xD <| gO (by first|exact xIr Af (hIi)|exact xIr Af (hEi)|exact xIr Af (AG hA0)|exact xIr Af (hIa)|exact xIr Af (hEa)) <| gO xD <| gO xA ?_)|(refine BU (id:=9) AN (by kernel_rfl) ?_;refine gP xF <| gP xD <| gP xM <| gP Ata <| gP xF <| gP xL <| gP xM <| gP xM <| gP Atb <| gP xL <| gP Atc <| gP xM <| gP Atd <| gP xL <| gP Ate <| gP xLe <| gP xA ?_;refine Ke ?_))
 exact Tl
def WJ {p:Prop} (k:p') (h:Hd9 p'→p:=by with_reducible first|(intro Z9;refine qq ?_;exact Z9.o)|(intro Z9;refine Tx 0 ?_;refine gN xBo <| gN xBo <| gO xA ?_;exact Z9.o)|(intro Z9;refine Tx 1 ?_;refine gO xL <| gO xL <| gO xM <| gO (xCl func125 (S1)) <| gO FI <| gO xA ?_;exact Z9.o)|fail):p:=h ⟨k⟩
def Aac {p:Prop} (k:p') (h:Hd9 p'→p:=by with_reducible first|(intro Z9;refine Tx 3 ?_;refine gO xL <| gO xL <| gO xM <| gO (xCl func126 (S2)) <| gO FI <| gO xA ?_;exact Z9.o)|fail):p:=h ⟨k⟩
def AfQ {p:Prop} (k:p') (h:Hd9 p'→p:=by with_reducible first|(intro Z9;refine BU (id:=5) AN (by kernel_rfl) ?_;refine gP xF <| gP xD <| gP xM <| gP (xIr Ah (hEi)) <| gP xL <| gP xL <| gP xL <| gP xF <| gP xD <| gP xM <| gP (xCl func127 (BD)) <| gP (xCl func15 (CM)) <| gP xLt <| gP xA ?_;refine Ke ?_;exact Z9.o)|fail):p:=h ⟨k⟩
def WK {p:Prop} (h:p:=by
 exact AH rfl (.cons_ (Ado rfl rfl) .nil_)):p:=h
def Abz (t u:Bool) {ps:List Prt} {bs:List Bk} (os:List Int) (c:Ct) (i:Nat) {y:Bk} (hy:bs[i]?=some y) (B:ApD ps bs.length y) (ok:Aum bs c) (hn:bs.length≤1000000) (hpn:ps.length≤1000000):CV prog An 50 [aDg t ps bs os,.agg (dCt u c),aI (i:Int)] [aI (Pw ps bs c i)]:=by
 refine cvz func50 ntmps50 ?_
 have hA:=CX hy
 have hil:=(gS.1 hy).1
 have S1:=Yo t u os c i hy B ok.lF hn hpn
 have S2:=Yp t u os c i hy B ok.lR ok.sR hn hpn
 unfold Pw
 rw [hA]
 dsimp only
 cases h1:Eb ps c.F y i
 case false =>
  rw [h1] at S1
  rw [if_pos rfl]
  repeat' (with_reducible first|refine WJ ?_|(refine Tx 2 ?_;refine gO xA ?_))
  exact WK
 rw [h1] at S1
 rw [if_neg (by decide)]
 have h1s:=h1
 unfold Eb at h1s
 rw [aj,aj] at h1s
 have hs2:0≤scA c.F i∧scA c.F i≤30:=of_decide_eq_true h1s.1
 have hsa:y.kind≠0→∀ a∈y.args,0≤sG c.F a∧sG c.F a≤30:=fun k0 a ha=>by
   have h2:=h1s.2.1
   rw [decide_eq_false k0,gp] at h2
   exact of_decide_eq_true (List.all_eq_true.1 h2 a ha)
 cases h2:Dd ps c.R y i
 case false =>
  rw [h2] at S2
  rw [if_pos rfl]
  repeat' (with_reducible first|refine WJ ?_|refine Aac ?_|(refine Tx 4 ?_;refine gO xA ?_))
  exact WK
 rw [h2] at S2
 rw [if_neg (by decide)]
 have BD:=OM false (rowE c.E) t u os c c.E ok.lE ok.sE i hy B ok.lF ok.lR ok.sR hn hpn hs2 hsa
 have sb:=UI (ps:=ps) (F:=c.F) (y:=y) hs2.1 hs2.2 ok.sR ok.sE (fun h6=>B.sv (by omega))
 have se:=CY ok.sE i
 have hEi:=AkF (E:=c.E) (k:=i) (by have:=ok.lE;omega)
 have hlE:=ok.lE
 obtain ⟨e,he⟩:∃ e,c.E[i]?.getD (0,0)=e:=⟨_,rfl⟩
 rw [he] at se hEi
 rw [he]
 generalize AM ps c.F c.R c.E y (scA c.F i)=b at *
 have CM:=Cv e.1 e.2 b.1 b.2 se.ok sb.ok se.lz sb.lz
 rw [show Nt e b=BM e.1 e.2 b.1 b.2 from rfl]
 generalize BM e.1 e.2 b.1 b.2=q at *
 have FT:=AfP t u os c c.E ok.lE ok.sE i hy B ok.lF ok.lR ok.sR hn hs2
 by_cases h3:q<0
 case pos =>
  rw [if_pos h3]
  repeat' (with_reducible first|refine WJ ?_|refine Aac ?_|refine AfQ ?_|(refine Tx 6 ?_;refine gO xA ?_))
  exact WK
 rw [if_neg h3]
 cases h4:Ajg c.F c.R c.E y i
 case false =>
  rw [h4] at FT
  rw [if_pos rfl]
  repeat' (with_reducible first|refine WJ ?_|refine Aac ?_|refine AfQ ?_|(refine Tx 7 ?_;refine gO xL <| gO xL <| gO xF <| gO xD <| gO xM <| gO (xCl func128 (FT)) <| gO FI <| gO xA ?_)|(refine Tx 8 ?_;refine gO xA ?_))
  exact WK
 rw [h4] at FT
 rw [if_neg (by decide)]
 repeat' (with_reducible first|refine WJ ?_|refine Aac ?_|refine AfQ ?_|(refine Tx 7 ?_;refine gO xL <| gO xL <| gO xF <| gO xD <| gO xM <| gO (xCl func128 (FT)) <| gO FI <| gO xA ?_)|(refine Tx 9 ?_;refine gO xA ?_))
 exact WK
def gIn (a b:Iq):Prop:=gv b.1≤gv a.1∧gv a.2≤gv b.2
def Lb {c x y:Int} (h:x≤y):(0≤c→c*x≤c*y)∧(c≤0→c*y≤c*x):=⟨fun hc=>js h hc,fun hc=>Int.mul_le_mul_of_nonpos_left hc h⟩
def WL {A1 A2 B1 B2 x y:Int} (h1:A1≤x) (h2:x≤A2) (h3:B1≤y) (h4:y≤B2):min (min (min (A1*B1) (A1*B2)) (A2*B1)) (A2*B2)≤x*y∧x*y≤max (max (max (A1*B1) (A1*B2)) (A2*B1)) (A2*B2):=by
 have a1:=Lb (c:=A1) h3
 have a2:=Lb (c:=A1) h4
 have b1:=Lb (c:=A2) h3
 have b2:=Lb (c:=A2) h4
 have k1:min (A1*B1) (A1*B2)≤A1*y∧A1*y≤max (A1*B1) (A1*B2):=by
  by_cases h:0≤A1
  ·have:=a1.1 h;have:=a2.1 h;omega
  ·have:=a1.2 (by omega);have:=a2.2 (by omega);omega
 have k2:min (A2*B1) (A2*B2)≤A2*y∧A2*y≤max (A2*B1) (A2*B2):=by
  by_cases h:0≤A2
  ·have:=b1.1 h;have:=b2.1 h;omega
  ·have:=b1.2 (by omega);have:=b2.2 (by omega);omega
 have c1:=Lb (c:=y) h1
 have c2:=Lb (c:=y) h2
 rw [cj y A1,cj y x] at c1
 rw [cj y A2,cj y x] at c2
 by_cases h:0≤y
 ·have:=c1.1 h;have:=c2.1 h;omega
 ·have:=c1.2 (by omega);have:=c2.2 (by omega);omega
section
variable {a b c e:Iq} {n d:Nat}
def AkK (h:IwS a n d) (k:IwS b n d) (hd:d≤30000):gv (Xf a b).1*2 ^ GQ=min (min (min (gv a.1*gv b.1) (gv a.1*gv b.2)) (gv a.2*gv b.1)) (gv a.2*gv b.2)∧gv (Xf a b).2*2 ^ GQ=max (max (max (gv a.1*gv b.1) (gv a.1*gv b.2)) (gv a.2*gv b.1)) (gv a.2*gv b.2):=by
 obtain ⟨e1,e2,_⟩:=Em (Sm.mul h.s1 k.s1 hd) (Sm.mul h.s1 k.s2 hd) (Sm.mul h.s2 k.s1 hd) (Sm.mul h.s2 k.s2 hd)
 have m:∀ {p q:Pq},Sm p n d→Sm q n d→gv (BR p q)*2 ^ GQ=gv p*gv q:=fun {p q} hp hq=>GZ (by have:=hp.d;have:=hq.d;show p.2+q.2≤65536;omega)
 have m1:=m h.s1 k.s1
 have m2:=m h.s1 k.s2
 have m3:=m h.s2 k.s1
 have m4:=m h.s2 k.s2
 have pos:=Bg GQ
 have mn:∀ x y:Int,min x y*2 ^ GQ=min (x*2 ^ GQ) (y*2 ^ GQ):=fun x y=>by
  rcases Int.le_total x y with hxy|hxy
  ·have:=ci hxy (ay pos);rw [Int.min_eq_left hxy,Int.min_eq_left this]
  ·have:=ci hxy (ay pos);rw [Int.min_eq_right hxy,Int.min_eq_right this]
 have mx:∀ x y:Int,max x y*2 ^ GQ=max (x*2 ^ GQ) (y*2 ^ GQ):=fun x y=>by
  rcases Int.le_total x y with hxy|hxy
  ·have:=ci hxy (ay pos);rw [Int.max_eq_right hxy,Int.max_eq_right this]
  ·have:=ci hxy (ay pos);rw [Int.max_eq_left hxy,Int.max_eq_left this]
 constructor
 ·rw [show gv (Xf a b).1=_ from e1,mn,mn,mn,m1,m2,m3,m4]
 ·rw [show gv (Xf a b).2=_ from e2,mx,mx,mx,m1,m2,m3,m4]
def EF {x y:Int} (h:x*2 ^ GQ≤y*2 ^ GQ):x≤y:=gc h (Bg GQ)
def AkL (h:IwS a n d) (k:IwS b n d) (h':IwS c n d) (k':IwS e n d) (hd:d≤30000) (i:gIn a c) (j:gIn b e):gIn (Xf a b) (Xf c e):=by
 obtain ⟨e1,e2⟩:=AkK h k hd
 obtain ⟨f1,f2⟩:=AkK h' k' hd
 have ha:=h.le
 have hb:=k.le
 obtain ⟨i1,i2⟩:=i
 obtain ⟨j1,j2⟩:=j
 have c1:=WL (A1:=gv c.1) (A2:=gv c.2) (B1:=gv e.1) (B2:=gv e.2) (x:=gv a.1) (y:=gv b.1) i1 (by omega) j1 (by omega)
 have c2:=WL (A1:=gv c.1) (A2:=gv c.2) (B1:=gv e.1) (B2:=gv e.2) (x:=gv a.1) (y:=gv b.2) i1 (by omega) (by omega) j2
 have c3:=WL (A1:=gv c.1) (A2:=gv c.2) (B1:=gv e.1) (B2:=gv e.2) (x:=gv a.2) (y:=gv b.1) (by omega) i2 j1 (by omega)
 have c4:=WL (A1:=gv c.1) (A2:=gv c.2) (B1:=gv e.1) (B2:=gv e.2) (x:=gv a.2) (y:=gv b.2) (by omega) i2 (by omega) j2
 constructor
 ·refine EF ?_
  rw [e1,f1]
  generalize min (min (min (gv c.1*gv e.1) (gv c.1*gv e.2)) (gv c.2*gv e.1)) (gv c.2*gv e.2)=z at *
  have:=c1.1;have:=c2.1;have:=c3.1;have:=c4.1
  omega
 ·refine EF ?_
  rw [e2,f2]
  generalize max (max (max (gv c.1*gv e.1) (gv c.1*gv e.2)) (gv c.2*gv e.1)) (gv c.2*gv e.2)=z at *
  have:=c1.2;have:=c2.2;have:=c3.2;have:=c4.2
  omega
def AkM (h:IwS a n d) (k:IwS b n d) (h':IwS c n d) (k':IwS e n d) (i:gIn a c) (j:gIn b e):gIn (Ahe a b) (Ahe c e):=by
 obtain ⟨i1,i2⟩:=i
 obtain ⟨j1,j2⟩:=j
 constructor
 ·show gv (Du c.1 e.1)≤gv (Du a.1 b.1)
  rw [CL h'.s1.le k'.s1.le,CL h.s1.le k.s1.le];omega
 ·show gv (Du a.2 b.2)≤gv (Du c.2 e.2)
  rw [CL h'.s2.le k'.s2.le,CL h.s2.le k.s2.le];omega
def AkN (i:gIn a c):gIn (AeL a) (AeL c):=by
 obtain ⟨i1,i2⟩:=i
 constructor
 ·show gv (GF c.2)≤gv (GF a.2)
  rw [EE,EE];omega
 ·show gv (GF a.1)≤gv (GF c.1)
  rw [EE,EE];omega
def AkO (h:IwS a n d) (k:IwS b n d) (h':IwS c n d) (k':IwS e n d) (i:gIn a c) (j:gIn b e):gIn (Ahf a b) (Ahf c e):=by
 obtain ⟨i1,i2⟩:=i
 obtain ⟨j1,j2⟩:=j
 constructor
 ·show gv (Pb c.1 e.1)≤gv (Pb a.1 b.1)
  rw [Gb h'.s1.le k'.s1.le,Gb h.s1.le k.s1.le];omega
 ·show gv (Pb a.2 b.2)≤gv (Pb c.2 e.2)
  rw [Gb h'.s2.le k'.s2.le,Gb h.s2.le k.s2.le];omega
def AkP (h:IwS a n d) (k:IwS b n d) (h':IwS c n d) (k':IwS e n d) (i:gIn a c) (j:gIn b e):gIn (AeM a b) (AeM c e):=by
 obtain ⟨i1,i2⟩:=i
 obtain ⟨j1,j2⟩:=j
 constructor
 ·show gv (Fw c.1 e.1)≤gv (Fw a.1 b.1)
  rw [Dl h'.s1.le k'.s1.le,Dl h.s1.le k.s1.le];omega
 ·show gv (Fw a.2 b.2)≤gv (Fw c.2 e.2)
  rw [Dl h'.s2.le k'.s2.le,Dl h.s2.le k.s2.le];omega
def Atf (h:IwS a n d) (h':IwS c n d) (i:gIn a c):gIn (RQ a) (RQ c):=by
 obtain ⟨e1,e2⟩:=Ij h
 obtain ⟨f1,f2⟩:=Ij h'
 obtain ⟨i1,i2⟩:=i
 have ha:=h.le
 constructor
 ·rw [e1,f1]
  split <;> split <;> omega
 ·rw [e2,f2];omega
def gIn.refl (a:Iq):gIn a a:=⟨ck _,ck _⟩
def Atg (h:IwS a n d) (k:IwS b n d):iIn a b=true ↔ gIn a b:=by rw [AeN h k,decide_eq_true_eq];rfl
end
def Ath {y:Bk} {l l':List Iq} (hl:∀ p∈l,IwS p LB LB) (hl':∀ p∈l',IwS p LB LB) (hi:∀ k:Nat,gIn (l[k]?.getD iZ) (l'[k]?.getD iZ)) (hv:(y.kind=1∨y.kind=6∨y.kind=11)→Dn y.vn y.ve) (hu:y.kind=11→Dn y.un y.ue) (hk:y.kind=1∨y.kind=3∨y.kind=4∨y.kind=5∨y.kind=6∨y.kind=7∨y.kind=8∨y.kind=9∨y.kind=10∨y.kind=11):gIn (EM y l) (EM y l'):=by
 have a:=Bx hl 0
 have b:=Bx hl 1
 have a':=Bx hl' 0
 have b':=Bx hl' 1
 have i:=hi 0
 have j:=hi 1
 unfold EM
 generalize l[0]?.getD iZ=p at a i ⊢
 generalize l[1]?.getD iZ=q at b j ⊢
 generalize l'[0]?.getD iZ=p' at a' i ⊢
 generalize l'[1]?.getD iZ=q' at b' j ⊢
 rcases hk with h|h|h|h|h|h|h|h|h|h <;> simp only [h,Int.reduceEq,if_true,if_false,reduceIte]
 ·exact gIn.refl _
 ·exact AkM a b a' b' i j
 ·exact AkM a b.neg a' b'.neg i (AkN j)
 ·exact AkN i
 ·have s:=IwS.pt (Ef (hv (.inr (.inl h))))
  exact AkL a s a' s (by decide:LB≤30000) i (gIn.refl _)
 ·exact AkL a b a' b' (by decide:LB≤30000) i j
 ·exact AkO a b a' b' i j
 ·exact AkP a b a' b' i j
 ·exact Atf a a' i
 ·have s:=IwS.pt (Ef (hv (.inr (.inr h))))
  have s2:=IwS.pt (Ef (hu h))
  exact AkO (a.max s) s2 (a'.max s) s2 (AkP a s a' s i (gIn.refl _)) (gIn.refl _)
def Aad {x:Pq} {d:Nat} (hx:Sm x n d) (hd:d≤40000) {f:Int} (f0:0≤f) (f1:f≤30):LM x f=decide (gv x*2 ^ f.toNat≤2147483647*2 ^ GQ):=by
 have hle:x.2≤GQ:=hx.le
 have e:gv (ES x f)=gv x*2 ^ f.toNat:=by
  have:=Ie (p:=x) (n:=f.toNat) hle (by omega)
  rwa [show ((f.toNat:Nat):Int)=f by omega] at this
 have hs:(ES x f).2≤GQ:=(It hx f0 f1).le
 unfold LM
 rw [lg,decide_eq_true_eq,decide_eq_true_eq]
 rw [show Nt (ES x f) (2147483647,0)≤0 ↔ _ from LI hs (by decide),e,LJ]
def Ati {x:Pq} (hx:x.2≤GQ) (h:0≤gv x):0≤gv (upQ x):=Int.le_trans h (AsP hx).1
def Atj {b:Bool} {s:Int}:0≤gv (ixP b s):=by
 unfold ixP
 split
 ·rename_i h
  by_cases hs : -65536 ≤ -s ∧ -s≤65536
  ·rw [Pv hs.1 hs.2];exact ay (Bg _)
  ·unfold pw Ac
   unfold gv
   refine gu ?_ (ay (Bg _))
   have key:∀ (d:Nat) (m:Int),0≤m→0≤(nf m d).1:=fun d=>by
    induction d with
    | zero=>exact fun m h=>h
    | succ d ih =>
     intro m h
     unfold nf
     split
     ·exact ih _ (by omega)
     ·exact h
   split
   ·exact key _ _ (by decide)
   ·exact key _ _ (by have:=Bg (max (-65536) (min (-s) 65536)).toNat;omega)
 ·exact Int.le_of_eq Ic.symm
section
variable {ps:List Prt} {bs:List Bk} {os:List Int} {F:List Int} {R:List Iq} {E E':List Pq} {y:Bk} {s:Int}
structure InE (E' E:List Pq):Prop where
 lo:∀ k:Nat,0≤gv (E'[k]?.getD (0,0))
 le:∀ k:Nat,gv (E'[k]?.getD (0,0))≤gv (E[k]?.getD (0,0))
def Aoy (h0:0≤s) (h1:s≤30) (hE:∀ p∈E,Sm p LB LB) (hE':∀ p∈E',Sm p LB LB) (h:InE E' E) (a:Int):0≤gv (mvP F E' s a)∧gv (mvP F E' s a)≤gv (mvP F E s a):=by
 have l:=h.lo a.toNat
 have g:=h.le a.toNat
 unfold mvP
 split
 ·exact ⟨l,g⟩
 ·rw [show gv (Du (eG E' a) (pw (-s)))=_ from CL (Eo hE' a).le (WG h0 h1).le,show gv (Du (eG E a) (pw (-s)))=_ from CL (Eo hE a).le (WG h0 h1).le]
  have:=AsO h0 h1
  have:=Bg (65536 - s.toNat)
  unfold eG
  omega
def Mt {p q p' q':Pq} (h:p.2+q.2≤GQ) (h':p'.2+q'.2≤GQ) (p0:0≤gv p') (q0:0≤gv q') (hp:gv p'≤gv p) (hq:gv q'≤gv q):0≤gv (BR p' q')∧gv (BR p' q')≤gv (BR p q):=by
 have e:=GZ h
 have e':=GZ h'
 have m1:gv p'*gv q'≤gv p*gv q:=Int.mul_le_mul hp hq q0 (Int.le_trans p0 hp)
 have m0:0≤gv p'*gv q':=gu p0 q0
 refine ⟨?_,EF (by rw [show gv (BR p' q')*2 ^ GQ=_ from e',show gv (BR p q)*2 ^ GQ=_ from e];exact m1)⟩
 refine EF ?_
 rw [Int.zero_mul,show gv (BR p' q')*2 ^ GQ=_ from e']
 exact m0
def Aoz {a:Iq} {d:Nat} (h:IwS a n d):0≤gv (DA a):=by
 unfold DA
 rw [(Ij h).2]
 omega
def AbA (h0:0≤s) (h1:s≤30) (hR:∀ p∈R,IwS p LB LB) (hE:∀ p∈E,Sm p LB LB) (hE':∀ p∈E',Sm p LB LB) (hv:y.kind=6→Dn y.vn y.ve) (h:InE E' E):0≤gv (AM ps F R E' y s)∧gv (AM ps F R E' y s)≤gv (AM ps F R E y s):=by
 have mv:=fun a=>Aoy (F:=F) h0 h1 hE hE' h a
 have sE:=fun a=>GX (F:=F) h0 h1 hE a
 have sE':=fun a=>GX (F:=F) h0 h1 hE' a
 have ix:∀ b,(ixP b s).2≤GQ:=fun b=>(OG h0 h1).le
 have ip:∀ b,0≤gv (ixP b s):=fun b=>Atj
 unfold AM
 split
 ·exact ⟨ip _,ck _⟩
 split
 ·exact ⟨ip _,ck _⟩
 split
 ·rw [show gv (Du (mvP F E' s (Bi y)) (mvP F E' s (Dk y)))=_ from CL (sE' _).le (sE' _).le,show gv (Du (mvP F E s (Bi y)) (mvP F E s (Dk y)))=_ from CL (sE _).le (sE _).le]
  have:=mv (Bi y);have:=mv (Dk y)
  omega
 split
 ·exact mv _
 split
 ·rw [show gv (Fw (mvP F E' s (Bi y)) (mvP F E' s (Dk y)))=_ from Dl (sE' _).le (sE' _).le,show gv (Fw (mvP F E s (Bi y)) (mvP F E s (Dk y)))=_ from Dl (sE _).le (sE _).le]
  have:=mv (Bi y);have:=mv (Dk y)
  omega
 split
 ·next h6 =>
  have sv:=(Ef (hv h6)).abs
  have m:=Mt (p:=Ha (Ac y.vn 0 y.ve)) (p':=Ha (Ac y.vn 0 y.ve)) (q:=eG E (Bi y)) (q':=eG E' (Bi y)) (lT (dc sv.d (Eo hE _).d) (by decide)) (lT (dc sv.d (Eo hE' _).d) (by decide)) (by rw [Nq];omega) (h.lo _) (ck _) (h.le _)
  have q1:(BR (Ha (Ac y.vn 0 y.ve)) (eG E (Bi y))).2≤GQ:=(Sm.mul sv (Eo hE _) (by decide)).le
  have q2:(BR (Ha (Ac y.vn 0 y.ve)) (eG E' (Bi y))).2≤GQ:=(Sm.mul sv (Eo hE' _) (by decide)).le
  rw [show gv (Du (BR (Ha (Ac y.vn 0 y.ve)) (eG E' (Bi y))) _)=_ from CL q2 (ix _),show gv (Du (BR (Ha (Ac y.vn 0 y.ve)) (eG E (Bi y))) _)=_ from CL q1 (ix _)]
  have:=ip (decide (s - sG F (Bi y)+y.ve<0))
  omega
 split
 ·have sM:=fun a=>Pg (UH hR a)
  have pM:=fun a=>Aoz (UH hR a)
  have m1:∀ a b,0≤gv (BR (DA (rG R a)) (eG E' b))∧gv (BR (DA (rG R a)) (eG E' b))≤gv (BR (DA (rG R a)) (eG E b)):=fun a b=>Mt (lT (dc (sM a).d (Eo hE b).d) (by decide)) (lT (dc (sM a).d (Eo hE' b).d) (by decide)) (pM a) (h.lo _) (ck _) (h.le _)
  have m2:∀ a b,0≤gv (BR (eG E' a) (eG E' b))∧gv (BR (eG E' a) (eG E' b))≤gv (BR (eG E a) (eG E b)):=fun a b=>Mt (lT (dc (Eo hE a).d (Eo hE b).d) (by decide)) (lT (dc (Eo hE' a).d (Eo hE' b).d) (by decide)) (h.lo _) (h.lo _) (h.le _) (h.le _)
  have key:∀ E0:List Pq,(∀ p∈E0,Sm p LB LB)→gv (Du (Du (Du (BR (DA (rG R (Bi y))) (eG E0 (Dk y))) (BR (DA (rG R (Dk y))) (eG E0 (Bi y)))) (BR (eG E0 (Bi y)) (eG E0 (Dk y)))) (ixP (decide (s - sG F (Bi y) - sG F (Dk y)<0)) s))=gv (BR (DA (rG R (Bi y))) (eG E0 (Dk y)))+gv (BR (DA (rG R (Dk y))) (eG E0 (Bi y)))+gv (BR (eG E0 (Bi y)) (eG E0 (Dk y)))+gv (ixP (decide (s - sG F (Bi y) - sG F (Dk y)<0)) s):=fun E0 h0=>by
   have a1:∀ a b,Sm (BR (DA (rG R a)) (eG E0 b)) 8192 8192:=fun a b=>Sm.mul (sM a) (Eo h0 b) (by decide)
   have a2:∀ a b,Sm (BR (eG E0 a) (eG E0 b)) 8192 8192:=fun a b=>Sm.mul (Eo h0 a) (Eo h0 b) (by decide)
   have s1:=Sm.sum (a1 (Bi y) (Dk y)) (a1 (Dk y) (Bi y)) (by decide)
   have s2:=Sm.sum s1 ((a2 (Bi y) (Dk y)).more (n':=16385) (d':=8192) (by decide) (by decide)) (by decide)
   rw [show gv (Du (Du (Du (BR (DA (rG R (Bi y))) (eG E0 (Dk y))) (BR (DA (rG R (Dk y))) (eG E0 (Bi y)))) (BR (eG E0 (Bi y)) (eG E0 (Dk y)))) _)=_ from CL s2.le (ix _),show gv (Du (Du (BR (DA (rG R (Bi y))) (eG E0 (Dk y))) (BR (DA (rG R (Dk y))) (eG E0 (Bi y)))) (BR (eG E0 (Bi y)) (eG E0 (Dk y))))=_ from CL s1.le (a2 _ _).le,show gv (Du (BR (DA (rG R (Bi y))) (eG E0 (Dk y))) (BR (DA (rG R (Dk y))) (eG E0 (Bi y))))=_ from CL (a1 _ _).le (a1 _ _).le]
  rw [key E hE,key E' hE']
  have:=m1 (Bi y) (Dk y);have:=m1 (Dk y) (Bi y);have:=m2 (Bi y) (Dk y);have:=ip (decide (s - sG F (Bi y) - sG F (Dk y)<0))
  omega
 have mx:∀ b,gv (Fw (mvP F E' s (Bi y)) (ixP b s))=max (gv (mvP F E' s (Bi y))) (gv (ixP b s))∧gv (Fw (mvP F E s (Bi y)) (ixP b s))=max (gv (mvP F E s (Bi y))) (gv (ixP b s)):=fun b=>⟨Dl (sE' _).le (ix _),Dl (sE _).le (ix _)⟩
 split
 ·rw [(mx _).1,(mx _).2]
  have:=mv (Bi y);have:=ip (!BS y.vn y.ve s || !BS y.un y.ue s)
  omega
 ·rw [(mx _).1,(mx _).2]
  have:=mv (Bi y);have:=ip (!BS y.vn y.ve s)
  omega
end
structure GI (ps:List Prt) (bs:List Bk) (os:List Int) (c:Ct):Prop where
 he:AO ps bs os=0
 ok:Aum bs c
 ver:∀ i,i<bs.length→Pw ps bs c i=0
def GI.parts {c:Ct} (h:GI ps bs os c) {i:Nat} {y:Bk} (hy:bs[i]?=some y) :
  Eb ps c.F y i=true∧Dd ps c.R y i=true∧gv (AM ps c.F c.R c.E y (scA c.F i))≤gv (c.E[i]?.getD (0,0))∧Ajg c.F c.R c.E y i=true∧0≤scA c.F i∧scA c.F i≤30:=by
 have h1:=h.ver i (gS.1 hy).1
 unfold Pw at h1
 rw [CX hy] at h1
 dsimp only at h1
 by_cases q1:Eb ps c.F y i=false
 ·rw [if_pos q1] at h1;cases h1
 rw [if_neg q1] at h1
 by_cases q2:Dd ps c.R y i=false
 ·rw [if_pos q2] at h1;cases h1
 rw [if_neg q2] at h1
 by_cases q3:Nt (c.E[i]?.getD (0,0)) (AM ps c.F c.R c.E y (scA c.F i))<0
 ·rw [if_pos q3] at h1;cases h1
 rw [if_neg q3] at h1
 by_cases q4:Ajg c.F c.R c.E y i=false
 ·rw [if_pos q4] at h1;cases h1
 rw [ia] at q1 q2 q4
 have hs:frB (scA c.F i)=true:=by
  have:=q1
  unfold Eb at this
  exact (Bool.and_eq_true_iff.1 this).1
 have hs2:0≤scA c.F i∧scA c.F i≤30:=of_decide_eq_true hs
 have sb:=UI (ps:=ps) (F:=c.F) (y:=y) hs2.1 hs2.2 h.ok.sR h.ok.sE (fun h6=>HW h.he hy (by rw [h6];rfl))
 exact ⟨q1,q2,(Wf (CY h.ok.sE i).le sb.le).1 (Int.not_lt.1 q3),q4,hs2.1,hs2.2⟩
section
variable {ps:List Prt} {bs:List Bk} {os:List Int} {c:Ct}
def AoA (h:∀ p∈E,Sm p 128 62):∀ p∈E,Sm p LB LB:=fun p hp=>(h p hp).more (by decide) (by decide)
end
def Mu:∀ {l:List Int},(∀ x∈l,x=0)→Ak l=0
 | [],_=>rfl
 | x::l,h=>by
  unfold Ak
  rw [if_pos (h x (fd ..))]
  exact Mu fun y hy=>h y (ek _ hy)
section
variable {P:Program} {F:Frm} {H:List Ob}
def Avr {t:Tmp} {ty' k:Nat} {x y:Int} (hk:TyK P ty true k) (hi:2=k:=by rfl) (hF:F t=.one (.ref id 0 none):=by with_unfolding_all exact rfl) (hH:H[id]?=some (.box ty' [.d (.val (.int .i64 x)),.d (.val (.int .i64 y))]):=by with_unfolding_all exact rfl):RV P F H (.cell t ty) (.agg [dI x,dI y]):=by
 obtain ⟨⟨dd,hu,hd⟩,hz⟩:=hk
 exact .cellA hF hH hu hd (by rw [hz,←hi];rfl) (.cons_ (.d fun _=>.val _) (.cons_ (.d fun _=>.val _) .nil_))
end
def dCr (u:Bool) (F:List Int) (qs:List (Rv × Rv)) (rs:List Rv):List D:=[AU u F,Acd qs,Acc rs]
def Rj (q:Rv × Rv) (r:Rv):Int:=if ivC q=false∨vdB r.rw=false∨sgI (rvP r).1<0 then 2 else if CQ (rvP r)=true∨CQ (rvP q.1)=true∨CQ (rvP q.2)=true then 4 else 0
def ckL (qs:List (Rv × Rv)) (rs:List Rv):Int:=Ak (List.zipWith Rj qs rs)
def ckE (ps:List Prt) (bs:List Bk) (os:List Int) (F:List Int) (qs:List (Rv × Rv)) (rs:List Rv):Int :=
 if AO ps bs os≠0 then AO ps bs os else if F.length=bs.length∧qs.length=bs.length∧rs.length=bs.length then ckL qs rs else 11
def AbB (F:List Int) (qs:List (Rv × Rv)) (rs:List Rv):Ct:=⟨F,qs.map ivQ,rs.map rvP⟩
def AfR {k:Nat} {q:Rv × Rv} (h1:qs[k]?=some q) (h2:rs[k]?=some r):(List.zipWith Rj qs rs)[k]?=some (Rj q r):=by rw [List.getElem?_zipWith,h1,h2]
def Atk {k:Nat} {q:Rv × Rv} (h:∀ j x,j<k→(List.zipWith Rj qs rs)[j]?=some x→x=0) (h1:qs[k]?=some q) (h2:rs[k]?=some r) (h0:Rj q r≠0):ckL qs rs=Rj q r:=QU h (AfR h1 h2) h0
def AoB (hr:RvL r) (hv:vdB r.rw=true):dRv false r=dyP (rvP r)∧Nf (rvP r).1 (rvP r).2∧(Ae (rvP r).1.natAbs).length≤40000:=by
 obtain ⟨a,b,c⟩:=Ui (t:=false) hr.1 hv
 exact ⟨a,b,by rw [show (rvP r).1=r.rw.x from rfl,c];exact hr.2⟩
def AoC (hq:∀ q∈qs,RvL q.1∧RvL q.2) (hr:∀ r∈rs,RvL r) (h:ckE ps bs os F qs rs=0):AO ps bs os=0∧Aum bs (AbB F qs rs)∧dCr false F qs rs=dCt false (AbB F qs rs)∧(∀ q∈qs,ivC q=true)∧(∀ r∈rs,vdB r.rw=true):=by
 unfold ckE at h
 by_cases h0:AO ps bs os=0
 case neg=>rw [if_pos h0] at h;exact absurd h h0
 rw [if_neg (not_not_intro h0)] at h
 by_cases hl:F.length=bs.length∧qs.length=bs.length∧rs.length=bs.length
 case neg=>rw [if_neg hl] at h;cases h
 rw [if_pos hl] at h
 obtain ⟨l1,l2,l3⟩:=hl
 have hz:=CC h
 have key:∀ (k:Nat) (q:Rv × Rv) (r:Rv),qs[k]?=some q→rs[k]?=some r→ivC q=true∧vdB r.rw=true∧0≤sgI (rvP r).1∧CQ (rvP r)=false∧CQ (rvP q.1)=false∧CQ (rvP q.2)=false:=fun k q r h1 h2=>by
  have h3:=hz _ (gM (AfR h1 h2))
  unfold Rj at h3
  by_cases c1:ivC q=false∨vdB r.rw=false∨sgI (rvP r).1<0
  ·rw [if_pos c1] at h3;cases h3
  rw [if_neg c1] at h3
  by_cases c2:CQ (rvP r)=true∨CQ (rvP q.1)=true∨CQ (rvP q.2)=true
  ·rw [if_pos c2] at h3;cases h3
  simp only [not_or,ia,bc,Int.not_lt] at c1 c2
  exact ⟨c1.1,c1.2.1,c1.2.2,c2.1,c2.2.1,c2.2.2⟩
 have kq:∀ q∈qs,∃r,r∈rs∧ivC q=true∧CQ (rvP q.1)=false∧CQ (rvP q.2)=false:=fun q hm=>by
  obtain ⟨k,hk⟩:=di hm
  obtain ⟨r,hr⟩:∃ r,rs[k]?=some r:=⟨_,gE (by have:=(gS.1 hk).1;omega)⟩
  have:=key k q r hk hr
  exact ⟨r,gM hr,this.1,this.2.2.2.2.1,this.2.2.2.2.2⟩
 have kr:∀ r∈rs,vdB r.rw=true∧0≤sgI (rvP r).1∧CQ (rvP r)=false:=fun r hm=>by
  obtain ⟨k,hk⟩:=di hm
  obtain ⟨q,hq⟩:∃ q,qs[k]?=some q:=⟨_,gE (by have:=(gS.1 hk).1;omega)⟩
  have:=key k q r hq hk
  exact ⟨this.2.1,this.2.2.1,this.2.2.2.1⟩
 refine ⟨h0,⟨l1,by show (qs.map ivQ).length=_;rw [af];exact l2,by show (rs.map rvP).length=_;rw [af];exact l3,fun p hp=>?_,fun p hp=>?_,fun p hp=>?_⟩,?_,fun q hm=>(kq q hm).choose_spec.2.1,fun r hm=>(kr r hm).1⟩
 ·obtain ⟨q,hm,rfl⟩:=List.mem_map.1 hp
  obtain ⟨_,_,v,g1,g2⟩:=kq q hm
  exact Ta (Wy (hq q hm).1 (hq q hm).2 v).1 (by unfold Hk;rw [show CQ (ivQ q).1=false from g1,show CQ (ivQ q).2=false from g2];rfl)
 ·obtain ⟨r,hm,rfl⟩:=List.mem_map.1 hp
  obtain ⟨v,_,g⟩:=kr r hm
  exact Abh (AoB (hr r hm) v).2.1 g
 ·obtain ⟨r,hm,rfl⟩:=List.mem_map.1 hp
  obtain ⟨_,g,_⟩:=kr r hm
  have hx:0≤(rvP r).1:=bw fun hn=>by rw [show sgI (rvP r).1 = -1 by unfold sgI;(repeat' split) <;> omega] at g;omega
  exact gu hx (ay (Bg _))
 ·unfold dCr dCt AbB Acd Acc
  have e1:Ay (dIr false) qs=Ay (dIw false) (qs.map ivQ):=by
   unfold Ay
   rw [dv]
   congr 1
   exact ej fun q hm=>by
    obtain ⟨_,_,v,_⟩:=kq q hm
    exact (Wy (hq q hm).1 (hq q hm).2 v).2.1
  have e2:Ay (dRv false) rs=Ay dyP (rs.map rvP):=by
   unfold Ay
   rw [dv]
   congr 1
   exact ej fun r hm=>(AoB (hr r hm) (kr r hm).1).1
  rw [e1,e2]
  simp only [af]
def vfK (ps:List Prt) (bs:List Bk) (c:Ct):Option Nat:=(List.range bs.length).find? fun i=>decide (Pw ps bs c i≠0)
def vfF (ps:List Prt) (bs:List Bk) (c:Ct):Int × Int:=match vfK ps bs c with
 | none=>(0,0)
 | some i=>(Pw ps bs c i,(i:Int))
def AfS {c:Ct}:vfK ps bs c=none ↔ ∀ i,i<bs.length→Pw ps bs c i=0:=by
 unfold vfK
 rw [List.find?_eq_none]
 simp
def AoD {c:Ct} {k:Nat} (hk:k<bs.length) (h:∀ i,i<k→Pw ps bs c i=0) (h0:Pw ps bs c k≠0):vfK ps bs c=some k:=by
 unfold vfK
 rw [List.find?_range_eq_some]
 exact ⟨by simpa using h0,List.mem_range.2 hk,fun j hj=>by simp [h j hj]⟩
def vfE (ps:List Prt) (bs:List Bk) (os F:List Int) (qs:List (Rv × Rv)) (rs:List Rv):Bool:=decide (ckE ps bs os F qs rs=0) && (vfK ps bs (AbB F qs rs)).isNone
def vfP (ps:List Prt) (bs:List Bk) (os F:List Int) (qs:List (Rv × Rv)) (rs:List Rv):Int × Int:=if ckE ps bs os F qs rs=0 then vfF ps bs (AbB F qs rs) else (0,0)
def AoE (hq:∀ q∈qs,RvL q.1∧RvL q.2) (hr:∀ r∈rs,RvL r) (h:vfE ps bs os F qs rs=true):GI ps bs os (AbB F qs rs):=by
 unfold vfE at h
 rw [aj,decide_eq_true_eq,Option.isNone_iff_eq_none] at h
 obtain ⟨a,b,_⟩:=AoC hq hr h.1
 exact ⟨a,b,AfS.1 h.2⟩
def Rk (x:Pq) (n1:Nf x.1 x.2) (l1:(Ae x.1.natAbs).length≤40000):CV prog An 124 [aDy false x.1 x.2] [aB (CQ x)]:=by
 refine cvz func124 ntmps124 ?_
 have B1:=IR x.1 x.2 n1 l1
 have hm:decide ((4096:Int)<max ((Bu x.1.natAbs:Nat):Int) (x.2:Int))=CQ x:=by unfold CQ AnC;rw [lg,decide_eq_true_eq,decide_eq_true_eq];omega
 repeat' (with_reducible first|refine qq ?_|(refine Tx 0 ?_;refine gN xBo <| gO xA ?_)|(refine BU (id:=1) AN (by kernel_rfl) ?_;refine gP xL <| gP (xCl func212 (B1)) <| gP xF <| gP xD <| gP (by exact Gf rfl rfl rfl) <| gP (by first|exact TN rfl rfl rfl hm|exact xGt) <| gP xA ?_;refine Ke ?_))
 exact Tl
def WM {p:Prop} (k:p') (h:Hd9 p'→p:=by with_reducible first|(intro Z9;refine Tx 0 ?_;refine gN xBo <| gN xBo <| gO xA ?_;exact Z9.o)|(intro Z9;refine Tx 1 ?_;refine gO xL <| gO (xCl func35 (CK)) <| gO xA ?_;exact Z9.o)|fail):p:=h ⟨k⟩
def Aae {p:Prop} (k:p') (h:Hd9 p'→p:=by with_reducible first|(intro Z9;refine Tx 2 ?_;refine gO xM <| gO (xNE Ai) ?_;exact Z9.o)|(intro Z9;refine Tx 4 ?_;refine gO xF <| gO xD <| gO xN <| gO xA ?_;exact Z9.o)|(intro Z9;refine Tx 5 ?_;refine gO xF <| gO xD <| gO xN <| gO xM <| gO xNe <| gO xM ?_;(first|iterate 5 refine Jd ?_|(refine Jy (xFa PD BN) ?_;refine Jy (xLd BN) ?_;refine Jy (xLn Aj) ?_;refine Jy xM1 ?_;refine Jy xNe ?_));refine gO xPk <| gO xM ?_;(first|iterate 5 refine Jd ?_|(refine Jy (xFa EX Aw) ?_;refine Jy (xLd Aw) ?_;refine Jy (xLn Ah) ?_;refine Jy xM1 ?_;refine Jy xNe ?_));refine gO xPk ?_;exact Z9.o)|fail):p:=h ⟨k⟩
def Atl {p:Prop} (h:p:=by first|exact xIr Ah (Wx hq)|exact xIr Ah (Ya hr)):p:=h
def AkQ {p:Prop} (k:p') (h:Hd9 p'→p:=by with_reducible first|(intro Z9;refine Tx 9 ?_;refine gO xM <| gO (by first|exact xIr Aj (Wx hq)|exact xIr Aj (Ya hr)) <| gO xL <| gN (xAl Ap) <| gO xA <| gZ (xSk Ag) ?_;exact Z9.o)|(intro Z9;refine Tx 10 ?_;refine gO xL <| gO (xCl func122 (VI)) <| gO FI <| gO xM ?_;(first|iterate 7 refine Jd ?_|(refine Jy (xFa EX Aw) ?_;refine Jy (xLd Aw) ?_;refine Jy xM1 ?_;refine Jy Atl ?_;refine Jy (xLa Ad) ?_;refine Jy (xCl func123 (VD)) ?_;refine Jy FI ?_));refine gO xPk <| gO xM ?_;(first|iterate 5 refine Jd ?_|(refine Jy (xFa EX Aw) ?_;refine Jy (xLd Aw) ?_;refine Jy xM1 ?_;refine Jy Atl ?_;refine Jy (xLa Ad) ?_));refine Jd ?_;(first|refine Jd ?_|refine Jy xLt ?_);refine gO xPk ?_;exact Z9.o)|fail):p:=h ⟨k⟩
def AoF {p:Prop} (h:p:=by first|exact xCl func124 (LR)|exact xCl func124 (L1)|exact xCl func124 (L2)):p:=h
def AoG {p:Prop} (h:p:=by first|exact xIr Ah (hia)|exact xIr Ah (hra)):p:=h
def Aaf {p:Prop} (k:p') (h:Hd9 p'→p:=by with_reducible first|(intro Z9;refine Tx 9 ?_;refine gO xM <| gO (by first|exact xIr Aj (hia)|exact xIr Aj (hra)) <| gO xL <| gN (xAl Ap) <| gO xA <| gZ (xSk Ag) ?_;exact Z9.o)|(intro Z9;refine Tx 10 ?_;refine gO xL <| gO (xCl func122 (VI2)) <| gO FI <| gO xM ?_;(first|iterate 7 refine Jd ?_|(refine Jy (xFa EX Aw) ?_;refine Jy (xLd Aw) ?_;refine Jy xM1 ?_;refine Jy AoG ?_;refine Jy (xLa Ad) ?_;refine Jy (xCl func123 (VD2)) ?_;refine Jy FI ?_));refine gO xPk <| gO xM ?_;(first|iterate 7 refine Jd ?_|(refine Jy (xFa EX Aw) ?_;refine Jy (xLd Aw) ?_;refine Jy xM1 ?_;refine Jy AoG ?_;refine Jy (xLa Ad) ?_;refine Jy (xCl func55 (SG)) ?_;refine Jy xLt ?_));refine gO xPk ?_;exact Z9.o)|(intro Z9;refine Tx 12 ?_;refine gO xF <| gO xD <| gO xM <| gO AoG <| gO xL <| gO AoF <| gO xM ?_;(first|iterate 3 refine Jd ?_|(refine Jy (xFa CR Ad) ?_;refine Jy (xLa Ad) ?_;refine Jy AoF ?_));refine gO xPk <| gO xM ?_;(first|iterate 3 refine Jd ?_|(refine Jy (xFa Bf Ad) ?_;refine Jy (xLa Ad) ?_;refine Jy AoF ?_));refine gO xPk ?_;exact Z9.o)|fail):p:=h ⟨k⟩
def NI {p:Prop} (h:p:=by
 exact AH rfl (.cons_ (AdK rfl (by decide) rfl) .nil_)):p:=h
def Atm {p:Prop} (h:p:=by first|exact Bw rfl Ai rfl (GP h0)|exact Bw rfl Ai rfl (Ps (by first|rfl|omega))|exact Bw rfl Ai rfl (GP (by first|assumption|omega))|exact Bw rfl Ai rfl rfl):p:=h
def Atn {p:Prop} (h:p:=by first|exact xIr Ah (Wx hq)|exact xIr Ah (hra)):p:=h
def AbC (t u:Bool) {ps:List Prt} {bs:List Bk} {os:List Int} (hl:Fa ps bs os) (F:List Int) (qs:List (Rv × Rv)) (rs:List Rv) (hwq:∀ q∈qs,RvL q.1∧RvL q.2) (hwr:∀ r∈rs,RvL r) (hFl:F.length≤1000000) (hQl:qs.length≤1000000) (hRl:rs.length≤1000000):CV prog An 49 [aDg t ps bs os,.agg (dCr u F qs rs)] [aE (ckE ps bs os F qs rs)]:=by
 refine cvz func49 ntmps49 ?_
 have CK:=(Hy t hl).cv
 have hl1:=hl.l1
 have hl2:=hl.l2
 by_cases h0:AO ps bs os=0
 case neg =>
  have hb:ckE ps bs os F qs rs=AO ps bs os:=by unfold ckE;rw [if_pos h0]
  rw [hb]
  repeat' (with_reducible first|refine qq ?_|refine WM ?_|(refine Tx 2 ?_;refine gO xM <| gO Atm ?_)|(refine Tx 3 ?_;refine gO xM <| gO xA ?_))
  exact AH rfl (.cons_ (Aca rfl rfl) .nil_)
 rw [h0] at CK
 by_cases hF:F.length=bs.length
 case neg =>
  have hb:ckE ps bs os F qs rs=11:=by unfold ckE;rw [if_neg (not_not_intro h0),if_neg (fun h=>hF h.1)]
  rw [hb]
  repeat' (with_reducible first|refine qq ?_|refine WM ?_|refine Aae ?_|(refine Tx 6 ?_;refine gO (xMi underlying109) <| gO xA ?_))
  exact NI
 by_cases hQ:qs.length=bs.length
 case neg =>
  have hb:ckE ps bs os F qs rs=11:=by unfold ckE;rw [if_neg (not_not_intro h0),if_neg (fun h=>hQ h.2.1)]
  rw [hb]
  repeat' (with_reducible first|refine qq ?_|refine WM ?_|refine Aae ?_|(refine Tx 6 ?_;refine gO (xMi underlying109) <| gO xA ?_))
  exact NI
 by_cases hR:rs.length=bs.length
 case neg =>
  have hb:ckE ps bs os F qs rs=11:=by unfold ckE;rw [if_neg (not_not_intro h0),if_neg (fun h=>hR h.2.2)]
  rw [hb]
  repeat' (with_reducible first|refine qq ?_|refine WM ?_|refine Aae ?_|(refine Tx 6 ?_;refine gO (xMi underlying109) <| gO xA ?_))
  exact NI
 have hb:ckE ps bs os F qs rs=ckL qs rs:=by unfold ckE;rw [if_neg (not_not_intro h0),if_pos ⟨hF,hQ,hR⟩]
 rw [hb]
 repeat' (with_reducible first|refine qq ?_|refine WM ?_|refine Aae ?_|(refine Tx 7 ?_;refine gO xF <| gO xD <| gO xN <| gO xM ?_))
 refine Bj (BK 2) (Av (fun n Fr H=>∃ k:Nat,k≤qs.length∧n=qs.length - k∧(∀ (j:Nat) (x:Int),j<k→(List.zipWith Rj qs rs)[j]?=some x→x=0)∧Fr=ofL [(3,vr 1),(38,vd (Acd qs)),(39,vi qs.length),(40,vi ((k:Nat)))]∧H=[.box 26 [.d (Di t ps),.d (DK t bs),.d (AU t os)],.box 30 [.d (AU u F),.d (Acd qs),.d (Acc rs)]]) (n0:=qs.length) ⟨0,ad _,rfl,(fun j x hj=>absurd hj (fb _)),rfl,rfl⟩ ?_)
 rintro n Fr H ⟨k,hk,rfl,hz,rfl,rfl⟩
 by_cases hlt:k<qs.length
 case pos =>
  obtain ⟨q,hq⟩:∃ q,qs[k]?=some q:=⟨_,gE hlt⟩
  obtain ⟨r,hr⟩:∃ r,rs[k]?=some r:=⟨_,gE (by omega)⟩
  have wq:=hwq q (gM hq)
  have wr:=hwr r (gM hr)
  have VI:CV prog An 122 [.agg (dIr false q)] [aB (ivC q)]:=IY q.1 q.2 wq.1 wq.2
  have VD:=(Ng (G:=An) false r wr.1 (by have:=wr.2;omega)).cv
  have hit:=Atk hz hq hr
  cases h1:ivC q
  case false =>
   have hc:Rj q r=2:=by unfold Rj;rw [if_pos (.inl h1)]
   rw [hit (by rw [hc];decide),hc]
   rw [h1] at VI
   repeat' (with_reducible first|refine qq ?_|(refine Tx 8 ?_;refine gO xLt ?_)|refine AkQ ?_|(refine Tx 11 ?_;refine gO (xMi underlying109) <| gO xA ?_))
   exact NI
  rw [h1] at VI
  cases h2:vdB r.rw
  case false =>
   have hc:Rj q r=2:=by unfold Rj;rw [if_pos (.inr (.inl h2))]
   rw [hit (by rw [hc];decide),hc]
   rw [h2] at VD
   repeat' (with_reducible first|refine qq ?_|(refine Tx 8 ?_;refine gO xLt ?_)|refine AkQ ?_|(refine Tx 11 ?_;refine gO (xMi underlying109) <| gO xA ?_))
   exact NI
  rw [h2] at VD
  obtain ⟨d0,n0,m0⟩:=AoB wr h2
  have SG:=Nx (rvP r).1 (rvP r).2 n0 m0
  have hra:=Ya hr
  have hra:=Ya hr
  have VD2:CV prog An 123 [.agg (dyP (rvP r))] [aB true]:=by rw [←d0];exact VD
  rw [d0] at hra
  by_cases h3:sgI (rvP r).1<0
  case pos =>
   have hc:Rj q r=2:=by unfold Rj;rw [if_pos (.inr (.inr h3))]
   rw [hit (by rw [hc];decide),hc]
   repeat' (with_reducible first|refine qq ?_|(refine Tx 8 ?_;refine gO xLt ?_)|(refine Tx 9 ?_;refine gO xM <| gO (by first|exact xIr Aj (Wx hq)|exact xIr Aj (hra)) <| gO xL <| gN (xAl Ap) <| gO xA <| gZ (xSk Ag) ?_)|(refine Tx 10 ?_;refine gO xL <| gO (xCl func122 (VI)) <| gO FI <| gO xM ?_;(first|iterate 7 refine Jd ?_|(refine Jy (xFa EX Aw) ?_;refine Jy (xLd Aw) ?_;refine Jy xM1 ?_;refine Jy Atn ?_;refine Jy (xLa Ad) ?_;refine Jy (xCl func123 (VD2)) ?_;refine Jy FI ?_));refine gO xPk <| gO xM ?_;(first|iterate 7 refine Jd ?_|(refine Jy (xFa EX Aw) ?_;refine Jy (xLd Aw) ?_;refine Jy xM1 ?_;refine Jy Atn ?_;refine Jy (xLa Ad) ?_;refine Jy (xCl func55 (SG)) ?_;refine Jy xLt ?_));refine gO xPk ?_)|(refine Tx 11 ?_;refine gO (xMi underlying109) <| gO xA ?_))
   exact NI
  obtain ⟨sw,hdy,lw1,lw2⟩:=Wy wq.1 wq.2 h1
  have hia:=Wx hq
  have VI2:CV prog An 122 [.agg (dIw false (ivQ q))] [aB true]:=by rw [←hdy];exact VI
  rw [hdy] at hia
  have LR:=Rk (rvP r) n0 m0
  have L1:=Rk (rvP q.1) sw.s1.ok lw1
  have L2:=Rk (rvP q.2) sw.s2.ok lw2
  have hn2:¬ (ivC q=false∨vdB r.rw=false∨sgI (rvP r).1<0):=by rw [h1,h2];simpa using h3
  cases h4:CQ (rvP r)
  case true =>
   have hc:Rj q r=4:=by unfold Rj;rw [if_neg hn2,if_pos (.inl h4)]
   rw [hit (by rw [hc];decide),hc]
   rw [h4] at LR
   repeat' (with_reducible first|refine qq ?_|(refine Tx 8 ?_;refine gO xLt ?_)|refine Aaf ?_|(refine Tx 13 ?_;refine gO (xMi underlying109) <| gO xA ?_))
   exact NI
  rw [h4] at LR
  cases h5:CQ (rvP q.1)
  case true =>
   have hc:Rj q r=4:=by unfold Rj;rw [if_neg hn2,if_pos (.inr (.inl h5))]
   rw [hit (by rw [hc];decide),hc]
   rw [h5] at L1
   repeat' (with_reducible first|refine qq ?_|(refine Tx 8 ?_;refine gO xLt ?_)|refine Aaf ?_|(refine Tx 13 ?_;refine gO (xMi underlying109) <| gO xA ?_))
   exact NI
  rw [h5] at L1
  cases h6:CQ (rvP q.2)
  case true =>
   have hc:Rj q r=4:=by unfold Rj;rw [if_neg hn2,if_pos (.inr (.inr h6))]
   rw [hit (by rw [hc];decide),hc]
   rw [h6] at L2
   repeat' (with_reducible first|refine qq ?_|(refine Tx 8 ?_;refine gO xLt ?_)|refine Aaf ?_|(refine Tx 13 ?_;refine gO (xMi underlying109) <| gO xA ?_))
   exact NI
  rw [h6] at L2
  have hc:Rj q r=0:=by unfold Rj;rw [if_neg hn2,if_neg (by simp [h4,h5,h6])]
  repeat' (with_reducible first|refine qq ?_|(refine Tx 8 ?_;refine gO xLt ?_)|refine Aaf ?_|(refine Tx 14 ?_;refine gO xAd <| gO xM ?_))
  exact ⟨_,_,RJ [(3,vr 1),(38,vd (Acd qs)),(39,vi qs.length),(40,vi (((k+1):Nat)))] 2 rfl (mB rfl rfl) ⟨Db rfl,Db rfl,trivial⟩,_,by omega,k+1,by omega,rfl,(fun j x hj hx=>by
    rcases bh j k with h|h
    ·exact hz j x h hx
    ·obtain rfl:j=k:=by omega
     rw [AfR hq hr] at hx
     cases hx
     exact hc),rfl,rfl⟩
 obtain rfl:k=qs.length:=by omega
 have he:ckL qs rs=0:=Mu fun x hx=>by
  obtain ⟨j,hj⟩:=di hx
  exact hz j x (by have:=(gS.1 hj).1;rw [List.length_zipWith] at this;omega) hj
 rw [he]
 repeat' (with_reducible first|refine qq ?_|(refine Tx 8 ?_;refine gO xLt ?_)|(refine Tx 15 ?_;refine gO xA ?_))
 exact AH rfl (.cons_ (Gk rfl rfl) .nil_)
def Mv (t:Bool) {ps:List Prt} {bs:List Bk} {os:List Int} (hl:Fa ps bs os) (F:List Int) (qs:List (Rv × Rv)) (rs:List Rv) (hwq:∀ q∈qs,RvL q.1∧RvL q.2) (hwr:∀ r∈rs,RvL r) (hFl:F.length≤1000000) (hQl:qs.length≤1000000) (hRl:rs.length≤1000000):CV prog An 12 [aDg t ps bs os,.agg (dCr false F qs rs)] [aB (vfE ps bs os F qs rs),.agg [dI (vfP ps bs os F qs rs).1,dI (vfP ps bs os F qs rs).2],aE (ckE ps bs os F qs rs)]:=by
 refine cvz func12 ntmps12 ?_
 have CK:=AbC t false hl F qs rs hwq hwr hFl hQl hRl
 have hl1:=hl.l1
 have hl2:=hl.l2
 by_cases h0:ckE ps bs os F qs rs=0
 case neg =>
  have e1:vfE ps bs os F qs rs=false:=by unfold vfE;rw [decide_eq_false h0];rfl
  have e2:vfP ps bs os F qs rs=(0,0):=if_neg h0
  rw [e1,e2]
  repeat' (with_reducible first|refine qq ?_|(refine Tx 0 ?_;refine gN xBo <| gN xBo <| gO xA <| gN (xAl DJ) <| gO xA ?_)|(refine Tx 1 ?_;refine gO xL <| gO xL <| gO (xCl func49 (CK)) <| gO xA ?_)|(refine Tx 2 ?_;refine gO xM <| gO Atm ?_)|(refine Tx 3 ?_;refine gO (by exact Az rfl FN rfl rfl) <| gO xM <| gO xA <| gZ (xSk Bz) <| gO xA ?_))
  exact AH rfl (.cons_ (Fi rfl rfl) (.cons_ (Avr Bz) (.cons_ (Aca rfl rfl) .nil_)))
 obtain ⟨hd,ok,hdc,_,_⟩:=AoC hwq hwr h0
 rw [h0] at CK
 rw [h0]
 have e2:vfP ps bs os F qs rs=vfF ps bs (AbB F qs rs):=if_pos h0
 have e1:vfE ps bs os F qs rs=(vfK ps bs (AbB F qs rs)).isNone:=by unfold vfE;rw [decide_eq_true h0,ga]
 rw [e1,e2]
 rw [hdc] at CK
 rw [hdc]
 generalize AbB F qs rs=c at *
 clear e1 e2 h0
 repeat' (with_reducible first|refine qq ?_|(refine Tx 0 ?_;refine gN xBo <| gN xBo <| gO xA <| gN (xAl DJ) <| gO xA ?_)|(refine Tx 1 ?_;refine gO xL <| gO xL <| gO (xCl func49 (CK)) <| gO xA ?_)|(refine Tx 2 ?_;refine gO xM <| gO (xNE Ai) ?_)|(refine Tx 4 ?_;refine gO xF <| gO xD <| gO xN <| gO xM ?_))
 refine Bj (BK 3) (Av (fun n Fr H=>∃ k:Nat,k≤bs.length∧n=bs.length - k∧(∀ i,i<k→Pw ps bs c i=0)∧Fr=ofL [(2,vr 0),(3,vr 1),(5,vr 2),(18,vd (DK t bs)),(19,vi bs.length),(20,vi ((k:Nat)))]∧H=[.box 26 [.d (Di t ps),.d (DK t bs),.d (AU t os)],.box 30 [.d (AU false c.F),.d (.row false 6 c.R.length (Ay (dIw false) c.R)),.d (.row false 3 c.E.length (Ay dyP c.E))],.box 34 [.d (.val (.int .i64 0)),.d (.val (.int .i64 0))]]) (n0:=bs.length) ⟨0,ad _,rfl,(fun i hi=>absurd hi (fb _)),rfl,rfl⟩ ?_)
 rintro n Fr H ⟨k,hk,rfl,hz,rfl,rfl⟩
 by_cases hlt:k<bs.length
 case pos =>
  obtain ⟨y,hy⟩:∃ y,bs[k]?=some y:=⟨_,gE hlt⟩
  have LK:=Abz t false os c k hy (Aoo hd hy) ok hl2 hl1
  have vs:=AoD hlt hz
  generalize hq:Pw ps bs c k=q at *
  by_cases h1:q=0
  case neg =>
   have vs:=vs h1
   have e1:(vfK ps bs c).isNone=false:=by rw [vs];rfl
   have e2:vfF ps bs c=(q,(k:Int)):=by unfold vfF;rw [vs];show (Pw ps bs c k,_)=_;rw [hq]
   rw [e1,e2]
   repeat' (with_reducible first|refine qq ?_|(refine Tx 5 ?_;refine gO xLt ?_)|(refine Tx 6 ?_;refine gO xM <| gO xA ?_)|(refine Tx 7 ?_;refine gO xL <| gO xL <| gO xM <| gO (xCl func50 (LK)) <| gO xA ?_)|(refine Tx 8 ?_;refine gO xM <| gO xNe ?_)|(refine Tx 9 ?_;refine gO xM <| gO xM <| gO (by exact Az rfl FN rfl rfl) <| gO xA <| gZ (xSk Bz) <| gO xA ?_))
   exact AH rfl (.cons_ (Fi rfl rfl) (.cons_ (Avr Bz) (.cons_ (Gk rfl rfl) .nil_)))
  subst h1
  repeat' (with_reducible first|refine qq ?_|(refine Tx 5 ?_;refine gO xLt ?_)|(refine Tx 6 ?_;refine gO xM <| gO xA ?_)|(refine Tx 7 ?_;refine gO xL <| gO xL <| gO xM <| gO (xCl func50 (LK)) <| gO xA ?_)|(refine Tx 8 ?_;refine gO xM <| gO xNe ?_)|(refine Tx 10 ?_;refine gO xAd <| gO xM ?_))
  refine ⟨_,_,BK 3,_,by omega,k+1,by omega,rfl,Up hz hq,rfl,rfl⟩
 obtain rfl:k=bs.length:=by omega
 have vn:=AfS.2 hz
 have e1:(vfK ps bs c).isNone=true:=by rw [vn];rfl
 have e2:vfF ps bs c=(0,0):=by unfold vfF;rw [vn]
 rw [e1,e2]
 repeat' (with_reducible first|refine qq ?_|(refine Tx 5 ?_;refine gO xLt ?_)|(refine Tx 11 ?_;refine gO (by exact Az rfl FN rfl rfl) <| gO xA <| gZ (xSk Bz) <| gO xA ?_))
 exact AH rfl (.cons_ (Fi rfl rfl) (.cons_ (Avr Bz) (.cons_ (Gk rfl rfl) .nil_)))
def wiB (a:Iq) (f m:Int):Bool:=decide (Nt (ES (DA a) f) (m,0)≤0)
def pkF (a:Iq):Nat→Int
 | 0 => -1
 | n+1=>if wiB a (n:Int) 1073741824=true then (n:Int) else pkF a n
def pkS (a:Iq):Int:=pkF a 31
def pkB (a:Iq):Bool:=decide (0≤pkS a)
def AkR (a:Iq):∀ n:Nat,-1≤pkF a n∧pkF a n≤(n:Int) - 1
 | 0=>⟨ck _,ck _⟩
 | n+1=>by
  have:=AkR a n
  unfold pkF
  split <;> omega
def Ato (a:Iq) : -1≤pkS a∧pkS a≤30:=AkR a 31
def Ace:Nat→Int→Pq→Int
 | 0,k,_=>k
 | n+1,k,x=>if Nt (pw k) x<0 then Ace n (k+1) x else k
def AfT (x:Pq):Pq:=pw (Ace 50000 (-62) x)
section
variable (ps:List Prt) (bs:List Bk) (os:List Int) (F:List Int) (R:List Iq)
def erB (E:List Pq) (i:Nat):Pq:=upQ (AM ps F R E (PQ bs i) (scA F i))
def erO:List Nat→List Pq→Option (List Pq)
 | [],E=>some E
 | i::l,E=>if Ahg (erB ps bs F R E i)=true then none else erO l (E.set i (erB ps bs F R E i))
def erM (E:List Pq) (i:Nat):Pq:=Fw (E[i]?.getD (0,0)) (erB ps bs F R E i)
def erX (w:Bool) (E:List Pq) (i:Nat):Pq:=if w=true then AfT (erM ps bs F R E i) else erM ps bs F R E i
def erD (w:Bool):List Nat→List Pq→Bool→Option (List Pq × Bool)
 | [],E,b=>some (E,b)
 | i::l,E,b=>if Nt (erM ps bs F R E i) (E[i]?.getD (0,0))=0 then erD w l E b
  else if Ahg (erX ps bs F R w E i)=true then none else erD w l (E.set i (erX ps bs F R w E i)) true
def erR:Nat→Nat→List Pq→Option (List Pq)
 | 0,_,_=>none
 | n+1,r,E=>match erO ps bs F R (Bn bs) E with
  | none=>none
  | some E1=>match erD ps bs F R (decide (64≤r)) (AI bs) E1 false with
   | none=>none
   | some (E2,b)=>if b=true then erR n (r+1) E2 else some E2
def erA:Option (List Pq):=erR ps bs F R 128 0 (List.replicate bs.length (0,0))
def vfA (E:List Pq):Bool:=vfE ps bs os F (R.map UF) (E.map EL)
def mkT:Option (List Pq):=match erA ps bs F R with
 | none=>none
 | some E=>if vfA ps bs os F R E=true then some E else none
end
def AfU (F:List Int):Bool:=F.any fun f=>decide (0<f)
def ApE (f:Int):Int:=if 0<f then f - 1 else f
def AbD (F:List Int):List Int:=F.map ApE
def mkL (ps:List Prt) (bs:List Bk) (os:List Int) (R:List Iq):Nat→List Int→Option Ct
 | 0,_=>none
 | n+1,F=>match mkT ps bs os F R with
  | some E=>some ⟨F,R,E⟩
  | none=>if AfU F=true then mkL ps bs os R n (AbD F) else none
def mkC (ps:List Prt) (bs:List Bk) (os:List Int) (e:Int) (l:List Iq):Option Ct :=
 if e=0∧(rgV ps bs l).all pkB=true then mkL ps bs os (rgV ps bs l) 31 ((rgV ps bs l).map pkS) else none
structure OQ (bs:List Bk) (E:List Pq):Prop where
 len:E.length=bs.length
 sm:∀ p∈E,Sm p 128 62
 nn:∀ p∈E,0≤gv p
def OQ.zero (bs:List Bk):OQ bs (List.replicate bs.length (0,0)):=⟨dt ..,fun p hp=>by rw [List.eq_of_mem_replicate hp];exact Sm.zero _ _,fun p hp=>by rw [List.eq_of_mem_replicate hp,Ic];exact ck _⟩
def OQ.set (h:OQ bs E) {p:Pq} (hs:Sm p 128 62) (h0:0≤gv p) (i:Nat):OQ bs (E.set i p):=⟨by rw [dr];exact h.len,fun q hq=>by
 rcases iv hq with hq|rfl
 ·exact h.sm q hq
 ·exact hs,fun q hq=>by
 rcases iv hq with hq|rfl
 ·exact h.nn q hq
 ·exact h0⟩
def OQ.at_ (h:OQ bs E) (i:Nat):Sm (E[i]?.getD (0,0)) 128 62∧0≤gv (E[i]?.getD (0,0)):=by
 rcases he:E[i]? with _|p
 ·exact ⟨Sm.zero _ _,Int.le_of_eq Ic.symm⟩
 ·exact ⟨h.sm p (gM he),h.nn p (gM he)⟩
def OQ.inE (h:OQ bs E):InE E E:=⟨fun k=>(h.at_ k).2,fun _=>ck _⟩
def Aag {p:Pq} (h:Sm p n 62) (h0:0≤gv p) (hf:Ahg p=false):Sm p 128 62:=by
 have h1:gv p≤1099511627776*2 ^ GQ:=by
  have h2:=of_decide_eq_false hf
  have h3:=(LI (p:=p) (q:=(1099511627776,0)) h.le (by decide)).1 (Int.not_lt.1 h2)
  rwa [LJ] at h3
 refine ⟨h.ok,?_,h.d⟩
 have hp:=Bg (GQ - p.2)
 have hd:=h.d
 have e:(2:Int) ^ GQ=2 ^ p.2*2 ^ (GQ - p.2):=by rw [←al];congr 1;have:=h.le;omega
 unfold gv at h0 h1
 rw [e,←ah] at h1
 have h2:p.1≤1099511627776*2 ^ p.2:=gc h1 hp
 have h3:0≤p.1:=bw fun hn=>by
  have:=ks (show p.1<0 by omega) hp
  omega
 have h4:(2:Int) ^ p.2≤2 ^ 62:=by
  have h5:=av (n:=2) (by decide) hd
  exact_mod_cast h5
 have h6:p.1<2 ^ 128:=by
  have:(1099511627776:Int)*2 ^ p.2≤1099511627776*2 ^ 62:=js h4 (by decide)
  have h7:(1099511627776:Int)*2 ^ 62<2 ^ 128:=by decide
  omega
 have h8:((p.1.natAbs:Nat):Int)<((2 ^ 128:Nat):Int):=by
  rw [Int.natAbs_of_nonneg h3]
  exact_mod_cast h6
 exact_mod_cast h8
def Atp {k:Int} (h0 : -62≤k) (h1:k<n) (hn:n≤65536) (h2:0<n):Sm (pw k) n 62:=by
 unfold pw Ac
 split
 ·exact (Sm.mk_nf (m:=1) (n:=n) (d:=62) (p:=0+(-(max (-65536) (min k 65536))).toNat) (by omega) (by omega) (Nat.one_lt_two_pow (by omega)))
 ·refine (Sm.mk_nf (n:=n) (d:=62) (p:=0) (by omega) (by omega) ?_)
  rw [jb,fu]
  exact Nat.pow_lt_pow_right (by decide) (by omega)
def WN {k:Int} (h0 : -62≤k) (h1:k≤40064):Sm (pw k) 40065 62:=Atp h0 (by omega) (by decide) (by decide)
def AoH {a b:Nat} (h:a≤b):(2:Int) ^ a≤2 ^ b:=by
 have:=av (n:=2) (by decide) h
 exact_mod_cast this
def Avs {x:Pq} {d:Nat} (h:Sm x n d):gv x<2 ^ (n+GQ):=by
 have h1:x.1<2 ^ n:=by
  have h2:=h.n
  have h3:((x.1.natAbs:Nat):Int)<((2 ^ n:Nat):Int):=by exact_mod_cast h2
  have h4:((2 ^ n:Nat):Int)=2 ^ n:=by push_cast;rfl
  omega
 have hp:=Bg (GQ - x.2)
 have hq:(2:Int) ^ (GQ - x.2)≤2 ^ GQ:=AoH (Nat.sub_le GQ x.2)
 unfold gv
 rw [al]
 exact Int.lt_of_lt_of_le (ld h1 hp) (js hq (ay (Bg n)))
def AoI {a b:Nat} (h:(2:Int) ^ a<2 ^ b):a<b:=bw fun hn=>by
 have h1:=av (n:=2) (by decide) (show b≤a by omega)
 have h2:(2:Int) ^ b≤2 ^ a:=by exact_mod_cast h1
 omega
def Aah {x:Pq} (hx:Sm x 40064 62) {k:Int} (h0 : -62≤k) (h1:k≤40064) (h:Nt (pw k) x<0):k+1≤40064:=by
 have h2:¬ gv x≤gv (pw k):=fun hc=>absurd h (Int.not_lt.2 ((Wf (p:=pw k) (q:=x) (WN h0 h1).le hx.le).2 hc))
 have h3:=Avs hx
 rw [Pv (by omega) (by omega)] at h2
 have h4:=AoI (Int.lt_trans (Int.not_le.1 h2) h3)
 have h5:GQ=65536:=rfl
 omega
def AkS {x:Pq} (hx:Sm x 40064 62):∀ (n:Nat) (k:Int),-62≤k→k≤40064 → -62≤Ace n k x∧Ace n k x≤40064
 | 0,k,h0,h1=>⟨h0,h1⟩
 | n+1,k,h0,h1=>by
  unfold Ace
  split
  ·rename_i h
   exact AkS hx n (k+1) (by omega) (Aah hx h0 h1 h)
  ·exact ⟨h0,h1⟩
def AoJ {x:Pq} (hx:Sm x 40064 62):Sm (AfT x) 40065 62∧0≤gv (AfT x):=by
 obtain ⟨h0,h1⟩:=AkS hx 50000 (-62) (by decide) (by decide)
 unfold AfT
 exact ⟨WN h0 h1,by rw [Pv (by omega) (by omega)];exact ay (Bg _)⟩
def AoK {k:Int} (h0 : -62≤k) (h1:k≤40063):ES (pw k) 1=pw (k+1):=by
 have s1:=WN h0 (by omega)
 have s2:=WN (k:=k+1) (by omega) (by omega)
 refine SR (It s1 (by decide) (by decide)).ok s2.ok ?_
 have:=Ie (p:=pw k) (n:=1) s1.le (by decide)
 rw [show gv (ES (pw k) 1)=_ from this,Pv (by omega) (by omega),Pv (by omega) (by omega),←al]
 congr 1
 omega
section
variable {ps:List Prt} {bs:List Bk} {os:List Int} {F:List Int} {R:List Iq} {E:List Pq}
def Aai (he:AO ps bs os=0) {i:Nat} {y:Bk} (hy:bs[i]?=some y) (hs:0≤scA F i∧scA F i≤30) (sR:∀ p∈R,IwS p LB LB) (h:OQ bs E):Sm (AM ps F R E y (scA F i)) 40064 9000∧Sm (erB ps bs F R E i) 40064 62∧0≤gv (erB ps bs F R E i):=by
 have hv:y.kind=6→Dn y.vn y.ve:=fun h6=>HW he hy (by rw [h6];rfl)
 have lb:∀ p∈E,Sm p LB LB:=AoA h.sm
 have sb:=UI (ps:=ps) (F:=F) (y:=y) hs.1 hs.2 sR lb hv
 have nn:=(AbA (ps:=ps) (F:=F) (y:=y) hs.1 hs.2 sR lb lb hv h.inE).1
 unfold erB
 rw [CX hy]
 exact ⟨sb,(UE (den:=62) sb.neg (by decide)).neg,Ati sb.le nn⟩
def AkT (he:AO ps bs os=0) {i:Nat} {y:Bk} (hy:bs[i]?=some y) (hs:0≤scA F i∧scA F i≤30) (sR:∀ p∈R,IwS p LB LB) (h:OQ bs E):Sm (erM ps bs F R E i) 40064 62∧0≤gv (erM ps bs F R E i):=by
 obtain ⟨_,s,n⟩:=Aai he hy hs sR h
 obtain ⟨s',n'⟩:=h.at_ i
 unfold erM
 refine ⟨Sm.max (s'.more (by decide) (aa _)) s,?_⟩
 rw [show gv (Fw (E[i]?.getD (0,0)) (erB ps bs F R E i))=_ from Dl s'.le s.le]
 omega
def AkU (he:AO ps bs os=0) {i:Nat} {y:Bk} (hy:bs[i]?=some y) (hs:0≤scA F i∧scA F i≤30) (sR:∀ p∈R,IwS p LB LB) (h:OQ bs E) (w:Bool):Sm (erX ps bs F R w E i) 40065 62∧0≤gv (erX ps bs F R w E i):=by
 obtain ⟨s,n⟩:=AkT he hy hs sR h
 unfold erX
 split
 ·exact AoJ s
 ·exact ⟨s.more (by decide) (aa _),n⟩
def AkV (he:AO ps bs os=0) (hF:∀ i,i<bs.length→0≤scA F i∧scA F i≤30) (sR:∀ p∈R,IwS p LB LB):∀ (l:List Nat) (E E':List Pq),(∀ i∈l,i<bs.length)→OQ bs E→erO ps bs F R l E=some E'→OQ bs E'
 | [],E,E',_,h,hr=>by cases hr;exact h
 | i::l,E,E',hl,h,hr=>by
  have hi:=hl i (fd ..)
  obtain ⟨y,hy⟩:∃ y,bs[i]?=some y:=⟨_,gE hi⟩
  obtain ⟨_,s,n⟩:=Aai he hy (hF i hi) sR h
  unfold erO at hr
  by_cases hf:Ahg (erB ps bs F R E i)=true
  ·rw [if_pos hf] at hr;cases hr
  ·rw [if_neg hf] at hr
   rw [bc] at hf
   exact AkV he hF sR l _ E' (fun j hj=>hl j (ek _ hj)) (h.set (Aag s n hf) n i) hr
def AfV (he:AO ps bs os=0) (hF:∀ i,i<bs.length→0≤scA F i∧scA F i≤30) (sR:∀ p∈R,IwS p LB LB) (w:Bool):∀ (l:List Nat) (E:List Pq) (b:Bool) (x:List Pq × Bool),(∀ i∈l,i<bs.length)→OQ bs E→erD ps bs F R w l E b=some x→OQ bs x.1
 | [],E,b,x,_,h,hr=>by cases hr;exact h
 | i::l,E,b,x,hl,h,hr=>by
  have hi:=hl i (fd ..)
  have hl':∀ j∈l,j<bs.length:=fun j hj=>hl j (ek _ hj)
  obtain ⟨y,hy⟩:∃ y,bs[i]?=some y:=⟨_,gE hi⟩
  obtain ⟨s,n⟩:=AkU he hy (hF i hi) sR h w
  unfold erD at hr
  by_cases hc:Nt (erM ps bs F R E i) (E[i]?.getD (0,0))=0
  ·rw [if_pos hc] at hr
   exact AfV he hF sR w l E b x hl' h hr
  rw [if_neg hc] at hr
  by_cases hf:Ahg (erX ps bs F R w E i)=true
  ·rw [if_pos hf] at hr;cases hr
  ·rw [if_neg hf] at hr
   rw [bc] at hf
   exact AfV he hF sR w l _ true x hl' (h.set (Aag s n hf) n i) hr
def Atq:∀ i∈Bn bs,i<bs.length:=fun i hi=>by
 obtain ⟨k,hk⟩:=di hi
 exact (Ia hk).1
def Atr:∀ i∈AI bs,i<bs.length:=fun i hi=>by
 obtain ⟨k,hk⟩:=di hi
 exact (GE hk).1
def AkW (he:AO ps bs os=0) (hF:∀ i,i<bs.length→0≤scA F i∧scA F i≤30) (sR:∀ p∈R,IwS p LB LB):∀ (n r:Nat) (E E':List Pq),OQ bs E→erR ps bs F R n r E=some E'→OQ bs E'
 | 0,_,_,_,_,hr=>by cases hr
 | n+1,r,E,E',h,hr=>by
  unfold erR at hr
  split at hr
  ·cases hr
  rename_i E1 h1
  have k1:=AkV he hF sR _ _ _ Atq h h1
  split at hr
  ·cases hr
  rename_i E2 b h2
  have k2:=AfV he hF sR _ _ _ _ _ Atr k1 h2
  split at hr
  ·exact AkW he hF sR n (r+1) E2 E' k2 hr
  ·cases hr;exact k2
def AkX (he:AO ps bs os=0) (hF:∀ i,i<bs.length→0≤scA F i∧scA F i≤30) (sR:∀ p∈R,IwS p LB LB) (hr:erA ps bs F R=some E):OQ bs E:=AkW he hF sR _ _ _ _ (.zero bs) hr
structure AbE (bs:List Bk) (F:List Int):Prop where
 len:F.length=bs.length
 in_:∀ f∈F,0≤f∧f≤30
def AbE.sc (h:AbE bs F):∀ i,i<bs.length→0≤scA F i∧scA F i≤30:=fun i hi=>h.in_ _ (gM (Xh (by rw [h.len];exact hi)))
def AbE.low (h:AbE bs F):AbE bs (AbD F):=⟨by unfold AbD;rw [af];exact h.len,fun f hf=>by
 obtain ⟨g,hg,rfl⟩:=List.mem_map.1 hf
 have:=h.in_ g hg
 unfold ApE
 split <;> omega⟩
def Ats (F:List Int) (R:List Iq) (E:List Pq):AbB F (R.map UF) (E.map EL)=⟨F,R,E⟩:=by
 unfold AbB
 rw [Qb]
 congr 1
 rw [dv]
 exact (ej fun p _=>Il p).trans (List.map_id E)
def Att (u:Bool) (F:List Int) (R:List Iq) (E:List Pq):dCr u F (R.map UF) (E.map EL)=dCt u ⟨F,R,E⟩:=by
 unfold dCr dCt
 rw [Rg,Uu]
def Avt (h:OQ bs E):∀ r∈E.map EL,RvL r:=fun r hr=>by
 obtain ⟨p,hp,rfl⟩:=List.mem_map.1 hr
 exact Ny (h.sm p hp) (by decide)
def AoL (he:AO ps bs os=0) (hF:AbE bs F) (sR:∀ p∈R,IwS p LB LB) (hr:mkT ps bs os F R=some E):GI ps bs os ⟨F,R,E⟩∧OQ bs E∧vfA ps bs os F R E=true:=by
 unfold mkT at hr
 split at hr
 ·cases hr
 rename_i E1 h1
 split at hr
 ·rename_i hv
  cases hr
  have k:=AkX he hF.sc sR h1
  have:=AoE (WC sR (by decide)) (Avt k) hv
  rw [Ats] at this
  exact ⟨this,k,hv⟩
 ·cases hr
def AfW (he:AO ps bs os=0) (sR:∀ p∈R,IwS p LB LB):∀ (n:Nat) (F:List Int) (c:Ct),AbE bs F→mkL ps bs os R n F=some c→GI ps bs os c∧AbE bs c.F∧c.R=R∧OQ bs c.E∧vfA ps bs os c.F R c.E=true
 | 0,_,_,_,hr=>by cases hr
 | n+1,F,c,hF,hr=>by
  unfold mkL at hr
  split at hr
  ·rename_i E hE
   cases hr
   obtain ⟨a,b,d⟩:=AoL he hF sR hE
   exact ⟨a,hF,rfl,b,d⟩
  ·split at hr
   ·exact AfW he sR n _ c hF.low hr
   ·cases hr
def Atu (hl:R.length=bs.length) (h:R.all pkB=true):AbE bs (R.map pkS):=⟨by rw [af];exact hl,fun f hf=>by
 obtain ⟨a,ha,rfl⟩:=List.mem_map.1 hf
 exact ⟨of_decide_eq_true (List.all_eq_true.1 h a ha),(Ato a).2⟩⟩
def Rl {p:Pq} (h:Sm p LB LB):CQ p=false:=by
 have h1:=DD.2 h.n
 have h2:=h.d
 unfold LB at h1 h2
 exact decide_eq_false (by omega)
def AfX (he:AO ps bs os=0) (hF:AbE bs F) (hl:R.length=bs.length) (sR:∀ p∈R,IwS p LB LB) (h:OQ bs E):ckE ps bs os F (R.map UF) (E.map EL)=0:=by
 unfold ckE
 rw [if_neg (not_not_intro he),if_pos ⟨hF.len,by rw [af];exact hl,by rw [af];exact h.len⟩]
 refine Mu fun x hx=>?_
 obtain ⟨k,hk⟩:=di hx
 rw [List.getElem?_zipWith] at hk
 rcases ha:(R.map UF)[k]? with _|q
 ·rw [ha] at hk;cases hk
 rcases hb:(E.map EL)[k]? with _|r
 ·rw [ha,hb] at hk;cases hk
 rw [ha,hb] at hk
 cases hk
 rw [ag,dk] at ha hb
 obtain ⟨a,ha,rfl⟩:=ha
 obtain ⟨p,hp,rfl⟩:=hb
 have sa:=sR a (gM ha)
 have sp:=h.sm p (gM hp)
 have np:=h.nn p (gM hp)
 have n1:0≤p.1:=bw fun hn=>by
  have:=ks (show p.1<0 by omega) (Bg (GQ - p.2))
  unfold gv at np
  omega
 unfold Rj
 rw [show rvP (EL p)=p from Il p,show rvP (UF a).1=a.1 from Il a.1,show rvP (UF a).2=a.2 from Il a.2,Ut sp.ok,show ivC (UF a)=true from Afa sa,Rl (sp.more (n':=LB) (d':=LB) (by decide) (by decide)),Rl sa.s1,Rl sa.s2]
 have hs:¬ sgI p.1<0:=by unfold sgI;(repeat' split) <;> omega
 simp [hs]
end
def cDz:Option Pq→List D
 | none=>[.val (.bool false),.val (.slice none 0 0),.val (.int .i64 0)]
 | some p=>dyP p
def Avu (v:List (Option Pq)):cVs v=((v.map cDz).flatten).map C.d:=by
 unfold cVs
 rw [List.map_flatten,dv]
 congr 1
 exact ej fun o _=>by cases o <;> rfl
def Avv {v:Value} (h:Bo w S (.val (.slice none 0 0)) v):Bo w S (.row false 1 0 []) v:=by
 cases h
 exact .row [] (aa _) (fun _=>rfl) rfl rfl (fun h=>absurd rfl h) (fun j u x hu=>by simp at hu)
structure Nw where
 ty:TypeId
 s:Nat
 n:Nat
 ds:List D
def Nw.ob (r:Nw):Ob:=.row r.ty r.s r.n (r.ds.map C.d)
inductive Yr where
 | d (x:D)
 | own (k n:Nat)
inductive YT where
 | one (y:Yr)
 | agg (ys:List Yr)
inductive YR where
 | one (y:Yr)
 | agg (ys:List Yr)
 | tup (l:List YT)
def Yr.c (n0:Nat):Yr→C
 | .d x=>.d x
 | .own k n=>.own (n0+k) n
def YT.t (n0:Nat):YT→TC
 | .one y=>.one (y.c n0)
 | .agg ys=>.agg (ys.map (Yr.c n0))
def YR.x (n0:Nat):YR→X
 | .one y=>.one (y.c n0)
 | .agg ys=>.agg (ys.map (Yr.c n0))
 | .tup l=>.tupC (l.map (YT.t n0))
def RY (S:DH) (w w':World) (es:List Et):DH:=fun t b=>t=false∧(S false b∨(w.heap.size≤b∧b<w'.heap.size∧∀ e∈es,e.own≠some b))
def ApF (w:World) (S:DH) (rows:List Nw) (es:List Et):Yr→Value→Prop
 | .d x,v=>Bo w S x v
 | .own k n,v=>v.oneCell'=true∧∃ e r,es[k]?=some e∧rows[k]?=some r∧r.n=n∧v=e.hv
def Atv (w:World) (S:DH) (rows:List Nw) (es:List Et):YT→Value→Prop
 | .one y,v=>ApF w S rows es y v
 | .agg ys,v=>∃ vs:List Value,v=.agg vs.toArray∧Ba (ApF w S rows es) ys vs
def Atw (w:World) (S:DH) (rows:List Nw) (es:List Et):YR→Value→Prop
 | .one y,v=>ApF w S rows es y v
 | .agg ys,v=>∃ vs:List Value,v=.agg vs.toArray∧Ba (ApF w S rows es) ys vs
 | .tup l,v=>∃ vs:List Value,v=.tuple vs.toArray∧Ba (Atv w S rows es) l vs
structure Atx (w w':World) (S:DH) (rows:List Nw) (es:List Et):Prop where
 len:es.length=rows.length
 each:∀ (k:Nat) (e:Et),es[k]?=some e→∃ (r:Nw) (v:Value) (xs:List Value),rows[k]?=some r∧e=.row v r.ty r.s r.n xs∧e.at_ w' w.heap.size∧Ba (Bo w' S) r.ds xs
 apart:es.Pairwise AcR
def CVN (P:Program) (G:World→Prop) (f:FuncId) (args:List A) (rows:List Nw) (res:YR):Prop :=
 ∀ (w:World) (S:DH) (vs:List Value),G w→(∀ t b,S t b→b<w.heap.size)→Ba (EK w S) args vs →
  Calls P f vs.toArray w fun e w'=>∃ v es,e=.returned v∧Atx w w' (RY S w w' es) rows es∧Atw w' (RY S w w' es) rows es res v∧Below w.heap.size w w'
def YC (ids:List Nat) (rows:List Nw):Yr→C→Prop
 | .d x,c=>c=.d x∧Dh x
 | .own k n,c=>∃ id r,ids[k]?=some id∧rows[k]?=some r∧r.n=n∧c=.own id n
inductive RVT (P:Program) (F:Frm) (H:List Ob) (ids:List Nat) (rows:List Nw):ResultVar→YT→Prop
 | tmp {t:Tmp} {y:Yr} {c:C} (hF:F t=.one c) (h:YC ids rows y c):RVT P F H ids rows (.tmp t) (.one y)
 | cell {t:Tmp} {ty ty' id:Nat} {d:TypeDesc} {cs:List C} {ys:List Yr} (hF:F t=.one (.ref id 0 none)) (hH:H[id]?=some (.box ty' cs)) (hu:P.underlying ty=some d) (hd:d.isRow=true) (hi:(P.info? ty).map (·.size)=some cs.length) (h:Ba (YC ids rows) ys cs):RVT P F H ids rows (.cell t ty) (.agg ys)
inductive Aty (P:Program) (fn:Func) (F:Frm) (H:List Ob) (ids:List Nat) (rows:List Nw):YR→Prop
 | tmp {t:Tmp} {y:Yr} {c:C} (hr:fn.results=#[.tmp t]) (hF:F t=.one c) (h:YC ids rows y c):Aty P fn F H ids rows (.one y)
 | cell {t:Tmp} {ty ty' id:Nat} {d:TypeDesc} {cs:List C} {ys:List Yr} (hr:fn.results=#[.cell t ty]) (hF:F t=.one (.ref id 0 none)) (hH:H[id]?=some (.box ty' cs)) (hu:P.underlying ty=some d) (hd:d.isRow=true) (hi:(P.info? ty).map (·.size)=some cs.length) (h:Ba (YC ids rows) ys cs):Aty P fn F H ids rows (.agg ys)
 | tup {r1 r2:ResultVar} {rs:List ResultVar} {l:List YT} (hr:fn.results.toList=r1::r2::rs) (h:Ba (RVT P F H ids rows) (r1::r2::rs) l):Aty P fn F H ids rows (.tup l)
def Rm {tmps:Array Value} {r:ResultVar} {v:Value} (hr:fn.results=#[r]) (h:(Vm tmps r).run P w=.ok v w):(results fn tmps).run P w=.ok v w:=by
 have h1:(fn.results.mapM (Vm tmps)).run P w=.ok #[v] w:=by
  rw [hr,←kg (xs:=#[r]),kh,map_eq_pure_bind,ai]
  simp [ke,ai,h]
 have hb':∀ (s:Sem (Array Value)) (k:Array Value→Sem Value),(s.bind k).run P w=(s.run P w).andThen fun a w=>(k a).run P w:=fun s k=>ai (x:=s) (f:=k) ..
 rw [IL,hb',h1]
 rfl
def WO {P:Program} {w:World} {R:YT→Value→Prop} {f:ResultVar→Sem Value}:∀ {rs:List ResultVar} {res:List YT},Ba (fun r y=>∃ v,(f r).run P w=.ok v w∧R y v) rs res→∃ vs:List Value,(rs.mapM f).run P w=.ok vs w∧Ba R res vs
 | [],res,h=>by
  rw [h.unnil]
  exact ⟨[],by simp,Ba.nil_⟩
 | r::rs,res,h=>by
  obtain ⟨y,res',rfl,⟨v,h1,h2⟩,h3⟩:=h.uncons
  obtain ⟨vs,h4,h5⟩:=WO h3
  exact ⟨v::vs,by simp [ke,ai,h1,h4],Ba.cons_ h2 h5⟩
def WP {tmps:Array Value} {R:YT→Value→Prop} {r1 r2:ResultVar} {rs:List ResultVar} {l:List YT} (hr:fn.results.toList=r1::r2::rs) (h:Ba (fun r y=>∃ v,(Vm tmps r).run P w=.ok v w∧R y v) (r1::r2::rs) l):∃ vs:List Value,(results fn tmps).run P w=.ok (.tuple vs.toArray) w∧Ba R l vs:=by
 obtain ⟨vs,h1,h2⟩:=WO h
 have h1':(fn.results.mapM (Vm tmps)).run P w=.ok vs.toArray w:=by
  rw [←kg (xs:=fn.results),hr,kh,map_eq_pure_bind,ai,h1]
  rfl
 have hb':∀ (s:Sem (Array Value)) (k:Array Value→Sem Value),(s.bind k).run P w=(s.run P w).andThen fun a w=>(k a).run P w:=fun s k=>ai (x:=s) (f:=k) ..
 refine ⟨vs,?_,h2⟩
 have hl:2≤vs.length:=by rw [←h2.1,←h.1];show 2≤rs.length+2;omega
 rw [IL,hb',h1']
 simp only [az,bl]
 match vs,hl with
 | a::b::l,_=>rfl
def ents {m:Mm} (ht:Tot m):∀ {ids:List Nat} {rows:List Nw},Ba (fun id (r:Nw)=>m.H[id]?=some r.ob∧∀ d∈r.ds,Dh d) ids rows→∃ es:List Et,Ba (fun id e=>m.E id=some e) ids es
 | [],_,_=>⟨[],.nil_⟩
 | id::ids,rows,h=>by
  obtain ⟨r,rs,rfl,h1,h2⟩:=h.uncons
  obtain ⟨es,h3⟩:=ents ht h2
  obtain ⟨e,he⟩:=Option.isSome_iff_exists.1 (ht id r.ob h1.1 rfl)
  exact ⟨e::es,.cons_ he h3⟩
def AkY {p:Prop} (h:p:=by
 exact run_loadVar_mid m'.w g 0 ty us d (fun j v hj=>by rw [AuF,cell_of_row m'.w g j us.toArray ty' (0,0) hg'];simpa using hj) hu hd (by rw [hi,hl2.1])):p:=h
def WQ {G:World→Prop} (hG:∀ w w',Below w.heap.size w w'→G w→G w') {f:FuncId} {fn:Func} {c:Code} {N:Nat} {args:List A} {rows:List Nw} {res:YR} (hf:P.funcs[f]?=some fn) (hb:fn.body=some c) (hN:fn.ntmps=N) (ha:args.length≤N)
  (h:CW P G N c (F0 args) [] (fun e F H=>(e=.ret∨e=.normal)∧∃ ids:List Nat,ids.Nodup∧Ba (fun id (r:Nw)=>H[id]?=some r.ob∧∀ d∈r.ds,Dh d) ids rows∧Aty P fn F H ids rows res)):CVN P G f args rows res:=by
 intro w S vs hg hlt hargs
 refine calls_of_wp hf hb ?_
 refine wp_mono (h w.heap.size w ⟨S,[]⟩ _ ⟨w,S,[],fun _=>none⟩ (fun w' hb'=>hG w w' hb' hg) rfl (MP hN ha hlt hargs)) fun e a' w' ⟨F',m',hw,hs,hret⟩=>?_
 subst hw
 obtain ⟨he,ids,hnd,hids,hres⟩:=hret
 obtain ⟨es,hes⟩:=ents hs.tot hids
 have hS:∀ b,m'.S false b→RY S w m'.w es false b:=fun b hb'=>⟨rfl,(hs.S b hb').elim .inl fun hle=>.inr ⟨hle,hs.cx.lt _ _ hb',fun e he hown=>by
  obtain ⟨k,hk⟩:=di he
  obtain ⟨id,hid⟩:∃ id,ids[k]?=some id:=⟨_,gE (by have:=(gS.1 hk).1;have:=hes.1;omega)⟩
  exact hs.cx.far id e b false (hes.2 k id e hid hk) hown hb'⟩⟩
 have hdat:∀ {x:D} {v:Value},Dh x→Bo m'.w m'.S x v→Bo m'.w (RY S w m'.w es) x v:=fun hx hv=>Bo.free hS hv hx
 have hnew:Atx w m'.w (RY S w m'.w es) rows es:=by
  refine ⟨by rw [←hes.1,hids.1],fun k e hk=>?_,List.pairwise_iff_getElem.2 fun i j hi hj hij=>?_⟩
  ·obtain ⟨id,hid⟩:∃ id,ids[k]?=some id:=⟨_,gE (by have:=(gS.1 hk).1;have:=hes.1;omega)⟩
   obtain ⟨r,hr,hHr,hfr⟩:=hids.at_ hid
   have hE:=hes.2 k id e hid hk
   obtain ⟨hat,ob,hob,hrel⟩:=hs.cx.each id e hE
   rw [hHr] at hob
   cases hob
   cases e with
   | box g vs t=>exact hrel.elim
   | row v' ty' s' n' xs =>
    obtain ⟨rfl,rfl,rfl,hl⟩:=hrel
    refine ⟨r,v',xs,hr,rfl,hat,⟨by rw [←hl.1,af],fun j d v hd hv=>?_⟩⟩
    exact hdat (hfr d (gM hd)) (hl.2 j (.d d) v (by rw [ag,hd];rfl) hv)
  ·have h1:=hes.1
   refine hs.cx.apart (ids[i]'(by omega)) (ids[j]'(by omega)) _ _ (List.pairwise_iff_getElem.1 hnd i j (by omega) (by omega) hij) ?_ ?_
   ·exact hes.2 i _ _ (gE _) (gE _)
   ·exact hes.2 j _ _ (gE _) (gE _)
 have hyc:∀ {y:Yr} {c:C} {v:Value},YC ids rows y c→Ed m' c v→ApF m'.w (RY S w m'.w es) rows es y v:=fun {y c v} hy hv=>by
  cases y with
  | d x =>
   obtain ⟨rfl,hx⟩:=hy
   exact hdat hx hv
  | own k n =>
   obtain ⟨id,r,hid,hr,rfl,rfl⟩:=hy
   obtain ⟨hone,ob,hob,_,hk⟩:=hv
   have hHr:=(hids.2 k id r hid hr).1
   rw [hHr] at hob
   cases hob
   obtain ⟨e,hE,hve⟩:=hk rfl
   obtain ⟨e',he',hE'⟩:=hes.at_ hid
   rw [hE] at hE'
   cases hE'
   exact ⟨hone,e,r,he',hr,rfl,hve⟩
 have hfin:∃ v,(results fn a'.tmps).run P m'.w=.ok v m'.w∧Atw m'.w (RY S w m'.w es) rows es res v:=by
  cases hres with
  | @tmp t y c hr hF hy =>
   have hx:=hs.frame t
   rw [hF] at hx
   exact ⟨_,Rm hr rfl,hyc hy hx⟩
  | @cell t ty ty' id d cs ys hr hF hH hu hd hi hl =>
   have hx:=hs.frame t
   rw [hF] at hx
   obtain ⟨g,us,hv,hE,_,hg',hl2⟩:=Gr hs.cx hx hH
   refine ⟨.agg us.toArray,Rm hr ?_,us,rfl,by rw [hl.1,hl2.1],fun j y u hy hu'=>?_⟩
   ·simp only [Vm,hv,asAddr,ai,bl,az]
    exact AkY
   ·obtain ⟨c,hc,hyj⟩:=hl.at_ hy
    exact hyc hyj (hl2.2 j c u hc hu')
  | tup hr hq =>
   obtain ⟨vs,h1,h2⟩:=WP (R:=Atv m'.w (RY S w m'.w es) rows es) (tmps:=a'.tmps) (P:=P) (w:=m'.w) hr (hq.imp fun r y hry=>by
    cases hry with
    | @tmp t y c hF hy =>
     have hx:=hs.frame t
     rw [hF] at hx
     exact ⟨_,rfl,hyc hy hx⟩
    | @cell t ty ty' id d cs ys hF hH hu hd hi hl =>
     have hx:=hs.frame t
     rw [hF] at hx
     obtain ⟨g,us,hv,hE,_,hg',hl2⟩:=Gr hs.cx hx hH
     refine ⟨.agg us.toArray,?_,us,rfl,by rw [hl.1,hl2.1],fun j y u hy hu'=>?_⟩
     ·simp only [Vm,hv,asAddr,ai,bl,az]
      exact AkY
     ·obtain ⟨c,hc,hyj⟩:=hl.at_ hy
      exact hyc hyj (hl2.2 j c u hc hu'))
   exact ⟨_,h1,vs,rfl,h2⟩
 obtain ⟨v,hrun,hv⟩:=hfin
 rcases he with rfl|rfl
 ·exact ⟨hs.defers,v,hrun,v,es,rfl,hnew,hv,hs.below⟩
 ·exact ⟨hs.defers,v,hrun,v,es,rfl,hnew,hv,hs.below⟩
section
variable {P:Program} {G:World→Prop} {o:Oper} {F:Frm} {H:List Ob}
theorem NJ {c:Code} (ho:o.op=.call { callee:=.value (.func f),args:=xs,argTypes:=ts })
  (hf : P.funcs[f]? = some fn) (hn : (fn.name == "runtime.NumGoroutine") = false) (hb : fn.body = some c) {args : List A} {rows : List Nw} {res : YR} (h : CVN P G f args rows res) (ha : Ba (fun x y => Lj true H (F.ev x) y) xs.toList args) :
  Bd P G o F H (res.x H.length) (rows.map Nw.ob):=by
 intro b0 m a hp hx hg hb0 hE hor K Q hK
 have hp0:H <+: m.H:=(List.prefix_append _ _).trans hp
 have hxs:∀ x∈xs.toList,Fh m (F.ev x) (a.eval x):=fun x hm=>Be hor (by
  rw [ho]
  simp only [Op.operands,Call.operands,im,eo]
  exact .inr hm)
 let Sx:DH:=fun t b=>m.S t b∨(t=true∧∃ id e,m.E id=some e∧e.own=some b)
 have hcalls:=h m.w Sx (xs.toList.map a.eval) hg (fun t b hb=>by
  rcases hb with hb|⟨_,id,e,he,hown⟩
  ·exact hx.lt t b hb
  ·exact (Et.lt (hx.each id e he).1 hown).2) ⟨by rw [af];exact ha.1.symm,fun j y v hy hv=>by
   simp only [ag,dk] at hv
   obtain ⟨x,hxj,rfl⟩:=hv
   exact Lj.rel hx (fun b hb=>.inl hb) (fun _ b hb=>.inl hb) (fun id e g he hg=>.inr ⟨rfl,id,e,he,hg⟩) ((ha.2 j x y hxj hy).pre hp0) (hxs x (gM hxj))⟩
 unfold Oper.wp execOp
 simp only [ho,resolve,Act.eval,Deferred.ofValue,ai,bl,az,invoke]
 rw [DW hf hn hb]
 rw [gl]
 have he:((#[]:Array Value)++xs.map a.eval++#[])=(xs.toList.map a.eval).toArray:=fw (by simp)
 simp only [he]
 refine hcalls.mono fun e w' ⟨v,es,hev,hnew,hres,hbel⟩=>?_
 subst hev
 have hS:∀ t b,RY Sx m.w w' es t b→(m.plus w' H.length es).S t b:=fun t b hb=>by
  obtain ⟨rfl,h1|h1⟩:=hb
  ·rcases h1 with h1|⟨h1,_⟩
   ·exact .inl h1
   ·cases h1
  ·exact .inr ⟨rfl,h1.1,h1.2.1,h1.2.2⟩
 have hobs:∀ (k:Nat) (r:Nw),rows[k]?=some r→m.H[H.length+k]?=some r.ob:=fun k r hk=>getElem?_pre hp (by
  rw [dw (by omega),show H.length+k - H.length=k by omega,ag,hk]
  rfl)
 have hEe:∀ (k:Nat) (e:Et),es[k]?=some e→(m.plus w' H.length es).E (H.length+k)=some e:=fun k e hk=>by
  have hlt:=(gS.1 hk).1
  show (if H.length≤H.length+k∧H.length+k<H.length+es.length then es[H.length+k - H.length]? else _)=some _
  rw [if_pos ⟨by omega,by omega⟩,show H.length+k - H.length=k by omega]
  exact hk
 have hyr:∀ {y:Yr} {u:Value},ApF w' (RY Sx m.w w' es) rows es y u→Ed (m.plus w' H.length es) (y.c H.length) u:=fun {y u} hy=>by
  cases y with
  | d x=>exact Bo.mono hS (fun _ _ _=>rfl) hy
  | own k n =>
   obtain ⟨hone,e,r,he,hr,rfl,rfl⟩:=hy
   exact ⟨hone,_,hobs k r hr,(fun n1 n2 h1 h2=>by cases h1;cases h2;exact aa _),fun _=>⟨_,hEe k e he,rfl⟩⟩
 refine hK v w' es ⟨by rw [hnew.len,af],hbel,fun k e hk=>?_,hnew.apart⟩ ?_
 ·obtain ⟨r,v',xs',hr,rfl,hat,hl⟩:=hnew.each k e hk
  refine ⟨⟨hat.1,hat.2.imp id fun ⟨g,cap,cur,e,hb,r⟩=>⟨g,cap,cur,e,lT hb0 hb,r⟩⟩,fun g hg'=>(Et.lt hat hg').1,r.ob,by rw [ag,hr];rfl,rfl,rfl,rfl,⟨by rw [af];exact hl.1,fun j c u hc hu=>?_⟩⟩
  rw [ag,dk] at hc
  obtain ⟨d,hd,rfl⟩:=hc
  exact Bo.mono hS (fun _ _ _=>rfl) (hl.2 j d u hd hu)
 ·cases res with
  | one y=>exact hyr hres
  | agg ys =>
   obtain ⟨us,rfl,hl⟩:=hres
   exact ⟨us,rfl,by rw [af];exact hl.1,fun j c u hc hu=>by
    rw [ag,dk] at hc
    obtain ⟨y,hy,rfl⟩:=hc
    exact hyr (hl.2 j y u hy hu)⟩
  | tup l =>
   obtain ⟨us,rfl,hl⟩:=hres
   exact ⟨us,rfl,by rw [af];exact hl.1,fun j c u hc hu=>by
    rw [ag,dk] at hc
    obtain ⟨y,hy,rfl⟩:=hc
    have h1:=hl.2 j y u hy hu
    cases y with
    | one y=>exact hyr h1
    | agg ys =>
     obtain ⟨xs,rfl,h2⟩:=h1
     exact ⟨xs,rfl,by rw [af];exact h2.1,fun j c u hc hu=>by
      rw [ag,dk] at hc
      obtain ⟨y,hy,rfl⟩:=hc
      exact hyr (h2.2 j y u hy hu)⟩⟩
def TC.x:TC→X
 | .one c=>.one c
 | .agg cs=>.agg cs
def Aaj {x:Operand} {i:Nat} {l:List TC} {y:TC} (ho:o.op=.extract x i) (hx:F.ev x=.tupC l) (hy:l[i]?=some y):Bd P G o F H y.x []:=Cb fun b0 m a _ _ hor=>by
 have hv:=Be hor (x:=x) (by rw [ho];simp [Op.operands])
 rw [hx] at hv
 obtain ⟨vs,hv,hl⟩:=hv
 obtain ⟨u,hu,hr⟩:=hl.at_ hy
 refine ⟨u,?_,?_⟩
 ·unfold execOp
  simp [ho,hv,Instr.extract,hu]
 ·cases y <;> exact hr
def AfY {x:Operand} {l:List TC} (ho:o.op=.move x) (hx:F.ev x=.tupC l):Bd P G o F H (.tupC l) []:=by rw [←hx];exact Xw ho
def AfZ {c:Code} {args:List A} {ty:TypeId} {ds:List D} (ho:o.op=.call { callee:=.value (.func f),args:=xs,argTypes:=ts })
  (hf : P.funcs[f]? = some fn) (hn : (fn.name == "runtime.NumGoroutine") = false) (hb : fn.body = some c) (h : CVN P G f args [⟨ty, s, n, ds⟩] (.one (.own 0 n))) (ha : Ba (fun x y => Lj true H (F.ev x) y) xs.toList args) :
  Bd P G o F H (.one (.own H.length n)) [.row ty s n (ds.map C.d)]:=NJ ho hf hn hb h ha
def Aga {c:Code} {args:List A} {ty ty' ty2:TypeId} {s' s2 n' n2:Nat} {ds ds' ds2:List D} (ho:o.op=.call { callee:=.value (.func f),args:=xs,argTypes:=ts })
  (hf : P.funcs[f]? = some fn) (hn : (fn.name == "runtime.NumGoroutine") = false) (hb : fn.body = some c) (h : CVN P G f args [⟨ty, s, n, ds⟩, ⟨ty', s', n', ds'⟩, ⟨ty2, s2, n2, ds2⟩] (.agg [.own 0 n, .own 1 n', .own 2 n2])) (ha : Ba (fun x y => Lj true H (F.ev x) y) xs.toList args) :
  Bd P G o F H (.agg [.own H.length n,.own (H.length+1) n',.own (H.length+2) n2]) [.row ty s n (ds.map C.d),.row ty' s' n' (ds'.map C.d),.row ty2 s2 n2 (ds2.map C.d)]:=NJ ho hf hn hb h ha
def Jl {ops:Array Oper} {l:List Oper} {K:Frm→List Ob→Prop} {d:Tmp} {xx:X} {obs:List Ob} (h:Bd P G o F H xx obs) (k:Ti P G ops l (F.put (some d) xx) (H++obs) K) (hg:o.guard=none:=by with_unfolding_all exact rfl) (hd:o.dst=some d:=by with_unfolding_all exact rfl):Ti P G ops (o::l) F H K:=by
 refine Aqf hg h ?_
 rw [congrArg (fun q=>F.put q xx) hd]
 exact k
def D.pl:D→Bool
 | .val _=>true
 | _=>false
def A.pl:A→Bool
 | .one d=>d.pl
 | .agg ds=>ds.all D.pl
def Agb {w':World} {S':DH} {d:D} {v:Value} (hd:d.pl=true) (h:Bo w S d v):Bo w' S' d v:=by
 cases h with
 | val hv=>exact .val hv
 | row=>cases hd
 | ptr=>cases hd
def Agc {S':DH} {x:A} {v:Value} (hd:x.pl=true) (h:EK w S x v):EK w S' x v:=by
 cases x with
 | one d=>exact Agb hd h
 | agg ds =>
  obtain ⟨xs,h1,h2⟩:=h
  exact ⟨xs,h1,h2.1,fun j d u hj hu=>Agb (List.all_eq_true.1 hd d (gM hj)) (h2.2 j d u hj hu)⟩
def NK {c:Code} (ho:o.op=.call { callee:=.value (.func f),args:=xs,argTypes:=ts })
  (hf : P.funcs[f]? = some fn) (hn : (fn.name == "runtime.NumGoroutine") = false) (hb : fn.body = some c) {args res : List A} (hpl : res.all A.pl = true) (h : CV P G f args res) (ha : Ba (fun x y => ∃ t, Lj t H (F.ev x) y) xs.toList args) :
  Bd P G o F H (Ami res) []:=by
 intro b0 m a hp hx hg hb0 _ hor K Q hK
 rw [ba] at hp
 have hxs:∀ x∈xs.toList,Fh m (F.ev x) (a.eval x):=fun x hm=>Be hor (by
  rw [ho]
  simp only [Op.operands,Call.operands,im,eo]
  exact .inr hm)
 let Sx:DH:=fun t b=>m.S t b∨(∃ id e,m.E id=some e∧e.own=some b)
 have hcalls:=h m.w Sx (xs.toList.map a.eval) hg (fun t b hb=>by
  rcases hb with hb|⟨id,e,he,hown⟩
  ·exact hx.lt t b hb
  ·exact (Et.lt (hx.each id e he).1 hown).2) ⟨by rw [af];exact ha.1.symm,fun j y v hy hv=>by
   simp only [ag,dk] at hv
   obtain ⟨x,hxj,rfl⟩:=hv
   obtain ⟨_,hxe⟩:=ha.2 j x y hxj hy
   exact Lj.rel hx (fun b hb=>.inl hb) (fun _ b hb=>.inl hb) (fun id e g he hg=>.inr ⟨id,e,he,hg⟩) (hxe.pre hp) (hxs x (gM hxj))⟩
 unfold Oper.wp execOp
 simp only [ho,resolve,Act.eval,Deferred.ofValue,ai,bl,az,invoke]
 rw [DW hf hn hb]
 rw [gl]
 have he:((#[]:Array Value)++xs.map a.eval++#[])=(xs.toList.map a.eval).toArray:=fw (by simp)
 simp only [he]
 refine hcalls.mono fun e w' ⟨v,hev,hres,hbel⟩=>?_
 subst hev
 refine hK v w' [] ⟨rfl,hbel,fun k e hk=>by simp at hk,List.Pairwise.nil⟩ (TF ?_)
 have hall:∀ y∈res,y.pl=true:=List.all_eq_true.1 hpl
 have hl:∀ {l:List A} {vs:List Value},(∀ y∈l,y.pl=true)→Ba (EK w' (Ahb Sx m.w w')) l vs→Ba (EK w' (m.plus w' H.length []).S) l vs:=fun hl h=>⟨h.1,fun j y u hy hu=>Agc (hl y (gM hy)) (h.2 j y u hy hu)⟩
 match res,hres,hall with
 | [],hres,ha=>obtain ⟨vs,h1,h2⟩:=hres;exact ⟨vs,h1,hl ha h2⟩
 | [x],hres,ha=>exact Agc (ha x (by simp)) hres
 | x::y::l,hres,ha=>obtain ⟨vs,h1,h2⟩:=hres;exact ⟨vs,h1,hl ha h2⟩
end
def Ajl {N:Nat} {F:Frm} {cs cs':List C} (id:Nat) (hH:H[id]?=some (.row ty s n cs)) (hc:∀ (m:Mm) (xs:List Value),Ba (Ed m) cs xs→Ba (Ed m) cs' xs):Wk N F H F (H.set id (.row ty s n cs')):=fun b0 w0 S0 a m hm hs=>by
 subst hm
 have hlt:=(gS.1 hH).1
 let m':Mm:={ m with H:=m.H.set id (.row ty s n cs') }
 have hH':∀ i (ob:Ob),m.H[i]?=some ob→∃ ob',m'.H[i]?=some ob'∧ob'.k=ob.k∧(i≠id→ob'=ob):=fun i ob hob=>by
  by_cases h:id=i
  ·subst h
   rw [hH] at hob
   cases hob
   exact ⟨_,fi hlt,rfl,fun h=>absurd rfl h⟩
  ·exact ⟨ob,by show (m.H.set id _)[i]?=_;rw [gn h];exact hob,rfl,fun _=>rfl⟩
 have hle:Le m m':=⟨fun _ _ h=>h,rfl,fun _ _ _=>rfl,fun i ob hob=>by
  obtain ⟨ob',h1,h2,_⟩:=hH' i ob hob
  exact ⟨ob',h1,fun k hk=>.inl ⟨by rw [←h2];exact hk,fun x hx=>⟨x,hx,rfl⟩⟩⟩⟩
 refine ⟨m',rfl,rfl,⟨⟨fun i x hx=>?_,hs.cx.apart,hs.cx.far,hs.cx.lt⟩,fun i ob hob hk=>?_,fun t'=>(hs.frame t').le hle,hs.size,hs.defers,hs.below,hs.base,hs.S,hs.T⟩⟩
 ·obtain ⟨h1,ob,h2,h3⟩:=hs.cx.each i x hx
  obtain ⟨ob',h4,_,h5⟩:=hH' i ob h2
  refine ⟨h1,ob',h4,?_⟩
  by_cases h:i=id
  ·subst h
   rw [hH] at h2
   cases h2
   have h4':(m.H.set i (.row ty s n cs'))[i]?=some ob':=h4
   rw [fi hlt] at h4'
   cases h4'
   cases x with
   | box g vs t=>exact h3.elim
   | row v t' s' n' xs =>
    obtain ⟨e1,e2,e3,hl⟩:=h3
    exact ⟨e1,e2,e3,(hc m xs hl).imp fun _ _=>Ed.le hle⟩
  ·rw [h5 h]
   exact h3.le hle
 ·by_cases h:id=i
  ·subst h
   exact hs.tot id _ hH rfl
  ·have h2:(m.H.set id (.row ty s n cs'))[i]?=some ob:=hob
   rw [gn h] at h2
   exact hs.tot i ob h2 hk
def Agd {m:Mm}:∀ {n:Nat} {xs:List Value},Ba (Ed m) (cVs (List.replicate n none)) xs→Ba (Ed m) (cVs ((List.replicate n ((0,0):Pq)).map some)) xs
 | 0,xs,h=>h
 | n+1,xs,h=>by
  have h:Ba (Ed m) (cV none++cVs (List.replicate n none)) xs:=h
  obtain ⟨a,x1,rfl,h1,q1⟩:=h.uncons
  obtain ⟨b,x2,rfl,h2,q2⟩:=q1.uncons
  obtain ⟨c,x3,rfl,h3,q3⟩:=q2.uncons
  show Ba (Ed m) ((dyP (0,0)).map C.d++cVs ((List.replicate n ((0,0):Pq)).map some)) (a::b::c::x3)
  rw [show dyP (0,0)=[.val (.bool false),.row false 1 0 [],.val (.int .i64 0)] from zdy.symm]
  exact .cons_ h1 (.cons_ (Avv (w:=m.w) (S:=m.S) h2) (.cons_ h3 (Agd q3)))
def Ajm (E:List Pq):cVs (E.map some)=(Ay dyP E).map C.d:=by
 rw [Avu,dv]
 rfl
def AoM (E:List Pq):gV (E.map some)=E:=by
 unfold gV
 rw [dv]
 exact (ej fun _ _=>rfl).trans (List.map_id E)
def Age {t:Bool} {c:C} {y:D} {l:List Pq} (hc:c=.own id n) (hH:H[id]?=some (.row ty 3 n (cVs (l.map some)))) (hy:y=.row t 3 n (Ay dyP l)):FD t H c y:=Un hc hH (by rw [AoM];exact hy)
def Aun (xs:List Int):cI xs=(xs.map dI).map C.d:=by simp [cI,dI]
def Lc (l:List Int):∀ d∈l.map dI,Dh d:=fun d hd=>by
 obtain ⟨z,_,rfl⟩:=List.mem_map.1 hd
 exact .val _
def IA (l:List Pq):∀ d∈Ay dyP l,Dh d:=fun d hd=>Ce (f:=dyP) (fun p=>Ox _ _) l d hd
def Yq {t:Bool} {c:C} {y:D} {l:List Int} (hc:c=.own id n) (hH:H[id]?=some (.row ty 1 n (cI l))) (hy:y=.row t 1 n (l.map dI)):FD t H c y:=by
 refine Dx hc hH hy ?_
 rw [Aun]
 exact Ba.map_l.2 ⟨rfl,fun j a b ha hb=>by
  rw [ha] at hb
  cases hb
  exact .d fun _=>Lc l a (gM ha)⟩
def OS {t:Bool} {cs:List C} {ds:List D} (hc:cs=ds.map C.d) (h:∀ d∈ds,Dh d):Ba (FD t H) cs ds:=by
 subst hc
 exact Ba.map_l.2 ⟨rfl,fun j a b ha hb=>by rw [ha] at hb;cases hb;exact .d fun _=>h _ (gM ha)⟩
def UJ {F:Frm} {ids:List Nat} {rows:List Nw} {t:Tmp} {ty' k:Nat} {cs:List C} {ys:List Yr} (hk:TyK P ty true k) (hF:F t=.one (.ref id 0 none)) (hH:H[id]?=some (.box ty' cs)) (hi:cs.length=k) (h:Ba (YC ids rows) ys cs):RVT P F H ids rows (.cell t ty) (.agg ys):=by
 obtain ⟨⟨d,hu,hd⟩,hz⟩:=hk
 exact .cell hF hH hu hd (by rw [hz,hi]) h
def Ajn {k:Int} {x:Pq} (h:¬ Nt (pw k) x<0):Ace n k x=k:=by
 cases n with
 | zero=>rfl
 | succ n=>unfold Ace;rw [if_neg h]
def Ys {α:Type} {l:List α} {j:Nat} {i:α} (h:l[j]?=some i):l.drop j=i::l.drop (j+1):=by
 obtain ⟨hlt,he⟩:=gS.1 h
 rw [←he,←dp hlt]
def Acf (F:List Int) (k:Nat):List Int:=AbD (F.take k)++F.drop k
def Ajo (F:List Int) (k:Nat):(Acf F k).length=F.length:=by
 unfold Acf AbD
 rw [ak,af,←ak,fp]
def AoN {k:Nat} {f:Int} (h:F[k]?=some f):(Acf F k)[k]?=some f∧(Acf F k).set k (ApE f)=Acf F (k+1)∧AfU (F.take (k+1))=(AfU (F.take k) || decide (0<f)):=by
 have hk:=(gS.1 h).1
 have hl:(AbD (F.take k)).length=k:=by unfold AbD;rw [af,dj];omega
 have e:F.take (k+1)=F.take k++[f]:=by rw [aq,h];rfl
 refine ⟨?_,?_,?_⟩
 ·unfold Acf
  rw [dw (by omega),hl,fg,cr,cw]
  exact h
 ·unfold Acf
  rw [List.set_append_right _ _ (by omega),hl,fg,Ys h,e]
  unfold AbD
  rw [et,ja]
  rfl
 ·rw [e]
  unfold AfU
  rw [List.any_append]
  simp
def chW (n:Nat) (b:Bool) (F:List Int):List Nw:=if b=true then [⟨3,1,n,F.map dI⟩] else []
def chY (n:Nat) (b:Bool):YR:=if b=true then .tup [.one (.own 0 n),.one (.d (.val (Hf 0)))] else .tup [.one (.d (.val (.slice none 0 0))),.one (.d (.val (Hf 4)))]
def erW (n:Nat):Option (List Pq)→List Nw
 | none=>[]
 | some E=>[⟨43,3,n,Ay dyP E⟩]
def erY (n:Nat):Option (List Pq)→YR
 | none=>.tup [.one (.d (.val (.slice none 0 0))),.one (.d (.val (.bool false)))]
 | some _=>.tup [.one (.own 0 n),.one (.d (.val (.bool true)))]
def mkW (n:Nat):Option Ct→List Nw
 | none=>[]
 | some c=>[⟨3,1,n,c.F.map dI⟩,⟨43,3,n,Ay dyP c.E⟩]
def mkY (n:Nat):Option Ct→YR
 | none=>.tup [.agg [.d (.val (.slice none 0 0)),.d (.val (.slice none 0 0)),.d (.val (.slice none 0 0))],.one (.d (.val (.bool false))),.one (.d (.val (Hf 0)))]
 | some c=>.tup [.agg [.own 0 n,.d (.row false 6 n (Ay (dIw false) c.R)),.own 1 n],.one (.d (.val (.bool true))),.one (.d (.val (Hf 0)))]
def AbF (x:Pq) (sx:Sm x 40064 62):CV prog An 184 [aDy false x.1 x.2] [aDy false (AfT x).1 (AfT x).2]:=by
 refine cvz func184 ntmps184 ?_
 have U0:=Ri 62 (by decide) (by decide)
 repeat' (with_reducible first|refine qq ?_|(refine Tx 0 ?_;refine gN xBo <| gN (xAl Ao) ?_)|(refine Tx 1 ?_;refine gO (xCl func218 (U0)) <| gN (xAl Ao) <| gZ (xSk Ad) ?_))
 refine Bj (BK 3) (Av (fun n Fr H=>∃ k:Int,-62≤k∧k≤40064∧40064≤k+n∧Ace n k x=Ace 50000 (-62) x∧Fr=ofL [(1,vr 0),(2,vr 1),(3,vr 2)]∧H=[.box 43 ((dyP x).map C.d),.box 43 [.d (.val (.bool false)),.d (.val (.slice none 0 0)),.d (.val (.int .i64 0))],.box 43 ((dyP (pw k)).map C.d)]) (n0:=50000) ⟨-62,by decide,by decide,by decide,rfl,rfl,rfl⟩ ?_)
 rintro n Fr H ⟨k,k0,k1,kn,hres,rfl,rfl⟩
 have sp:=WN k0 k1
 have st:=Aah sx k0 k1
 have nx:=fun h=>AoK (k:=k) k0 h
 have hstop:=Ajn (n:=n) (k:=k) (x:=x)
 have CM:=Cv (pw k).1 (pw k).2 x.1 x.2 sp.ok sx.ok sp.lz sx.lz
 have SH:=BE (pw k).1 (pw k).2 1 sp.ok sp.lz (by have:=sp.d;omega)
 have hqe:Nt (pw k) x=BM (pw k).1 (pw k).2 x.1 x.2:=rfl
 by_cases hc:Nt (pw k) x<0
 case pos =>
  have k2:=st hc
  rw [show Ac (pw k).1 (pw k).2 1=pw (k+1) from nx (by omega)] at SH
  cases n
  case zero=>omega
  rename_i n
  rw [show Ace (n+1) k x=Ace n (k+1) x by rw [Ace,if_pos hc]] at hres
  rw [hqe] at hc
  clear st nx hstop hqe sp
  generalize BM (pw k).1 (pw k).2 x.1 x.2=q at *
  generalize pw k=p at *
  repeat' (with_reducible first|refine qq ?_|(refine Tx 2 ?_;refine gO xL <| gO xL <| gO (xCl func15 (CM)) <| gO xLt ?_)|(refine Tx 3 ?_;refine gO xL <| gO (xCl func21 (SH)) <| gZ (xSk Ad) ?_))
  refine ⟨_,_,BK 3,_,?_,k+1,by omega,by omega,by omega,hres,rfl,rfl⟩
  ·omega
 rw [show AfT x=pw k by unfold AfT;rw [←hres,hstop hc]]
 rw [hqe] at hc
 clear st nx hstop hqe sp SH
 generalize BM (pw k).1 (pw k).2 x.1 x.2=q at *
 generalize pw k=p at *
 repeat' (with_reducible first|refine qq ?_|(refine Tx 2 ?_;refine gO xL <| gO xL <| gO (xCl func15 (CM)) <| gO xLt ?_)|(refine Tx 4 ?_;refine gO xL <| gZ (xSk Ad) ?_))
 exact Eh
def Avw (a:Iq) (f m:Int) (h:IwS a LB LB) (f0:0≤f) (f1:f≤30) (m0:0≤m) (m1:m≤2147483647):CV prog An 181 [aIw false a,aI f,aI m] [aB (wiB a f m)]:=by
 refine cvz func181 ntmps181 ?_
 have MG:=NC a (h.more LBx LBx)
 have sg:=Pg h
 obtain ⟨M,hM⟩:∃ M,DA a=M:=⟨_,rfl⟩
 rw [hM] at MG sg
 have SH:=BE M.1 M.2 f sg.ok sg.lz (by have:=sg.ok.1;omega)
 have st:=It sg f0 f1
 obtain ⟨T,hT⟩:∃ T,ES M f=T:=⟨_,rfl⟩
 rw [hT] at st
 rw [show Ac M.1 M.2 f=T from hT] at SH
 have OF:=Ft m (by omega) (by omega)
 have CM:=Cv T.1 T.2 m 0 st.ok ⟨by decide,fun h=>absurd rfl h⟩ st.lz (lT (AJ (k:=2) (by omega)) (by decide))
 rw [show wiB a f m=decide (BM T.1 T.2 m 0≤0) by unfold wiB;rw [hM,hT]]
 generalize BM T.1 T.2 m 0=q at *
 repeat' (with_reducible first|refine qq ?_|(refine Tx 0 ?_;refine gN xBo <| gO xA ?_)|(refine Tx 1 ?_;refine gO xL <| gO (xCl func159 (MG)) <| gO xM <| gO (xCl func21 (SH)) <| gO xM <| gO (xCl func68 (OF)) <| gO (xCl func15 (CM)) <| gO xLe <| gO xA ?_))
 exact Tl
def Ajp (t:Bool) {ps:List Prt} {bs:List Bk} {os:List Int} (hl:Fa ps bs os) (h0:AO ps bs os=0) (R:List Iq) (hR:R.length=bs.length) (sR:∀ p∈R,IwS p LB LB):CV prog An 180 [aDg t ps bs os,.one (.row false 6 R.length (Ay (dIw false) R))] [aE 0]:=by
 refine cvz func180 ntmps180 ?_
 have CK:=(Hy t hl (ps:=ps) (bs:=bs) (os:=os)).cv
 rw [h0] at CK
 have hn:=hl.l2
 repeat' (with_reducible first|refine qq ?_|(refine Tx 0 ?_;refine gN xBo <| gO xA ?_)|(refine Tx 1 ?_;refine gO xL <| gO (xCl func35 (CK)) <| gO xA ?_)|(refine Tx 2 ?_;refine gO xM <| gO (xNE Ai) ?_)|(refine Tx 4 ?_;refine gO xM <| gO xN <| gO xF <| gO xD <| gO xN <| gO xNe ?_)|(refine Tx 6 ?_;refine gO xM <| gO xN <| gO xM ?_))
 refine Bj (BK 1) (Av (fun n Fr H=>∃ k:Nat,k≤R.length∧n=R.length - k∧Fr=ofL [(2,vr 0),(20,vd (.row false 6 R.length (Ay (dIw false) R))),(21,vi R.length),(22,vi ((k:Nat)))]∧H=[.box 26 [.d (Di t ps),.d (DK t bs),.d (AU t os)]]) (n0:=R.length) ⟨0,ad _,rfl,rfl,rfl⟩ ?_)
 rintro n Fr H ⟨k,hk,rfl,rfl,rfl⟩
 by_cases hlt:k<R.length
 case pos =>
  obtain ⟨b,hb⟩:∃ b,R[k]?=some b:=⟨_,gE hlt⟩
  have sb:=sR b (gM hb)
  have VI:CV prog An 122 [aIw false b] [aB true]:=by
   have:=IY (EL b.1) (EL b.2) (Ny sb.s1 (by decide)) (Ny sb.s2 (by decide))
   rw [Afa sb] at this
   have e:dIr false (EL b.1,EL b.2)=dIw false b:=by show dRv false (EL b.1)++dRv false (EL b.2)=_;rw [Nv,Nv];rfl
   rw [e] at this
   exact this
  repeat' (with_reducible first|refine qq ?_|(refine Tx 7 ?_;refine gO xLt ?_)|(refine Tx 8 ?_;refine gO (xIr Aj (Ms hb)) <| gO xL <| gN (xAl Ap) <| gZ (xSk Ag) ?_)|(refine Tx 9 ?_;refine gO xL <| gO (xCl func122 (VI)) <| gO FI ?_)|(refine Tx 11 ?_;refine gO xAd <| gO xM ?_))
  refine ⟨_,_,BK 1,_,by omega,k+1,by omega,rfl,rfl,rfl⟩
 obtain rfl:k=R.length:=by omega
 repeat' (with_reducible first|refine qq ?_|(refine Tx 7 ?_;refine gO xLt ?_)|(refine Tx 12 ?_;refine gO xA ?_))
 exact AH rfl (.cons_ (Gk rfl rfl) .nil_)
def AbG (t:Bool) {ps:List Prt} {bs:List Bk} {os:List Int} (hl:Fa ps bs os) (h0:AO ps bs os=0) (R:List Iq) (hR:R.length=bs.length) (sR:∀ p∈R,IwS p LB LB):CVN prog An 86 [aDg t ps bs os,.one (.row false 6 R.length (Ay (dIw false) R))] (chW R.length (R.all pkB) (R.map pkS)) (chY R.length (R.all pkB)):=by
 refine WQ RL func86 rfl ntmps86 (bg rfl) ?_
 have GC:=Ajp t hl h0 R hR sR
 have hn:=hl.l2
 repeat' (with_reducible first|refine qq ?_|(refine Tx 0 ?_;refine gN xBo <| gO xA <| gO xA ?_)|(refine Tx 1 ?_;refine gO xL <| gO xM <| gO (xCl func180 (GC)) <| gO xA ?_)|(refine Tx 2 ?_;refine gO xM <| gO (xNE Ai) ?_)|(refine Tx 4 ?_;refine gO xA ?_))
 refine Bj (MS 7 3 1 rfl) ?_
 repeat' (with_reducible first|refine qq ?_|(refine Tx 5 ?_;refine gO xM <| gO xN <| gO xM ?_))
 refine Bj (BK 2) (Av (fun n Fr H=>∃ k:Nat,k≤R.length∧n=R.length - k∧(∀ p∈R.take k,pkB p=true)∧Fr=ofL [(2,vr 0),(7,vo 1 (k)),(17,vd (.row false 6 R.length (Ay (dIw false) R))),(18,vi R.length),(19,vi ((k:Nat)))]∧H=[.box 26 [.d (Di t ps),.d (DK t bs),.d (AU t os)],.row 3 1 (k) (cI ((R.map pkS).take (k)))]) (n0:=R.length) ⟨0,ad _,rfl,(fun p hp=>by simp at hp),rfl,rfl⟩ ?_)
 rintro n Fr H ⟨k,hk,rfl,hal,rfl,rfl⟩
 by_cases hlt:k<R.length
 case pos =>
  obtain ⟨b,hb⟩:∃ b,R[k]?=some b:=⟨_,gE hlt⟩
  have sb:=sR b (gM hb)
  repeat' (with_reducible first|refine qq ?_|(refine Tx 6 ?_;refine gO xLt ?_)|(refine Tx 7 ?_;refine gO (xIr Aj (Ms hb)) <| gO xL <| gN (xAl Ap) <| gZ (xSk Ag) ?_)|(refine Tx 8 ?_;refine gO xA ?_))
  refine Bj (BK 3) (Av (fun n Fr H=>n≤31∧pkF b n=pkS b∧Fr=ofL [(2,vr 0),(7,vo 1 (k)),(17,vd (.row false 6 R.length (Ay (dIw false) R))),(18,vi R.length),(19,vi ((k:Nat))),(9,vr 2),(10,vi (((n:Nat):Int) - 1))]∧H=[.box 26 [.d (Di t ps),.d (DK t bs),.d (AU t os)],.row 3 1 (k) (cI ((R.map pkS).take (k))),.box 45 ((dIw false b).map C.d)]) (n0:=31) ⟨aa _,rfl,rfl,rfl⟩ ?_)
  rintro n Fr H ⟨hn31,hpk,rfl,rfl⟩
  cases n
  case zero =>
   have hpk:(-1:Int)=pkS b:=hpk
   have hnb:R.all pkB=false:=AfE hb (decide_eq_false (by omega))
   rw [show chW R.length (R.all pkB) (R.map pkS)=[] by rw [hnb];rfl,show chY R.length (R.all pkB)=.tup [.one (.d (.val (.slice none 0 0))),.one (.d (.val (Hf 4)))] by rw [hnb];rfl]
   repeat' (with_reducible first|refine qq ?_|(refine Tx 9 ?_;refine gO xM <| gO xGe <| gO xM ?_;(first|iterate 2 refine Jd ?_|(refine Jy (xLa Ag) ?_;refine Jy xM1 ?_));refine Jd ?_;(first|refine Jd ?_|refine Jy FI ?_);refine gO xPk ?_)|(refine Tx 11 ?_;refine gO xM <| gO xLt ?_)|(refine Tx 12 ?_;refine gO (xMi underlying109) <| gO xA <| gO xA ?_))
   exact ⟨.inl rfl,[],by decide,.nil_,.tup (congrArg Array.toList results86) (.cons_ (.tmp rfl ⟨rfl,.val _⟩) (.cons_ (.tmp rfl ⟨rfl,.val _⟩) .nil_))⟩
  rename_i n
  have WI:=Avw b ((n+1:Nat) - 1:Int) 1073741824 sb (by omega) (by omega) (by decide) (by decide)
  have hpk:(if wiB b (n:Int) 1073741824=true then (n:Int) else pkF b n)=pkS b:=hpk
  have hne:(((n+1:Nat):Int) - 1)=(n:Int):=by omega
  rw [hne] at WI
  cases hw:wiB b (n:Int) 1073741824
  case false =>
   rw [hw] at WI hpk
   rw [if_neg (by decide)] at hpk
   rw [hne]
   repeat' (with_reducible first|refine qq ?_|(refine Tx 9 ?_;refine gO xM <| gO xGe <| gO xM ?_;(first|iterate 4 refine Jd ?_|(refine Jy (xLa Ag) ?_;refine Jy xM1 ?_;refine Jy (xCl func181 (WI)) ?_;refine Jy FI ?_));refine gO xPk ?_)|(refine Tx 10 ?_;refine gO xM <| gO xSb <| gO xA ?_))
   refine ⟨_,_,BK 3,n,by omega,by omega,hpk,rfl,rfl⟩
  rw [hw] at WI hpk
  rw [if_pos rfl] at hpk
  have hpb:pkB b=true:=decide_eq_true (by omega)
  have hmp:(R.map pkS)[k]?=some (n:Int):=by rw [ag,hb,hpk];rfl
  have hap:((R.map pkS).take (k))++[(n:Int)]=((R.map pkS).take (k+1)):=by rw [aq,hmp];rfl
  rw [hne]
  repeat' (with_reducible first|refine qq ?_|(refine Tx 9 ?_;refine gO xM <| gO xGe <| gO xM ?_;(first|iterate 4 refine Jd ?_|(refine Jy (xLa Ag) ?_;refine Jy xM1 ?_;refine Jy (xCl func181 (WI)) ?_;refine Jy FI ?_));refine gO xPk ?_)|(refine Tx 11 ?_;refine gO xM <| gO xLt ?_)|(refine Tx 13 ?_;refine gO xM <| gO xM <| gN (by exact Bp rfl Af BV rfl rfl (by decide) (by decide)) <| gT (by exact OZ rfl rfl rfl rfl rfl rfl Af BV (by omega) (by decide) hap rfl) <| gO xA ?_)|(refine Tx 14 ?_;refine gO xAd <| gO xM ?_))
  refine ⟨_,_,BK 2,_,by omega,k+1,by omega,rfl,ED hal hb hpb,rfl,rfl⟩
 obtain rfl:k=R.length:=by omega
 rw [au] at hal
 have hall:R.all pkB=true:=List.all_eq_true.2 hal
 rw [show chW R.length (R.all pkB) (R.map pkS)=[⟨3,1,R.length,(R.map pkS).map dI⟩] by rw [hall];rfl,show chY R.length (R.all pkB)=.tup [.one (.own 0 R.length),.one (.d (.val (Hf 0)))] by rw [hall];rfl]
 have hT:(R.map pkS).take R.length=R.map pkS:=ar (by rw [af];exact aa _)
 rw [hT]
 repeat' (with_reducible first|refine qq ?_|(refine Tx 6 ?_;refine gO xLt ?_)|(refine Tx 15 ?_;refine gO xM <| gO xA <| gO xA ?_))
 exact ⟨.inl rfl,[1],by decide,.cons_ ⟨congrArg some (congrArg (Ob.row _ 1 _) (Aun _)),Lc _⟩ .nil_,.tup (congrArg Array.toList results86) (.cons_ (.tmp rfl ⟨1,_,rfl,rfl,rfl,rfl⟩) (.cons_ (.tmp rfl ⟨rfl,.val _⟩) .nil_))⟩
def Atz {p:Prop} (h:p:=by first|exact xIr Af (AG (Ib hi))|exact xIo (i:=i) Af):p:=h
def AoO {p:Prop} (h:p:=by first|exact Akl rfl rfl rfl rfl Ad tl stV|exact xSk Ad):p:=h
def AtA {p:Prop} (h:p:=by first|exact ZB rfl rfl rfl ldV Ad|exact xLa Cc):p:=h
def UK {p:Prop} (h:p:=by first|exact ZB rfl rfl rfl ldV Ad|exact xLa Ad):p:=h
def AtB {p:Prop} (h:p:=by first|exact ZB rfl rfl rfl ldV Ad|exact xLa DF):p:=h
def AkZ {p:Prop} (k:p') (h:Hd9 p'→p:=by with_reducible first|(intro Z9;refine Tx 8 ?_;refine gO Atz <| gO xD <| gO xA ?_;exact Z9.o)|(intro Z9;refine Tx 9 ?_;refine gO xM <| gO xM <| gO AtA <| gO AtB <| gO xM <| gO xM <| gO (xCl func127 BD (ha:=by with_unfolding_all first|((repeat' first|exact BJ rfl rfl|refine AZ rfl rfl ?_ ?_|refine EP rfl rfl ?_|refine CZ rfl rfl ?_|exact Bs rfl (fun h=>by cases h)|exact Age rfl rfl rfl) <;> fail)|fail)) <| gO (xCl func182 (UP)) <| gO (xIo (i:=i) Ah) <| gZ AoO ?_;exact Z9.o)|(intro Z9;refine Tx 10 ?_;refine gO xM <| gO xM <| gO (xIo (i:=i) Ah) <| gO UK <| gO (xCl func183 (FR)) ?_;exact Z9.o)|fail):p:=h ⟨k⟩
def WR {p:Prop} (k:p') (h:Hd9 p'→p:=by with_reducible first|(intro Z9;refine Tx 15 ?_;refine gO Atz <| gO xD <| gO xA ?_;exact Z9.o)|(intro Z9;refine AE (id:=16) 12 AN (by kernel_rfl) ?_;dsimp only [List.take,List.drop];refine gP xM <| gP xM <| gP (xIo (i:=i) Ah) <| gP UK <| gP AtA <| gP AtB <| gP xM <| gP xM <| gP (xCl func127 BD (ha:=by with_unfolding_all first|((repeat' first|exact BJ rfl rfl|refine AZ rfl rfl ?_ ?_|refine EP rfl rfl ?_|refine CZ rfl rfl ?_|exact Bs rfl (fun h=>by cases h)|exact Age rfl rfl rfl) <;> fail)|fail)) <| gP (xCl func182 (UP)) <| gP (xCl func156 (MX)) <| gQ (xAl Ao) ?_;refine Ke ?_;refine gZ (xSk Ad) ?_;exact Z9.o)|(intro Z9;refine BU (id:=17) AN (by kernel_rfl) ?_;refine gP UK <| gP xM <| gP xM <| gP (xIo (i:=i) Ah) <| gP UK <| gP (xCl func15 (CM)) <| gP xEq ?_;refine Ke ?_;exact Z9.o)|fail):p:=h ⟨k⟩
def Aak {p:Prop} (k:p') (h:Hd9 p'→p:=by with_reducible first|(intro Z9;refine Tx 18 ?_;refine gO xA ?_;exact Z9.o)|(intro Z9;refine Tx 19 ?_;refine gO xM <| gO xGe ?_;exact Z9.o)|(intro Z9;refine Tx 21 ?_;refine gO UK <| gO (xCl func183 (FR)) ?_;exact Z9.o)|fail):p:=h ⟨k⟩
def Aal {p:Prop} (h:p:=by
 exact ⟨.inl rfl,[],by decide,.nil_,.tup (congrArg Array.toList results87) (.cons_ (.tmp rfl ⟨rfl,.val _⟩) (.cons_ (.tmp rfl ⟨rfl,.val _⟩) .nil_))⟩):p:=h
def Ala {p:Prop} (h:p:=by
 refine ⟨_,_,RJ _ 3 ?_ ?_ ?_,_,by omega,j+1,_,_,by omega,rfl,ho,hE.set (Aag sX nX hf) nX i,rfl,rfl⟩
 ·rfl
 ·exact mB rfl rfl
 ·exact ⟨Db rfl,Db rfl,AeB,trivial⟩):p:=h
def WS (t:Bool) {ps:List Prt} {bs:List Bk} {os:List Int} (hl:Fa ps bs os) (h0:AO ps bs os=0) (c:Ct) (xd:D) (hF:AbE bs c.F) (hR:c.R.length=bs.length) (sR:∀ p∈c.R,IwS p LB LB) {res:Option (List Pq)} (hres:erA ps bs c.F c.R=res):CVN prog An 87 [aDg t ps bs os,.agg (dCx true c xd),.one (AU false (BZ (Bn bs))),.one (AU false (BZ (AI bs)))] (erW bs.length res) (erY bs.length res):=by
 refine WQ RL func87 rfl ntmps87 (bg rfl) ?_
 have hn:=hl.l2
 have hpn:=hl.l1
 have hnl:=Dr (AI bs)
 have hol:=Dr (Bn bs)
 have hob:=Ul (bs:=bs)
 have hdb:=Mp bs
 repeat' (with_reducible first|refine qq ?_|(refine Tx 0 ?_;refine gN xBo <| gN xBo <| gO xA <| gO xA ?_)|(refine Tx 1 ?_;refine gO xF <| gO xD <| gO xN <| gN (by first|exact ZA (n:=bs.length) rfl rfl rfl Ah Ao (by omega) (by decide)|exact Br rfl rfl rfl Ah Ao (by omega) (by decide)) <| gO xA ?_)|(refine Tx 2 ?_;refine gO xM ?_))
 refine Bj (Ajl 2 rfl fun _ _=>Agd) ?_
 refine Bj (BK 3) (Av (fun n Fr H=>∃ (r:Nat) (E:List Pq),r+n=128∧erR ps bs c.F c.R n r E=res∧OQ bs E∧Fr=ofL [(2,vd (AU false (BZ (Bn bs)))),(3,vd (AU false (BZ (AI bs)))),(4,vr 0),(5,vr 1),(10,vo 2 bs.length),(22,vi ((r:Nat)))]∧H=[.box 26 [.d (Di t ps),.d (DK t bs),.d (AU t os)],.box 30 [.d (AU true c.F),.d (.row false 6 c.R.length (Ay (dIw false) c.R)),.d xd],.row 43 3 bs.length (cVs (E.map some))]) (n0:=128) ⟨0,_,rfl,hres,.zero bs,rfl,rfl⟩ ?_)
 clear hres
 rintro n Fr H ⟨r,E,hrn,hres,hE,rfl,rfl⟩
 cases n
 case zero =>
  have hres:none=res:=hres
  subst hres
  repeat' (with_reducible first|refine qq ?_|(refine Tx 3 ?_;refine gO xLt ?_)|(refine Tx 28 ?_;refine gO xA <| gO xA ?_))
  exact Aal
 rename_i m
 unfold erR at hres
 obtain ⟨o,ho⟩:∃ o,erO ps bs c.F c.R (Bn bs) E=o:=⟨_,rfl⟩
 rw [ho] at hres
 repeat' (with_reducible first|refine qq ?_|(refine Tx 3 ?_;refine gO xLt ?_)|(refine Tx 4 ?_;refine gO xM <| gO xA ?_)|(refine Tx 5 ?_;refine gO xA ?_)|(refine Tx 6 ?_;refine gO xM <| gO xN <| gO xM ?_))
 refine Bj (BK 3 (h:=by rw [←hol];exact mB rfl rfl)) (Av (fun n Fr H=>∃ (j:Nat) (E:List Pq),j≤(Bn bs).length∧n=(Bn bs).length - j∧erO ps bs c.F c.R ((Bn bs).drop j) E=o∧OQ bs E∧Fr=ofL [(2,vd (AU false (BZ (Bn bs)))),(3,vd (AU false (BZ (AI bs)))),(4,vr 0),(5,vr 1),(10,vo 2 bs.length),(11,vi ((r:Nat))),(12,vd (.val (.bool false))),(22,vi ((r:Nat))),(25,vd (AU false (BZ (Bn bs)))),(26,vi ((Bn bs).length)),(27,vi ((j:Nat)))]∧H=[.box 26 [.d (Di t ps),.d (DK t bs),.d (AU t os)],.box 30 [.d (AU true c.F),.d (.row false 6 c.R.length (Ay (dIw false) c.R)),.d xd],.row 43 3 bs.length (cVs (E.map some))]) (n0:=(Bn bs).length) ⟨0,E,ad _,rfl,ho,hE,rfl,rfl⟩ ?_)
 clear ho hE
 rintro n Fr H ⟨j,E,hj,rfl,ho,hE,rfl,rfl⟩
 by_cases hlj:j<(Bn bs).length
 case pos =>
  obtain ⟨i,hi⟩:∃ i,(Bn bs)[j]?=some i:=⟨_,gE hlj⟩
  have hil:=(Ia hi).1
  obtain ⟨y,hy⟩:∃ y,bs[i]?=some y:=⟨_,gE hil⟩
  have B:=Aoo h0 hy
  have hs2:=hF.sc i hil
  have hsa:y.kind≠0→∀ a∈y.args,0≤sG c.F a∧sG c.F a≤30:=fun k0 a ha=>by have:=B.all k0 a ha;exact hF.sc a.toNat (by omega)
  have BD:=OM true xd t true os c E hE.len (AoA hE.sm) i hy B hF.len hR sR hn hpn hs2 hsa
  unfold Ajj at BD
  rw [hE.len] at BD
  obtain ⟨sb,sx,nx⟩:=Aai h0 hy hs2 sR hE
  have UP:=AfN _ (sb.more (by decide) (by decide))
  have hB:erB ps bs c.F c.R E i=upQ (AM ps c.F c.R E y (scA c.F i)):=by unfold erB;rw [CX hy]
  rw [←hB] at UP
  rw [Ys hi] at ho
  have tl:i<(E.map some).length:=by rw [af,hE.len];exact hil
  unfold erO at ho
  have FR:=Aab (erB ps bs c.F c.R E i) (sx.more (by decide) (by decide))
  have stV:(E.map some).set i (some (erB ps bs c.F c.R E i))=(E.set i (erB ps bs c.F c.R E i)).map some:=(jg ..).symm
  have ldV:((E.set i (erB ps bs c.F c.R E i)).map some)[i]?=some (some (erB ps bs c.F c.R E i)):=by rw [ag,fi (by rw [hE.len];exact hil)];rfl
  clear hB hs2 hsa B sb
  generalize AM ps c.F c.R E y (scA c.F i)=b at *
  generalize erB ps bs c.F c.R E i=x at *
  cases hf:Ahg x
  case true =>
   rw [hf] at FR ho
   rw [if_pos rfl] at ho
   subst ho
   have hres:none=res:=hres
   subst hres
   repeat' (with_reducible first|refine qq ?_|(refine Tx 7 ?_;refine gO xLt ?_)|refine AkZ ?_|(refine Tx 11 ?_;refine gO xA <| gO xA ?_))
   exact Aal
  rw [hf] at FR ho
  rw [if_neg (by decide)] at ho
  repeat' (with_reducible first|refine qq ?_|(refine Tx 7 ?_;refine gO xLt ?_)|refine AkZ ?_|(refine Tx 12 ?_;refine gO xAd <| gO xM ?_))
  refine ⟨_,_,BK 3,_,by omega,j+1,_,by omega,rfl,ho,hE.set (Aag sx nx hf) nx i,rfl,rfl⟩
 obtain rfl:j=(Bn bs).length:=by omega
 clear hlj hj
 rw [ij] at ho
 have ho:some E=o:=ho
 subst ho
 dsimp only at hres
 obtain ⟨w,hw⟩:∃ w,decide (64≤r)=w:=⟨_,rfl⟩
 rw [hw] at hres
 obtain ⟨o,ho⟩:∃ o,erD ps bs c.F c.R w (AI bs) E false=o:=⟨_,rfl⟩
 rw [ho] at hres
 repeat' (with_reducible first|refine qq ?_|(refine Tx 7 ?_;refine gO xLt ?_)|(refine Tx 13 ?_;refine gO xM <| gO xN <| gO xM ?_))
 refine Bj (BK 3 (h:=by rw [←hnl];exact mB rfl rfl)) (Av (fun n Fr H=>∃ (j:Nat) (E:List Pq) (b:Bool),j≤(AI bs).length∧n=(AI bs).length - j∧erD ps bs c.F c.R w ((AI bs).drop j) E b=o∧OQ bs E∧Fr=ofL [(2,vd (AU false (BZ (Bn bs)))),(3,vd (AU false (BZ (AI bs)))),(4,vr 0),(5,vr 1),(10,vo 2 bs.length),(11,vi ((r:Nat))),(12,vd (.val (.bool b))),(22,vi ((r:Nat))),(46,vd (AU false (BZ (AI bs)))),(47,vi ((AI bs).length)),(48,vi ((j:Nat)))]∧H=[.box 26 [.d (Di t ps),.d (DK t bs),.d (AU t os)],.box 30 [.d (AU true c.F),.d (.row false 6 c.R.length (Ay (dIw false) c.R)),.d xd],.row 43 3 bs.length (cVs (E.map some))]) (n0:=(AI bs).length) ⟨0,E,false,ad _,rfl,ho,hE,rfl,rfl⟩ ?_)
 clear ho hE
 rintro n Fr H ⟨j,E,b,hj,rfl,ho,hE,rfl,rfl⟩
 by_cases hlj:j<(AI bs).length
 case pos =>
  obtain ⟨i,hi⟩:∃ i,(AI bs)[j]?=some i:=⟨_,gE hlj⟩
  have hil:=(GE hi).1
  obtain ⟨y,hy⟩:∃ y,bs[i]?=some y:=⟨_,gE hil⟩
  have B:=Aoo h0 hy
  have hs2:=hF.sc i hil
  have hsa:y.kind≠0→∀ a∈y.args,0≤sG c.F a∧sG c.F a≤30:=fun k0 a ha=>by have:=B.all k0 a ha;exact hF.sc a.toNat (by omega)
  have BD:=OM true xd t true os c E hE.len (AoA hE.sm) i hy B hF.len hR sR hn hpn hs2 hsa
  unfold Ajj at BD
  rw [hE.len] at BD
  obtain ⟨sb,sx,nx⟩:=Aai h0 hy hs2 sR hE
  have UP:=AfN _ (sb.more (by decide) (by decide))
  have hB:erB ps bs c.F c.R E i=upQ (AM ps c.F c.R E y (scA c.F i)):=by unfold erB;rw [CX hy]
  rw [←hB] at UP
  rw [Ys hi] at ho
  have tl:i<(E.map some).length:=by rw [af,hE.len];exact hil
  obtain ⟨sM,nM⟩:=AkT h0 hy hs2 sR hE
  obtain ⟨sX,nX⟩:=AkU h0 hy hs2 sR hE w
  obtain ⟨se,_⟩:=hE.at_ i
  unfold erD at ho
  have hX:erX ps bs c.F c.R w E i=if w=true then AfT (erM ps bs c.F c.R E i) else erM ps bs c.F c.R E i:=rfl
  have ldV:(E.map some)[i]?=some (some (E[i]?.getD (0,0))):=by rw [ag,gE (by rw [hE.len];exact hil)];rfl
  have MX:=Eu (E[i]?.getD (0,0)).1 (E[i]?.getD (0,0)).2 (erB ps bs c.F c.R E i).1 (erB ps bs c.F c.R E i).2 se.ok sx.ok se.lz sx.lz
  rw [show DS (E[i]?.getD (0,0)).1 (E[i]?.getD (0,0)).2 (erB ps bs c.F c.R E i).1 (erB ps bs c.F c.R E i).2=erM ps bs c.F c.R E i from rfl] at MX
  have CM:=Cv (erM ps bs c.F c.R E i).1 (erM ps bs c.F c.R E i).2 (E[i]?.getD (0,0)).1 (E[i]?.getD (0,0)).2 sM.ok se.ok sM.lz se.lz
  have hq:Nt (erM ps bs c.F c.R E i) (E[i]?.getD (0,0))=BM (erM ps bs c.F c.R E i).1 (erM ps bs c.F c.R E i).2 (E[i]?.getD (0,0)).1 (E[i]?.getD (0,0)).2:=rfl
  rw [hq] at ho
  have FR:=Aab (erX ps bs c.F c.R w E i) (sX.more (by decide) (by decide))
  have stV:(E.map some).set i (some (erX ps bs c.F c.R w E i))=(E.set i (erX ps bs c.F c.R w E i)).map some:=(jg ..).symm
  have PW:=AbF (erM ps bs c.F c.R E i) sM
  clear hB hs2 hsa B sb hq
  generalize BM (erM ps bs c.F c.R E i).1 (erM ps bs c.F c.R E i).2 (E[i]?.getD (0,0)).1 (E[i]?.getD (0,0)).2=q at *
  generalize AM ps c.F c.R E y (scA c.F i)=bb at *
  generalize erX ps bs c.F c.R w E i=X at *
  generalize erM ps bs c.F c.R E i=M at *
  generalize erB ps bs c.F c.R E i=x at *
  generalize hee:E[i]?.getD (0,0)=e at *
  by_cases hc:q=0
  case pos =>
   rw [if_pos hc] at ho
   repeat' (with_reducible first|refine qq ?_|(refine Tx 14 ?_;refine gO xLt ?_)|refine WR ?_|(refine Tx 24 ?_;refine gO xAd <| gO xM ?_))
   refine ⟨_,_,BK 3,_,by omega,j+1,_,_,by omega,rfl,ho,hE,rfl,rfl⟩
  rw [if_neg hc] at ho
  cases w
  case false =>
   have hX:X=M:=hX
   subst hX
   have hw:=of_decide_eq_false hw
   cases hf:Ahg X
   case true =>
    rw [hf] at FR ho
    rw [if_pos rfl] at ho
    subst ho
    have hres:none=res:=hres
    subst hres
    repeat' (with_reducible first|refine qq ?_|(refine Tx 14 ?_;refine gO xLt ?_)|refine WR ?_|refine Aak ?_|(refine Tx 22 ?_;refine gO xA <| gO xA ?_))
    exact Aal
   rw [hf] at FR ho
   rw [if_neg (by decide)] at ho
   repeat' (with_reducible first|refine qq ?_|(refine Tx 14 ?_;refine gO xLt ?_)|refine WR ?_|refine Aak ?_|(refine Tx 23 ?_;refine gO xM <| gO xM <| gO UK <| gO (xIo (i:=i) Ah) <| gZ AoO ?_)|(refine Tx 24 ?_;refine gO xAd <| gO xM ?_))
   exact Ala
  case true =>
   have hX:X=AfT M:=hX
   subst hX
   have hw:=of_decide_eq_true hw
   cases hf:Ahg (AfT M)
   case true =>
    rw [hf] at FR ho
    rw [if_pos rfl] at ho
    subst ho
    have hres:none=res:=hres
    subst hres
    repeat' (with_reducible first|refine qq ?_|(refine Tx 14 ?_;refine gO xLt ?_)|refine WR ?_|refine Aak ?_|(refine Tx 20 ?_;refine gO UK <| gO (xCl func184 (PW)) <| gZ (xSk Ad) ?_)|(refine Tx 22 ?_;refine gO xA <| gO xA ?_))
    exact Aal
   rw [hf] at FR ho
   rw [if_neg (by decide)] at ho
   repeat' (with_reducible first|refine qq ?_|(refine Tx 14 ?_;refine gO xLt ?_)|refine WR ?_|refine Aak ?_|(refine Tx 20 ?_;refine gO UK <| gO (xCl func184 (PW)) <| gZ (xSk Ad) ?_)|(refine Tx 23 ?_;refine gO xM <| gO xM <| gO UK <| gO (xIo (i:=i) Ah) <| gZ AoO ?_)|(refine Tx 24 ?_;refine gO xAd <| gO xM ?_))
   exact Ala
 obtain rfl:j=(AI bs).length:=by omega
 clear hlj hj
 rw [ij] at ho
 have ho:some (E,b)=o:=ho
 subst ho
 dsimp only at hres
 cases b
 case false =>
  rw [if_neg (by decide)] at hres
  subst hres
  repeat' (with_reducible first|refine qq ?_|(refine Tx 14 ?_;refine gO xLt ?_)|(refine Tx 25 ?_;refine gO xM <| gO FI ?_)|(refine Tx 26 ?_;refine gO xM <| gO xA <| gO xA ?_))
  exact ⟨.inl rfl,[2],by decide,.cons_ ⟨congrArg some (congrArg (Ob.row _ 3 _) (Ajm _)),IA _⟩ .nil_,.tup (congrArg Array.toList results87) (.cons_ (.tmp rfl ⟨2,_,rfl,rfl,rfl,rfl⟩) (.cons_ (.tmp rfl ⟨rfl,.val _⟩) .nil_))⟩
 rw [if_pos rfl] at hres
 repeat' (with_reducible first|refine qq ?_|(refine Tx 14 ?_;refine gO xLt ?_)|(refine Tx 25 ?_;refine gO xM <| gO FI ?_)|(refine Tx 27 ?_;refine gO xAd <| gO xM ?_))
 refine ⟨_,_,BK 3,m,by omega,r+1,E,by omega,hres,hE,rfl,rfl⟩
def Ajq {xs:List Int} {k:Nat} {z:Int} (h:xs[k]?=some z):xs.set k z=xs:=by
 refine ep fun q=>?_
 rw [bk]
 split
 ·rename_i hq;subst hq;rw [if_pos (gS.1 h).1];exact h.symm
 ·rfl
def Agf (h:∀ f∈F,f≤((n+1:Nat):Int) - 1) (hl:AfU F=true):1≤n:=by
 obtain ⟨f,hf,hp⟩:=List.any_eq_true.1 hl
 have:=h f hf
 have:=of_decide_eq_true hp
 omega
def AtC (h:∀ f∈F,f≤((n+1:Nat):Int) - 1) (n1:1≤n):∀ f∈AbD F,f≤(n:Int) - 1:=fun f hf=>by
 obtain ⟨g,hg,rfl⟩:=List.mem_map.1 hf
 have:=h g hg
 unfold ApE
 split <;> omega
def Agg {p:Prop} (k:p') (h:Hd9 p'→p:=by with_reducible first|(intro Z9;refine Tx 0 ?_;refine gN xBo <| gN (xAl Qz) <| gO xA <| gO xA ?_;exact Z9.o)|(intro Z9;refine Tx 1 ?_;refine gO xL <| gO (xCl func60 (OC)) <| gO xMt <| gO xEx <| gO xEx <| gO xA <| gO xA ?_;exact Z9.o)|(intro Z9;refine Tx 2 ?_;refine gO xM <| gO (xNE Ai) ?_;exact Z9.o)|(intro Z9;refine Tx 4 ?_;refine gO xL <| gO (xCl func19 (DC)) <| gO xMt <| gO xEx <| gO xEx <| gO xA <| gO xA ?_;exact Z9.o)|(intro Z9;refine Tx 5 ?_;refine gO xM <| gO (xNE Ai) ?_;exact Z9.o)|(intro Z9;refine Tx 7 ?_;refine gO xM <| gO xLt <| gO xM ?_;(first|iterate 2 refine Jd ?_|(refine Jy xM1 ?_;refine Jy xGt ?_));refine gO xPk ?_;exact Z9.o)|(intro Z9;refine Tx 9 ?_;refine gO xL <| gO xM <| gO (xCl func84 (RI)) <| gO xMt <| gO xEx <| gO xEx <| gO xA <| gO xA ?_;exact Z9.o)|fail):p:=h ⟨k⟩
def Ajr {p:Prop} (h:p:=by first|exact Aaj rfl rfl rfl|exact xEx):p:=h
def Alb {p:Prop} (k:p') (h:Hd9 p'→p:=by with_reducible first|(intro Z9;refine Tx 10 ?_;refine gO xM <| gO (xNE Ai) ?_;exact Z9.o)|(intro Z9;refine Tx 12 ?_;refine gN (xAl Qz) ?_;exact Z9.o)|(intro Z9;refine Tx 13 ?_;refine gO xL <| gO xM <| gO (xCl func85 (EV)) <| gO xMt <| gO xEx <| gO xEx <| gO xF <| gZ (by first|exact xS1 BN|exact xSk BN) <| gO xA ?_;exact Z9.o)|(intro Z9;refine Tx 14 ?_;refine gO xM <| gO (xNE Ai) ?_;exact Z9.o)|(intro Z9;refine Tx 16 ?_;refine gO xL <| gO xF <| gO xD ?_;refine Jl (by exact NJ rfl func86 (by kernel_rfl) (by with_unfolding_all exact rfl) CH (by with_unfolding_all first|((repeat' first|exact BJ rfl rfl|refine AZ rfl rfl ?_ ?_|refine EP rfl rfl ?_|refine CZ rfl rfl ?_|exact Bs rfl (fun h=>by cases h)|fail) <;> fail)|fail)) ?_;refine gO (by first|exact AfY rfl rfl|exact Zf rfl rfl) <| gO Ajr <| gO Ajr <| gO xF <| gZ (by first|exact xS1 Bm|exact xSk Bm) <| gO xA ?_;exact Z9.o)|fail):p:=h ⟨k⟩
def Agh {p:Prop} (k:p') (h:Hd9 p'→p:=by with_reducible first|(intro Z9;refine Tx 19 ?_;refine gO xL <| gO xL <| gO xM <| gO xM ?_;refine Jl (by exact NJ rfl func87 (by kernel_rfl) (by with_unfolding_all exact rfl) EC (by with_unfolding_all first|((repeat' first|exact BJ rfl rfl|refine AZ rfl rfl ?_ ?_|refine EP rfl rfl ?_|refine CZ rfl rfl ?_|exact Bs rfl (fun h=>by cases h)|exact Yq rfl rfl rfl) <;> fail)|fail)) ?_;refine gO (by first|exact AfY rfl rfl|exact Zf rfl rfl) <| gO Ajr <| gO Ajr <| gO xA <| gO xA ?_;exact Z9.o)|(intro Z9;refine Tx 20 ?_;refine gO xM ?_;exact Z9.o)|fail):p:=h ⟨k⟩
def Alc {p:Prop} (k:p') (h:Hd9 p'→p:=by with_reducible first|(intro Z9;refine Tx 28 ?_;refine gO xM <| gO (xIo (i:=k) Af) <| gO (by first|exact xLi hla Ar|exact xLd Ar) <| gO xA <| gO xA ?_;exact Z9.o)|(intro Z9;refine Tx 29 ?_;refine gO xM <| gO xGt ?_;exact Z9.o)|(intro Z9;refine Tx 32 ?_;refine gO xAd <| gO xM ?_;exact Z9.o)|fail):p:=h ⟨k⟩
def AtD {p:Prop} (k:p') (h:Hd9 p'→p:=by with_reducible first|(intro Z9;refine Tx 30 ?_;refine gO xF <| gO xD <| gO xM <| gO (xIo (i:=k) Af) <| gO (by first|exact xLi hla Ar|exact xLd Ar) <| gO xSb <| gO (xIo (i:=k) Af) <| gZ (by first|exact OY rfl rfl rfl rfl Ar (by omega) hls|exact xS1 Ar|exact xSk Ar) ?_;exact Z9.o)|(intro Z9;refine Tx 31 ?_;refine gO xA ?_;exact Z9.o)|fail):p:=h ⟨k⟩
def AoP {p:Prop} (h:p:=by first|assumption|omega):p:=h
def AoQ {p:Prop} (h:p:=by first|rfl|omega):p:=h
def Ald {p:Prop} (k:p') (h:Hd9 p'→p:=by with_reducible first|(intro Z9;refine Tx 21 ?_;refine gO xM <| gO xF <| gZ (by first|exact xS1 Aw|exact xSk Aw) ?_;exact Z9.o)|(intro Z9;refine Tx 23 ?_;refine gO xM <| gO (by first|exact Dw rfl Ai rfl (RH rfl)|exact Dw rfl Ai rfl (RH AoQ)|exact Dw rfl Ai rfl (Vz AoP)|exact Dw rfl Ai rfl rfl) <| gO xM ?_;(first|refine Jd ?_|refine Jy xM1 ?_);refine gO xPk ?_;exact Z9.o)|fail):p:=h ⟨k⟩
def Ale {p:Prop} (h:p:=by
 refine Bj (BK 4 (hH:=by rw [←hx2];rfl)) (Av (fun n Fr H=>∃ k:Nat,k≤bs.length∧n=bs.length - k∧Fr=ofL [(2,vr 0),(4,vr 1),(7,vd (AU false (BZ (Bn bs)))),(9,vd (AU false (BZ (AI bs)))),(11,vr 2),(17,vd (.val (.bool (AfU (F.take k))))),(101,vo 3 bs.length),(102,vi bs.length),(103,vi ((k:Nat)))]∧H=[.box 26 [.d (Di t ps),.d (DK t bs),.d (AU t os)],.box 30 [.d (.val (.slice none 0 0)),.d (.val (.slice none 0 0)),.d (.val (.slice none 0 0))],.box 30 [.own 3 bs.length,.d (.row false 6 bs.length (Ay (dIw false) R)),.d x2],.row 3 1 bs.length (cI (Acf F (k)))]) (n0:=bs.length) ⟨0,ad _,rfl,rfl,rfl⟩ ?_)
 rintro m Fr H ⟨k,hk,rfl,rfl,rfl⟩
 have hFl:=hF.len
 by_cases hlt:k<bs.length
 case pos =>
  obtain ⟨z,hz⟩:∃ z,F[k]?=some z:=⟨_,gE (by omega)⟩
  obtain ⟨hla,hls,hlb2⟩:=AoN hz
  have hz2:=hF.in_ z (gM hz)
  have hll2:=Ajo F k
  by_cases hzp:0<z
  case pos =>
   rw [show ApE z=z - 1 from if_pos hzp] at hls
   rw [decide_eq_true hzp,Bool.or_true] at hlb2
   repeat' (with_reducible first|refine qq ?_|(refine Tx 27 ?_;refine gO xLt ?_)|refine Alc ?_|refine AtD ?_)
   refine ⟨_,_,BK 4 (h:=by rw [hlb2];exact mB rfl rfl),_,?_,k+1,by omega,rfl,rfl,rfl⟩
   ·omega
  rw [show ApE z=z from if_neg hzp,show (Acf F k).set k z=Acf F k from Ajq hla] at hls
  rw [decide_eq_false hzp,Bool.or_false] at hlb2
  repeat' (with_reducible first|refine qq ?_|(refine Tx 27 ?_;refine gO xLt ?_)|refine Alc ?_)
  refine ⟨_,_,BK 4 (hH:=by rw [←hls];rfl) (h:=by rw [hlb2];exact mB rfl rfl),_,?_,k+1,by omega,rfl,rfl,rfl⟩
  ·omega
 obtain rfl:k=bs.length:=by omega
 have hle:Acf F bs.length=AbD F:=by unfold Acf;rw [ar (by omega),List.drop_of_length_le (by omega),ba]
 have hlt2:AfU (F.take bs.length)=AfU F:=by rw [ar (by omega)]
 rw [hle,hlt2]
 cases hlow:AfU F
 case false =>
  rw [hlow,if_neg (by decide)] at hres
  subst hres
  repeat' (with_reducible first|refine qq ?_|(refine Tx 27 ?_;refine gO xLt ?_)|(refine Tx 33 ?_;refine gO xM <| gO FI ?_)|(refine Tx 34 ?_;refine gO (by exact Az rfl TL rfl rfl) <| gZ (xSk DF) <| gO xA <| gO xA ?_))
  exact ⟨.inl rfl,[],by decide,.nil_,.tup (congrArg Array.toList results32) (.cons_ (UJ DF rfl rfl rfl (.cons_ ⟨rfl,.val _⟩ (.cons_ ⟨rfl,.val _⟩ (.cons_ ⟨rfl,.val _⟩ .nil_)))) (.cons_ (.tmp rfl ⟨rfl,.val _⟩) (.cons_ (.tmp rfl ⟨rfl,.val _⟩) .nil_)))⟩
 rw [hlow,if_pos rfl] at hres
 repeat' (with_reducible first|refine qq ?_|(refine Tx 27 ?_;refine gO xLt ?_)|(refine Tx 33 ?_;refine gO xM <| gO FI ?_))
 refine ⟨_,_,RJ _ 4 ?_ ?_ ?_,n,by omega,AbD F,x2,Agf hFn hlow,AtC hFn (Agf hFn hlow),hres,hF.low,rfl,rfl⟩
 ·rfl
 ·exact mB rfl rfl
 ·exact ⟨Db rfl,Db rfl,Db rfl,Zj,trivial⟩):p:=h
def Alf {p:Prop} (h:p:=by
 exact ⟨.inl rfl,[],by decide,.nil_,.tup (congrArg Array.toList results32) (.cons_ (UJ DF rfl rfl rfl (.cons_ ⟨rfl,.val _⟩ (.cons_ ⟨rfl,.val _⟩ (.cons_ ⟨rfl,.val _⟩ .nil_)))) (.cons_ (.tmp rfl ⟨rfl,.val _⟩) (.cons_ (.tmp rfl ⟨rfl,.val _⟩) .nil_)))⟩):p:=h
def AbH (t:Bool) {ps:List Prt} {bs:List Bk} {os:List Int} (hl:Fa ps bs os) (h0:AO ps bs os=0) (rd:Int) (r0:1≤rd) (r1:rd≤16) {f:Nat} {e:Int} {l:List Iq} (hf:f≤1000000000) (hres:Tf ps bs rd f=some (e,l)) (hI:(e=0∧WA bs l∧Eg ps bs l=false∧Abt ps bs l=true)∨((e=4∨e=22)∧l=[])):CVN prog An 32 [aDg t ps bs os,aI rd] (mkW bs.length (mkC ps bs os e l)) (mkY bs.length (mkC ps bs os e l)):=by
 refine WQ RL func32 rfl ntmps32 (bg rfl) ?_
 have OC:=(PP t hl (ps:=ps) (bs:=bs) (os:=os)).cv
 have DC:=(Hz t hl (ps:=ps) (bs:=bs) (os:=os)).cv
 rw [if_pos h0,h0] at OC DC
 have RI:=Abv t hl h0 rd r0 r1 (e,l) f hf hres
 dsimp only at RI
 have hn:=hl.l2
 have hdb:=Mp bs
 rcases hI with ⟨rfl,hI,hb,_⟩|⟨hne,rfl⟩
 case inr =>
  have hne:e≠0:=by omega
  rw [show mkC ps bs os e []=none from if_neg fun h=>hne h.1]
  repeat' (with_reducible first|refine qq ?_|refine Agg ?_|(refine Tx 10 ?_;refine gO xM <| gO (by first|exact Bw rfl Ai rfl (GP hne)|exact Bw rfl Ai rfl (Ps AoQ)|exact Bw rfl Ai rfl (GP AoP)|exact Bw rfl Ai rfl rfl) ?_)|(refine Tx 11 ?_;refine gO (by exact Az rfl TL rfl rfl) <| gZ (xSk DF) <| gO xA <| gO xA ?_))
  exact Alf
 have hlb:=hI.lb hb
 have hll:=hI.len
 have EV:=Wz t hl (l.map UF) (WC hI.iw (by decide)) (by rw [af];omega)
 rw [Aky h0 hI.iw hll,Qb,Rg,if_neg (by rw [hb];decide),RP rfl] at EV
 unfold AsB at EV RI
 have hR:(rgV ps bs l).length=bs.length:=Rf
 have sR:=AfK h0 hlb hll hb
 have hm:mkC ps bs os 0 l=if (rgV ps bs l).all pkB=true then mkL ps bs os (rgV ps bs l) 31 ((rgV ps bs l).map pkS) else none:=by
  by_cases h:(rgV ps bs l).all pkB=true
  ·rw [if_pos h];exact if_pos ⟨rfl,h⟩
  ·rw [if_neg h];exact if_neg fun hc=>h hc.2
 rw [hm]
 clear hm hres
 generalize rgV ps bs l=R at *
 have CH:=AbG t hl h0 R hR sR
 rw [hR] at CH EV
 cases hp:R.all pkB
 case false =>
  rw [hp] at CH
  rw [if_neg (by decide)]
  repeat' (with_reducible first|refine qq ?_|refine Agg ?_|refine Alb ?_|(refine Tx 17 ?_;refine gO xM <| gO (by first|exact Bw rfl Ai rfl (GP (by decide))|exact Bw rfl Ai rfl (Ps AoQ)|exact Bw rfl Ai rfl (GP AoP)|exact Bw rfl Ai rfl rfl) ?_)|(refine Tx 18 ?_;refine gO (by exact Az rfl TL rfl rfl) <| gZ (xSk DF) <| gO xA <| gO xA ?_))
  exact Alf
 rw [hp] at CH
 rw [if_pos rfl]
 have hF0:=Atu hR hp
 repeat' (with_reducible first|refine qq ?_|refine Agg ?_|refine Alb ?_|(refine Tx 17 ?_;refine gO xM <| gO (xNE Ai) ?_))
 refine Bj (BK 4 (hH:=by rw [Aun];rfl)) (Av (fun n Fr H=>∃ (F:List Int) (xd:D),1≤n∧(∀ f∈F,f≤(n:Int) - 1)∧mkL ps bs os R n F=mkL ps bs os R 31 (R.map pkS)∧AbE bs F∧Fr=ofL [(2,vr 0),(4,vr 1),(7,vd (AU false (BZ (Bn bs)))),(9,vd (AU false (BZ (AI bs)))),(11,vr 2)]∧H=[.box 26 [.d (Di t ps),.d (DK t bs),.d (AU t os)],.box 30 [.d (.val (.slice none 0 0)),.d (.val (.slice none 0 0)),.d (.val (.slice none 0 0))],.box 30 [.own 3 bs.length,.d (.row false 6 bs.length (Ay (dIw false) R)),.d xd],.row 3 1 bs.length (cI F)]) (n0:=31) ⟨R.map pkS,_,by decide,fun f hf=>by have:=hF0.in_ f hf;omega,rfl,hF0,rfl,rfl⟩ ?_)
 clear CH EV RI OC DC
 rintro n Fr H ⟨F,xd,n1,hFn,hres,hF,rfl,rfl⟩
 cases n
 case zero=>omega
 rename_i n
 generalize mkL ps bs os R 31 (R.map pkS)=res at *
 unfold mkL mkT at hres
 have EC:=fun r (h:erA ps bs F R=r)=>WS t hl h0 ⟨F,R,[]⟩ xd hF hR sR h
 unfold dCx AU at EC
 dsimp only at EC
 rw [hF.len,hR] at EC
 rcases hA:erA ps bs F R with _|E
 case none =>
  have EC:=EC _ hA
  rw [hA] at hres
  have hres:(if AfU F=true then mkL ps bs os R n (AbD F) else none)=res:=hres
  repeat' (with_reducible first|refine qq ?_|refine Agh ?_|(refine Tx 25 ?_;refine gO xA ?_)|(refine Tx 26 ?_;refine gO xF <| gO xD <| gO xN <| gO xM ?_))
  obtain ⟨x2,hx2⟩:∃ x2,xd=x2:=⟨_,rfl⟩
  exact Ale
 have EC:=EC _ hA
 rw [hA] at hres
 have hE:=AkX h0 hF.sc sR hA
 have VC:=Mv t hl F (R.map UF) (E.map EL) (WC sR (by decide)) (Avt hE) (by rw [hF.len];exact hn) (by rw [af,hR];exact hn) (by rw [af,hE.len];exact hn)
 rw [AfX h0 hF hR sR hE,Att] at VC
 generalize vfP ps bs os F (R.map UF) (E.map EL)=vp at VC
 unfold dCt AU at VC
 dsimp only at VC
 rw [hF.len,hE.len,hR] at VC
 have hres:(match (if vfA ps bs os F R E=true then some E else none) with|some E=>some ⟨F,R,E⟩|none=>if AfU F=true then mkL ps bs os R n (AbD F) else none)=res:=hres
 have hv2:vfE ps bs os F (R.map UF) (E.map EL)=vfA ps bs os F R E:=rfl
 rw [hv2] at VC
 cases hv:vfA ps bs os F R E
 case true =>
  rw [hv] at VC hres
  rw [if_pos rfl] at hres
  dsimp only at hres
  subst hres
  repeat' (with_reducible first|refine qq ?_|refine Agh ?_|refine Ald ?_|(refine Tx 22 ?_;refine gO xL <| gO xL <| gO (by exact NK rfl func12 (by kernel_rfl) (by with_unfolding_all exact rfl) rfl VC (by with_unfolding_all exact AZ rfl rfl ⟨true,CZ rfl rfl (AZ rfl rfl (Bs rfl (fun h=>by cases h)) (AZ rfl rfl (Bs rfl (fun h=>by cases h)) (AZ rfl rfl (Bs rfl (fun h=>by cases h)) (BJ rfl rfl))))⟩ (AZ rfl rfl ⟨false,CZ rfl rfl (AZ rfl rfl (Yq rfl rfl rfl) (AZ rfl rfl (Bs rfl (fun _=>.row (Ce (f:=dIw false) Ik R))) (AZ rfl rfl (Dx rfl rfl rfl (OS rfl (IA E))) (BJ rfl rfl))))⟩ (BJ rfl rfl)))) <| gO xMt <| gO xEx <| gO (by exact EO rfl rfl rfl) <| gO xEx <| gN (xAl DJ) <| gO xA <| gZ (xSk Bz) <| gO xA ?_)|(refine Tx 24 ?_;refine gO xL <| gZ (xSk DF) <| gO xA <| gO xA ?_))
  exact ⟨.inl rfl,[3,4],by decide,.cons_ ⟨congrArg some (congrArg (Ob.row _ 1 _) (Aun _)),Lc _⟩ (.cons_ ⟨rfl,IA _⟩ .nil_),.tup (congrArg Array.toList results32) (.cons_ (UJ DF rfl rfl rfl (.cons_ ⟨3,_,rfl,rfl,rfl,rfl⟩ (.cons_ ⟨rfl,.row (Ce (f:=dIw false) Ik _)⟩ (.cons_ ⟨4,_,rfl,rfl,rfl,rfl⟩ .nil_)))) (.cons_ (.tmp rfl ⟨rfl,.val _⟩) (.cons_ (.tmp rfl ⟨rfl,.val _⟩) .nil_)))⟩
 rw [hv] at VC hres
 rw [if_neg (by decide)] at hres
 dsimp only at hres
 repeat' (with_reducible first|refine qq ?_|refine Agh ?_)
 refine Bj (GA (ds:=Ay dyP E) 12 4 rfl rfl) ?_
 repeat' (with_reducible first|refine qq ?_|refine Ald ?_|(refine Tx 22 ?_;refine gO xL <| gO xL <| gO (by exact NK rfl func12 (by kernel_rfl) (by with_unfolding_all exact rfl) rfl VC (by with_unfolding_all exact AZ rfl rfl ⟨true,CZ rfl rfl (AZ rfl rfl (Bs rfl (fun h=>by cases h)) (AZ rfl rfl (Bs rfl (fun h=>by cases h)) (AZ rfl rfl (Bs rfl (fun h=>by cases h)) (BJ rfl rfl))))⟩ (AZ rfl rfl ⟨false,CZ rfl rfl (AZ rfl rfl (Yq rfl rfl rfl) (AZ rfl rfl (Bs rfl (fun _=>.row (Ce (f:=dIw false) Ik R))) (AZ rfl rfl (Bs rfl (fun _=>.row (IA E))) (BJ rfl rfl))))⟩ (BJ rfl rfl)))) <| gO xMt <| gO xEx <| gO (by exact EO rfl rfl rfl) <| gO xEx <| gN (xAl DJ) <| gO xA <| gZ (xSk Bz) <| gO xA ?_)|(refine Tx 25 ?_;refine gO xA ?_)|(refine Tx 26 ?_;refine gO xF <| gO xD <| gO xN <| gO xM ?_))
 obtain ⟨x2,hx2⟩:∃ x2,D.row false 3 bs.length (Ay dyP E)=x2:=⟨_,rfl⟩
 exact Ale
def AoR (h0:AO ps bs os=0) {e:Int} {l:List Iq} (hI:(e=0∧WA bs l∧Eg ps bs l=false∧Abt ps bs l=true)∨((e=4∨e=22)∧l=[])) {c:Ct} (hm:mkC ps bs os e l=some c):GI ps bs os c∧AbE bs c.F∧c.R.length=bs.length∧(∀ p∈c.R,IwS p LB LB)∧OQ bs c.E∧vfA ps bs os c.F c.R c.E=true:=by
 unfold mkC at hm
 by_cases hc:e=0∧(rgV ps bs l).all pkB=true
 case neg=>rw [if_neg hc] at hm;cases hm
 rw [if_pos hc] at hm
 rcases hI with ⟨_,hI,hb,_⟩|⟨hne,_⟩
 ·have sR:=AfK h0 (hI.lb hb) hI.len hb
  obtain ⟨a,b,d,f,g⟩:=AfW h0 sR _ _ _ (Atu Rf hc.2) hm
  rw [←d] at sR g
  exact ⟨a,b,by rw [d];exact Rf,sR,f,g⟩
 ·omega
end Go.Proofs.YtmdfjbpggbhgnaaGreatDoor
