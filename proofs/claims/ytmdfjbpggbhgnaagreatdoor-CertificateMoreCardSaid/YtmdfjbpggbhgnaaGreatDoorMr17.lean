/- What the proofs of this claim share, part 17. No conditions. -/
import Derived.Test.YtmdfjbpggbhgnaaGreatDoorMr16
import Derived.Test.YtmdfjbpggbhgnaaGreatDoorMr15
import Derived.Test.YtmdfjbpggbhgnaaGreatDoorMr11
import Derived.Test.YtmdfjbpggbhgnaaGreatDoorMr7
import Derived.Test.YtmdfjbpggbhgnaaGreatDoorMr8
import Derived.Test.YtmdfjbpggbhgnaaGreatDoorMr9
set_option maxRecDepth 100000
set_option maxHeartbeats 8000000
set_option linter.all false
open Go.Proofs.Tryz
namespace Go.Proofs.YtmdfjbpggbhgnaaGreatDoor
open Go.RowKit
variable {p p':Prop} {id n s ty:Nat} {ps:List Prt} {bs:List Bk} {F os:List Int} {E:List Pq} {qs:List (Rv × Rv)} {rs:List Rv} {r:Rv} {w:World} {S:Eh} {P:Program} {fn:Func} {f:FuncId} {xs:Array Operand} {ts:Array TypeId} {l:List Oper} {H:List Ob} {o:Oper}
def Ael (mk:Bool) (E:List Pq):D:=.row mk 3 E.length (Av dyP E)
def dCx (u:Bool) (c:Ct) (xd:D):List D:=[Bd u c.F,.row false 6 c.R.length (Av (dIw false) c.R),xd]
theorem AmZ (h:p:=by first|exact xIr Ad (AI hk)|exact xIr Ad (AI hFr)|exact xIr Ad (hEr)):p:=h
theorem AfU (k:p') (h:Hd9 p'→p:=by with_reducible first|(intro Z9;refine qq ?_;exact Z9.o)|(intro Z9;refine Tx 0 ?_;refine gN (xAl Aj) ?_;exact Z9.o)|(intro Z9;refine Tx 1 ?_;refine gO xF <| gO xD <| gO xM <| gO AmZ <| gO xD <| gO xA ?_;exact Z9.o)|(intro Z9;refine Ca (id:=2) AV (by kernel_rfl) ?_;refine gP xD <| gP xF <| gP xD <| gP xM <| gP AmZ <| gP xD <| gP xGe ?_;refine Ke ?_;exact Z9.o)|(intro Z9;refine Tx 3 ?_;refine gO xD <| gO xM <| gO (xIr Af (hEr)) <| gO xL <| gZ (xSk Aa) ?_;exact Z9.o)|(intro Z9;refine AG (id:=4) 6 AV (by kernel_rfl) ?_;dsimp only [List.take,List.drop];refine gP xD <| gP xM <| gP (xIr Af (hEr)) <| gP xL <| gP xL <| gP (xCl func152 (AD)) ?_;refine Ke ?_;refine gZ (xSk Aa) ?_;exact Z9.o)|fail):p:=h ⟨k⟩
theorem Cy (h:p:=by
 exact Ax rfl (.cons_ (rvW Aa rfl) .nil_)):p:=h
theorem Ej (mk:Bool) (xd:D) (t u:Bool) (c:Ct) (E:List Pq) (y:Bk) (s:Int) (s0:0≤s) (s1:s≤30) (sE:∀ p∈E,Sm p LB LB) (k:Nat) {r:Nat} (hk:y.args[k]?=some (r:Int)) (hr:r<c.F.length) (hr2:r<E.length) (ha:y.args.length≤1000000) (hv:c.F.length≤1000000) (hv2:E.length≤1000000):CV prog Ah 220 [aI (k:Int),.one (.ptr true (dBk t y)),.one (.ptr true [dI s]),.one (.ptr true (dCx u c xd)),.one (.ptr true [Ael mk E]),.one (.ptr true (dDy false (pw (-s)).1 (pw (-s)).2))] [aDy false (mvP c.F E s (r:Int)).1 (mvP c.F E s (r:Int)).2]:=by
 refine cvz func220 ntmps220 ?_
 have l1:=(gS.1 hk).1
 have hFr:=OT (F:=c.F) (k:=r) (by omega)
 have hEr:=XS (E:=E) (k:=r) (by omega)
 have sm:=Df sE r
 obtain ⟨e,he⟩:∃ e,E[r]?.getD (0,0)=e:=⟨_,rfl⟩
 rw [he] at sm hEr
 have um:=Tm s0 s1
 have AD:=DF e.1 e.2 (pw (-s)).1 (pw (-s)).2 sm.ok um.ok sm.lz um.lz
 by_cases h:scA c.F r≤s
 case pos =>
  rw [show mvP c.F E s (r:Int)=e by unfold mvP;rw [EK,if_pos h,GI,he]]
  repeat' (with_reducible first|refine AfU ?_)
  exact Cy
 rw [show mvP c.F E s (r:Int)=Dn e (pw (-s)) by unfold mvP;rw [EK,if_neg h,GI,he]]
 repeat' (with_reducible first|refine AfU ?_)
 exact Cy
theorem LI (b:Bool) (s:Int):CV prog Ah 221 [aB b,.one (.ptr true (dDy false (pw (-s)).1 (pw (-s)).2))] [aDy false (ixP b s).1 (ixP b s).2]:=by
 refine cvz func221 ntmps221 ?_
 cases b
 case true =>
  rw [show ixP true s=pw (-s) from rfl]
  repeat' (with_reducible first|refine qq ?_|(refine Tx 0 ?_;refine gN (xAl Aj) ?_)|(refine Tx 1 ?_;refine gO xM ?_)|(refine Tx 2 ?_;refine gO xL <| gZ (xSk Aa) ?_))
  exact Cy
 case false =>
  rw [show ixP false s=(0,0) from rfl,Gy]
  repeat' (with_reducible first|refine qq ?_|(refine Tx 0 ?_;refine gN (xAl Aj) ?_)|(refine Tx 1 ?_;refine gO xM ?_)|(refine Tx 3 ?_;refine gO (by exact AO rfl Fl rfl rfl) <| gZ (xSk Aa) ?_))
  exact Ax rfl (.cons_ (AoX Aa rfl) .nil_)
theorem FG (k:p') (h:Hd9 p'→p:=by with_reducible first|(intro Z9;refine qq ?_;exact Z9.o)|(intro Z9;refine Tx 0 ?_;refine gN xBo <| gN xBo <| gN xBo <| gN (xAl Aj) ?_;exact Z9.o)|(intro Z9;refine Tx 3 ?_;refine gO xD <| gO (xCl func218 (UN)) <| gN (xAl Aj) <| gZ (xSk Aa) ?_;exact Z9.o)|(intro Z9;refine Tx 4 ?_;refine gO (by first|exact xMf [(4,0,none),(5,0,none),(1,0,none),(2,0,none),(6,0,none)]|exact CI rfl (by repeat' first|exact Bh rfl rfl|refine Au rfl rfl rfl ?_)) <| gO xA ?_;exact Z9.o)|(intro Z9;refine Tx 5 ?_;refine gO (by first|exact xMf [(6,0,none)]|exact CI rfl (by repeat' first|exact Bh rfl rfl|refine Au rfl rfl rfl ?_)) <| gO xA ?_;exact Z9.o)|(intro Z9;refine Tx 6 ?_;refine gO xF <| gO xD ?_;exact Z9.o)|(intro Z9;refine Tx 7 ?_;refine gO xEq <| gO xA ?_;exact Z9.o)|fail):p:=h ⟨k⟩
theorem Ajf (h:p:=by first|exact xS1 AE|exact xSk AE):p:=h
theorem GK (k:p') (h:Hd9 p'→p:=by with_reducible first|(intro Z9;refine Tx 1 ?_;refine gO xF <| gO xD <| gO xM <| gO (xIr Ai (Dj hy)) <| gO xL <| gN (xAl Bt) <| gZ (xSk Bi) ?_;exact Z9.o)|(intro Z9;refine Tx 2 ?_;refine gO xF <| gO xD <| gO xM <| gO (xIr Ad (AI hFi)) <| gO xD <| gN (xAl CJ) <| gZ Ajf ?_;exact Z9.o)|fail):p:=h ⟨k⟩
theorem Gf (k:p') (h:Hd9 p'→p:=by with_reducible first|(intro Z9;refine Tx 9 ?_;refine gO xEq <| gO xA ?_;exact Z9.o)|fail):p:=h ⟨k⟩
theorem GL (k:p') (h:Hd9 p'→p:=by with_reducible first|(intro Z9;refine Tx 11 ?_;refine gO xEq <| gO xA ?_;exact Z9.o)|fail):p:=h ⟨k⟩
theorem Hx (k:p') (h:Hd9 p'→p:=by with_reducible first|(intro Z9;refine Tx 12 ?_;refine gO xEq <| gO xA ?_;exact Z9.o)|fail):p:=h ⟨k⟩
theorem Ana (h:p:=by first|exact xCl func222 (WH)|exact xCl func222 (WU)):p:=h
theorem DX (h:p:=by first|exact xNt|exact xNg):p:=h
theorem AfV (k:p') (h:Hd9 p'→p:=by with_reducible first|(intro Z9;refine AG (id:=27) 17 AV (by kernel_rfl) ?_;dsimp only [List.take,List.drop];refine gP xM <| gP (xCc func220 M0 (args:=[_]) rfl) <| gP xM <| gP xF <| gP xL <| gP xD <| gP Ana <| gP DX <| gP xM ?_;(first|iterate 5 refine Kd ?_|(refine Ky (xFa Ee AU) ?_;refine Ky (xLa AU) ?_;refine Ky (xLd AE) ?_;refine Ky Ana ?_;refine Ky DX ?_));refine gP xPk <| gP (xCc func221 IX (args:=[_]) rfl) <| gP (xCl func156 (C)) ?_;refine Ke ?_;refine gZ (xSk Aa) ?_;exact Z9.o)|fail):p:=h ⟨k⟩
theorem Ajg (h:p:=by first|exact xIr Ad (AI hFi)|exact xIr Ad (AI hF0)|exact xIr Ad (AI hF1)|exact xIr Ad (hE0)|exact xIr Ad (hE1)|exact xIr Ad (hI0)|exact xIr Ad (hI1)):p:=h
theorem Anb (h:p:=by first|exact xIr Ag (hE0)|exact xIr Ag (hE1)|exact xIr Ag (hI0)|exact xIr Ag (hI1)):p:=h
theorem Aem (h:p:=by first|exact xIr Af (hE0)|exact xIr Af (hE1)|exact xIr Af (hI0)|exact xIr Af (hI1)):p:=h
theorem Anc (h:p:=by first|exact xIr Ad (AI hFi)|exact xIr Ad (AI hF0)|exact xIr Ad (hEa)):p:=h
theorem Ajh (h:p:=by first|exact xCl func157 (MA)|exact xCl func157 (MB)|exact xCl func157 (MC)):p:=h
theorem Aji (h:p:=by first|exact xCl func152 (D1)|exact xCl func152 (D2)|exact xCl func152 (D3)):p:=h
theorem Ane (h:p:=by first|exact xCl func159 (MG0)|exact xCl func159 (MG1)):p:=h
theorem Anf (h:p:=by first|exact xIr Ad (AI hA0)|exact xIr Ad (hEa)):p:=h
theorem Ajj (h:p:=by first|exact Za rfl rfl rfl|exact xLt):p:=h
theorem LJ (mk:Bool) (xd:D) (t u:Bool) {ps:List Prt} {bs:List Bk} (os:List Int) (c:Ct) (E:List Pq) (hE:E.length=bs.length) (sE:∀ p∈E,Sm p LB LB) (i:Nat) {y:Bk} (hy:bs[i]?=some y) (B:Aco ps bs.length y) (hF:c.F.length=bs.length) (hR:c.R.length=bs.length) (sR:∀ p∈c.R,IwS p LB LB) (hn:bs.length≤1000000) (hpn:ps.length≤1000000) (hs2:0≤scA c.F i∧scA c.F i≤30) (hsa:y.kind≠0→∀ a∈y.args,0≤sG c.F a∧sG c.F a≤30):CV prog Ah 127 [aDg t ps bs os,.agg (dCx u c xd),.one (Ael mk E),aI (i:Int)] [aDy false (Aw ps c.F c.R E y (scA c.F i)).1 (Aw ps c.F c.R E y (scA c.F i)).2]:=by
 refine cvz func127 ntmps127 ?_
 have hil:=(gS.1 hy).1
 have hFi:=OT (F:=c.F) (k:=i) (by omega)
 obtain ⟨s,hs⟩:∃ s,scA c.F i=s:=⟨_,rfl⟩
 rw [hs] at hFi
 have hBl:=B.len
 obtain ⟨s0,s1⟩:=hs2
 rw [hs] at s0 s1
 have UN:=OA s (by omega) (by omega)
 have um:=Tm s0 s1
 rw [hs]
 rcases B.hk with h|h|h|h|h|h|h|h|h|h|h|h
 ·
  obtain ⟨j,pp,hA0,ha0,hp,PS⟩:=B.port h
  have l3:=(gS.1 hp).1
  have hL0:=(gS.1 hA0).1
  rw [show Aw ps c.F c.R E y s=ixP (decide (s<pp.fr)) s by unfold Aw;rw [if_pos h,ha0,UM hp]]
  have IX:=LI (decide (s<pp.fr)) s
  repeat' (with_reducible first|refine FG ?_|refine GK ?_|(refine AG (id:=8) 13 AV (by kernel_rfl) ?_;dsimp only [List.take,List.drop];refine gP xM <| gP xD <| gP xF <| gP xD <| gP xF <| gP xD <| gP (xIr Ad (AI hA0)) <| gP xD <| gP (xIr Di (NJ hp)) <| gP xF <| gP xD <| gP Ajj <| gP (xCc func221 IX (args:=[_]) rfl) ?_;refine Ke ?_;refine gZ (xSk Aa) ?_))
  exact Cy
 ·
  have WH:=Hd y.vn y.ve s (B.sv (by omega)) s0 s1
  have IX:=LI (!Bf y.vn y.ve s) s
  rw [show Aw ps c.F c.R E y s=ixP (!Bf y.vn y.ve s) s by unfold Aw;rw [if_neg (by omega),if_pos h]]
  repeat' (with_reducible first|refine FG ?_|refine GK ?_|refine Gf ?_|(refine Tx 10 ?_;refine gO xM <| gO xF <| gO xL <| gO xD <| gO (xCl func222 (WH)) <| gO DX <| gO (xCc func221 IX (args:=[_]) rfl) <| gZ (xSk Aa) ?_))
  exact Cy
 ·
  obtain ⟨a,hA0,ha0,hl0⟩:=B.a0 (by omega)
  have hl0:=hl0 (by omega)
  have hL0:=(gS.1 hA0).1
  have M0:=Ej mk xd t u c E y s s0 s1 sE 0 hA0 (by omega) (by omega) (by omega) (by omega) (by omega)
  obtain ⟨m0,hm0⟩:∃ m,mvP c.F E s (a:Int)=m:=⟨_,rfl⟩
  have t0:=DW (F:=c.F) s0 s1 sE (a:Int)
  rw [hm0] at M0 t0
  have WH:=Hd y.vn y.ve s (B.sv (by omega)) s0 s1
  have ib:=IY (b:=(!Bf y.vn y.ve s)) s0 s1
  have IX:=LI (!Bf y.vn y.ve s) s
  have C:=EY m0.1 m0.2 (ixP (!Bf y.vn y.ve s) s).1 (ixP (!Bf y.vn y.ve s) s).2 t0.ok ib.ok t0.lz ib.lz
  rw [show Aw ps c.F c.R E y s=Gz m0 (ixP (!Bf y.vn y.ve s) s) by unfold Aw;rw [if_neg (by omega),if_neg (by omega),if_neg (by omega),if_neg (by omega),if_neg (by omega),if_neg (by omega),if_neg (by omega),if_neg (by omega),ha0,hm0]]
  repeat' (with_reducible first|refine FG ?_|refine GK ?_|refine Gf ?_|refine GL ?_|refine Hx ?_|(refine Tx 14 ?_;refine gO xEq <| gO xA ?_)|(refine Tx 15 ?_;refine gO xEq <| gO xA ?_)|(refine Tx 17 ?_;refine gO xEq <| gO xA ?_)|(refine Tx 18 ?_;refine gO xEq <| gO xA ?_)|(refine Tx 20 ?_;refine gO xEq <| gO xA ?_)|(refine Tx 22 ?_;refine gO xEq <| gO xA ?_)|(refine Tx 26 ?_;refine gO xEq <| gO xA ?_)|(refine AG (id:=28) 10 AV (by kernel_rfl) ?_;dsimp only [List.take,List.drop];refine gP xM <| gP (xCc func220 M0 (args:=[_]) rfl) <| gP xM <| gP xF <| gP xL <| gP xD <| gP (xCl func222 (WH)) <| gP DX <| gP (xCc func221 IX (args:=[_]) rfl) <| gP (xCl func156 (C)) ?_;refine Ke ?_;refine gZ (xSk Aa) ?_))
  exact Cy
 ·
  obtain ⟨a,hA0,ha0,hl0⟩:=B.a0 (by omega)
  have hl0:=hl0 (by omega)
  have hL0:=(gS.1 hA0).1
  obtain ⟨b,hA1,ha1,hl1⟩:=B.a1 (by omega)
  have hL1:=(gS.1 hA1).1
  have M0:=Ej mk xd t u c E y s s0 s1 sE 0 hA0 (by omega) (by omega) (by omega) (by omega) (by omega)
  obtain ⟨m0,hm0⟩:∃ m,mvP c.F E s (a:Int)=m:=⟨_,rfl⟩
  have t0:=DW (F:=c.F) s0 s1 sE (a:Int)
  rw [hm0] at M0 t0
  have M1:=Ej mk xd t u c E y s s0 s1 sE 1 hA1 (by omega) (by omega) (by omega) (by omega) (by omega)
  obtain ⟨m1,hm1⟩:∃ m,mvP c.F E s (b:Int)=m:=⟨_,rfl⟩
  have t1:=DW (F:=c.F) s0 s1 sE (b:Int)
  rw [hm1] at M1 t1
  have C:=DF m0.1 m0.2 m1.1 m1.2 t0.ok t1.ok t0.lz t1.lz
  rw [show Aw ps c.F c.R E y s=Dn m0 m1 by unfold Aw;rw [if_neg (by omega),if_neg (by omega),if_pos (by omega),ha0,ha1,hm0,hm1]]
  repeat' (with_reducible first|refine FG ?_|refine GK ?_|refine Gf ?_|refine GL ?_|(refine Tx 13 ?_;refine gO xM <| gO (xCc func220 M0 (args:=[_]) rfl) <| gO xM <| gO (xCc func220 M1 (args:=[_]) rfl) <| gO (xCl func152 (C)) <| gZ (xSk Aa) ?_))
  exact Cy
 ·
  obtain ⟨a,hA0,ha0,hl0⟩:=B.a0 (by omega)
  have hl0:=hl0 (by omega)
  have hL0:=(gS.1 hA0).1
  obtain ⟨b,hA1,ha1,hl1⟩:=B.a1 (by omega)
  have hL1:=(gS.1 hA1).1
  have M0:=Ej mk xd t u c E y s s0 s1 sE 0 hA0 (by omega) (by omega) (by omega) (by omega) (by omega)
  obtain ⟨m0,hm0⟩:∃ m,mvP c.F E s (a:Int)=m:=⟨_,rfl⟩
  have t0:=DW (F:=c.F) s0 s1 sE (a:Int)
  rw [hm0] at M0 t0
  have M1:=Ej mk xd t u c E y s s0 s1 sE 1 hA1 (by omega) (by omega) (by omega) (by omega) (by omega)
  obtain ⟨m1,hm1⟩:∃ m,mvP c.F E s (b:Int)=m:=⟨_,rfl⟩
  have t1:=DW (F:=c.F) s0 s1 sE (b:Int)
  rw [hm1] at M1 t1
  have C:=DF m0.1 m0.2 m1.1 m1.2 t0.ok t1.ok t0.lz t1.lz
  rw [show Aw ps c.F c.R E y s=Dn m0 m1 by unfold Aw;rw [if_neg (by omega),if_neg (by omega),if_pos (by omega),ha0,ha1,hm0,hm1]]
  repeat' (with_reducible first|refine FG ?_|refine GK ?_|refine Gf ?_|refine GL ?_|refine Hx ?_|(refine Tx 13 ?_;refine gO xM <| gO (xCc func220 M0 (args:=[_]) rfl) <| gO xM <| gO (xCc func220 M1 (args:=[_]) rfl) <| gO (xCl func152 (C)) <| gZ (xSk Aa) ?_))
  exact Cy
 ·
  obtain ⟨a,hA0,ha0,hl0⟩:=B.a0 (by omega)
  have hl0:=hl0 (by omega)
  have hL0:=(gS.1 hA0).1
  have M0:=Ej mk xd t u c E y s s0 s1 sE 0 hA0 (by omega) (by omega) (by omega) (by omega) (by omega)
  obtain ⟨m0,hm0⟩:∃ m,mvP c.F E s (a:Int)=m:=⟨_,rfl⟩
  have t0:=DW (F:=c.F) s0 s1 sE (a:Int)
  rw [hm0] at M0 t0
  rw [show Aw ps c.F c.R E y s=m0 by unfold Aw;rw [if_neg (by omega),if_neg (by omega),if_neg (by omega),if_pos (by omega),ha0,hm0]]
  repeat' (with_reducible first|refine FG ?_|refine GK ?_|refine Gf ?_|refine GL ?_|refine Hx ?_|(refine Tx 14 ?_;refine gO xEq <| gO xA ?_)|(refine Tx 16 ?_;refine gO xM <| gO (xCc func220 M0 (args:=[_]) rfl) <| gZ (xSk Aa) ?_))
  exact Cy
 ·
  obtain ⟨a,hA0,ha0,hl0⟩:=B.a0 (by omega)
  have hl0:=hl0 (by omega)
  have hL0:=(gS.1 hA0).1
  have hF0:=OT (F:=c.F) (k:=a) (by omega)
  have hr0:=hsa (by omega) a (gM hA0)
  rw [EK] at hr0
  have hv:=B.sv (by omega)
  have sv:=FB hv
  have hv2:=hv
  unfold DE at hv2
  have RV:=FZ y.vn y.ve hv
  have hEa:=XS (E:=E) (k:=a) (by omega)
  have se:=Df sE a
  obtain ⟨e,he⟩:∃ e,E[a]?.getD (0,0)=e:=⟨_,rfl⟩
  rw [he] at se hEa
  obtain ⟨r,hr⟩:∃ r,scA c.F a=r:=⟨_,rfl⟩
  rw [hr] at hF0 hr0
  obtain ⟨v,hvv⟩:∃ v,Ae y.vn 0 y.ve=v:=⟨_,rfl⟩
  rw [hvv] at RV sv
  have AB:=QP v.1 v.2 sv.ok sv.lz
  have sa:=sv.abs
  have MU:=Gx (FW v).1 (FW v).2 e.1 e.2 sa.ok se.ok sa.lz se.lz (lT (ed sa.d se.d) (by decide))
  have sm:=Sm.mul sa se (by decide)
  have ib:=IY (b:=decide (s - r+y.ve<0)) s0 s1
  have IX:=LI (decide (s - r+y.ve<0)) s
  have AD:=DF (CB (FW v) e).1 (CB (FW v) e).2 (ixP (decide (s - r+y.ve<0)) s).1 (ixP (decide (s - r+y.ve<0)) s).2 sm.ok ib.ok sm.lz ib.lz
  rw [show Aw ps c.F c.R E y s=Dn (CB (FW v) e) (ixP (decide (s - r+y.ve<0)) s) by unfold Aw;rw [if_neg (by omega),if_neg (by omega),if_neg (by omega),if_neg (by omega),if_neg (by omega),if_pos h,ha0,EK,GI,he,hr,hvv]]
  repeat' (with_reducible first|refine FG ?_|(refine Tx 1 ?_;refine gO xF <| gO xD <| gO xM <| gO (by first|exact xIr Ai (Dj hy)|exact xIr Ai (hEa)) <| gO xL <| gN (xAl Bt) <| gZ (xSk Bi) ?_)|(refine Tx 2 ?_;refine gO xF <| gO xD <| gO xM <| gO Anc <| gO xD <| gN (xAl CJ) <| gZ Ajf ?_)|refine Gf ?_|refine GL ?_|refine Hx ?_|(refine Tx 14 ?_;refine gO xEq <| gO xA ?_)|(refine Tx 15 ?_;refine gO xEq <| gO xA ?_)|(refine Tx 17 ?_;refine gO xEq <| gO xA ?_)|(refine Tx 18 ?_;refine gO xEq <| gO xA ?_)|(refine Tx 20 ?_;refine gO xEq <| gO xA ?_)|(refine AG (id:=21) 30 AV (by kernel_rfl) ?_;dsimp only [List.take,List.drop];refine gP xF <| gP xL <| gP (xCl func219 (RV)) <| gP (xCl func158 (AB)) <| gP xD <| gP xF <| gP xD <| gP Anf <| gP xD <| gP (xIr Af (hEa)) <| gP xL <| gP (xCl func157 (MU)) <| gP xM <| gP xD <| gP xF <| gP xD <| gP xF <| gP xD <| gP Anf <| gP xD <| gP Anc <| gP xD <| gP xSb <| gP xF <| gP xF <| gP xD <| gP xAd <| gP Ajj <| gP (xCc func221 IX (args:=[_]) rfl) <| gP (xCl func152 (AD)) ?_;refine Ke ?_;refine gZ (xSk Aa) ?_))
  exact Cy
 ·
  obtain ⟨a,hA0,ha0,hl0⟩:=B.a0 (by omega)
  have hl0:=hl0 (by omega)
  have hL0:=(gS.1 hA0).1
  obtain ⟨b,hA1,ha1,hl1⟩:=B.a1 (by omega)
  have hL1:=(gS.1 hA1).1
  have hF0:=OT (F:=c.F) (k:=a) (by omega)
  have hr0:=hsa (by omega) a (gM hA0)
  rw [EK] at hr0
  have hE0:=XS (E:=E) (k:=a) (by omega)
  have se0:=Df sE a
  obtain ⟨e0,he0⟩:∃ e,E[a]?.getD (0,0)=e:=⟨_,rfl⟩
  rw [he0] at se0 hE0
  obtain ⟨r0,hq0⟩:∃ r,scA c.F a=r:=⟨_,rfl⟩
  rw [hq0] at hF0 hr0
  have hI0:=Abu (R:=c.R) (k:=a) (by omega)
  have si0:=Bx sR a
  obtain ⟨P0,hP0⟩:∃ P,c.R[a]?.getD iZ=P:=⟨_,rfl⟩
  rw [hP0] at si0 hI0
  have MG0:=IV P0 (si0.more LBx LBx)
  have sg0:=IZ si0
  generalize hG0:FX P0=G0 at MG0 sg0
  have hF1:=OT (F:=c.F) (k:=b) (by omega)
  have hr1:=hsa (by omega) b (gM hA1)
  rw [EK] at hr1
  have hE1:=XS (E:=E) (k:=b) (by omega)
  have se1:=Df sE b
  obtain ⟨e1,he1⟩:∃ e,E[b]?.getD (0,0)=e:=⟨_,rfl⟩
  rw [he1] at se1 hE1
  obtain ⟨r1,hq1⟩:∃ r,scA c.F b=r:=⟨_,rfl⟩
  rw [hq1] at hF1 hr1
  have hI1:=Abu (R:=c.R) (k:=b) (by omega)
  have si1:=Bx sR b
  obtain ⟨P1,hP1⟩:∃ P,c.R[b]?.getD iZ=P:=⟨_,rfl⟩
  rw [hP1] at si1 hI1
  have MG1:=IV P1 (si1.more LBx LBx)
  have sg1:=IZ si1
  generalize hG1:FX P1=G1 at MG1 sg1
  have MA:=Gx G0.1 G0.2 e1.1 e1.2 sg0.ok se1.ok sg0.lz se1.lz (lT (ed sg0.d se1.d) (by decide))
  have sMA:=Sm.mul sg0 se1 (by decide)
  have MB:=Gx G1.1 G1.2 e0.1 e0.2 sg1.ok se0.ok sg1.lz se0.lz (lT (ed sg1.d se0.d) (by decide))
  have sMB:=Sm.mul sg1 se0 (by decide)
  have MC:=Gx e0.1 e0.2 e1.1 e1.2 se0.ok se1.ok se0.lz se1.lz (lT (ed se0.d se1.d) (by decide))
  have sMC:=Sm.mul se0 se1 (by decide)
  generalize hA:CB G0 e1=A at *
  generalize hB:CB G1 e0=Bq at *
  generalize hC:CB e0 e1=Cq at *
  have hAe:NP G0.1 G0.2 e1.1 e1.2=A:=hA
  have hBe:NP G1.1 G1.2 e0.1 e0.2=Bq:=hB
  have hCe:NP e0.1 e0.2 e1.1 e1.2=Cq:=hC
  rw [hAe] at MA sMA
  rw [hBe] at MB sMB
  rw [hCe] at MC sMC
  have D1:=DF A.1 A.2 Bq.1 Bq.2 sMA.ok sMB.ok sMA.lz sMB.lz
  have t1:Sm (Dn A Bq) 16385 8192:=Sm.sum sMA sMB (by decide)
  generalize hS:Dn A Bq=S1 at *
  have hSe:Ci A.1 A.2 Bq.1 Bq.2=S1:=hS
  rw [hSe] at D1
  have D2:=DF S1.1 S1.2 Cq.1 Cq.2 t1.ok sMC.ok t1.lz sMC.lz
  have t2:Sm (Dn S1 Cq) 24578 8192:=Sm.sum t1 (sMC.more (by decide) (by decide)) (by decide)
  generalize hT:Dn S1 Cq=S2 at *
  have hTe:Ci S1.1 S1.2 Cq.1 Cq.2=S2:=hT
  rw [hTe] at D2
  have ib:=IY (b:=decide (s - r0 - r1<0)) s0 s1
  have IX:=LI (decide (s - r0 - r1<0)) s
  have D3:=DF S2.1 S2.2 (ixP (decide (s - r0 - r1<0)) s).1 (ixP (decide (s - r0 - r1<0)) s).2 t2.ok ib.ok t2.lz ib.lz
  rw [show Aw ps c.F c.R E y s=Dn S2 (ixP (decide (s - r0 - r1<0)) s) by unfold Aw;rw [if_neg (by omega),if_neg (by omega),if_neg (by omega),if_neg (by omega),if_neg (by omega),if_neg (by omega),if_pos h,ha0,ha1,EK,EK,GI,GI,OB,OB,he0,he1,hq0,hq1,hP0,hP1,hG0,hG1,hA,hB,hC,hS,hT]]
  repeat' (with_reducible first|refine FG ?_|(refine Tx 1 ?_;refine gO xF <| gO xD <| gO xM <| gO (by first|exact xIr Ai (Dj hy)|exact xIr Ai (hE0)|exact xIr Ai (hE1)|exact xIr Ai (hI0)|exact xIr Ai (hI1)) <| gO xL <| gN (xAl Bt) <| gZ (xSk Bi) ?_)|(refine Tx 2 ?_;refine gO xF <| gO xD <| gO xM <| gO Ajg <| gO xD <| gN (xAl CJ) <| gZ Ajf ?_)|refine Gf ?_|refine GL ?_|refine Hx ?_|(refine Tx 14 ?_;refine gO xEq <| gO xA ?_)|(refine Tx 15 ?_;refine gO xEq <| gO xA ?_)|(refine Tx 17 ?_;refine gO xEq <| gO xA ?_)|(refine Tx 18 ?_;refine gO xEq <| gO xA ?_)|(refine Tx 20 ?_;refine gO xEq <| gO xA ?_)|(refine Tx 22 ?_;refine gO xEq <| gO xA ?_)|(refine Ca (id:=23) AV (by kernel_rfl) ?_;refine gP xF <| gP xD <| gP (by first|exact xIr Ad (AI hA0)|exact xIr Ad (hE0)|exact xIr Ad (hE1)|exact xIr Ad (hI0)|exact xIr Ad (hI1)) <| gP xD <| gP xF <| gP xD <| gP (by first|exact xIr Ad (AI hA1)|exact xIr Ad (hE0)|exact xIr Ad (hE1)|exact xIr Ad (hI0)|exact xIr Ad (hI1)) <| gP xD <| gP xA <| gP xA ?_;refine Ke ?_)|(refine AG (id:=24) 24 AV (by kernel_rfl) ?_;dsimp only [List.take,List.drop];refine gP xF <| gP xD <| gP xM <| gP Anb <| gP xL <| gP Ane <| gP xD <| gP xM <| gP Aem <| gP xL <| gP Ajh <| gP xF <| gP xD <| gP xM <| gP Anb <| gP xL <| gP Ane <| gP xD <| gP xM <| gP Aem <| gP xL <| gP Ajh <| gP Aji <| gQ (xAl Aj) ?_;refine Ke ?_;refine gZ (xSk Aa) ?_)|(refine AG (id:=25) 28 AV (by kernel_rfl) ?_;dsimp only [List.take,List.drop];refine gP xL <| gP xD <| gP xM <| gP Aem <| gP xL <| gP xD <| gP xM <| gP Aem <| gP xL <| gP Ajh <| gP Aji <| gP xM <| gP xD <| gP xF <| gP xD <| gP xM <| gP Ajg <| gP xD <| gP xSb <| gP xF <| gP xD <| gP xM <| gP Ajg <| gP xD <| gP xSb <| gP Ajj <| gP (xCc func221 IX (args:=[_]) rfl) <| gP Aji ?_;refine Ke ?_;refine gZ (xSk Aa) ?_))
  exact Cy
 ·
  obtain ⟨a,hA0,ha0,hl0⟩:=B.a0 (by omega)
  have hl0:=hl0 (by omega)
  have hL0:=(gS.1 hA0).1
  obtain ⟨b,hA1,ha1,hl1⟩:=B.a1 (by omega)
  have hL1:=(gS.1 hA1).1
  have M0:=Ej mk xd t u c E y s s0 s1 sE 0 hA0 (by omega) (by omega) (by omega) (by omega) (by omega)
  obtain ⟨m0,hm0⟩:∃ m,mvP c.F E s (a:Int)=m:=⟨_,rfl⟩
  have t0:=DW (F:=c.F) s0 s1 sE (a:Int)
  rw [hm0] at M0 t0
  have M1:=Ej mk xd t u c E y s s0 s1 sE 1 hA1 (by omega) (by omega) (by omega) (by omega) (by omega)
  obtain ⟨m1,hm1⟩:∃ m,mvP c.F E s (b:Int)=m:=⟨_,rfl⟩
  have t1:=DW (F:=c.F) s0 s1 sE (b:Int)
  rw [hm1] at M1 t1
  have C:=EY m0.1 m0.2 m1.1 m1.2 t0.ok t1.ok t0.lz t1.lz
  rw [show Aw ps c.F c.R E y s=Gz m0 m1 by unfold Aw;rw [if_neg (by omega),if_neg (by omega),if_neg (by omega),if_neg (by omega),if_pos (by omega),ha0,ha1,hm0,hm1]]
  repeat' (with_reducible first|refine FG ?_|refine GK ?_|refine Gf ?_|refine GL ?_|refine Hx ?_|(refine Tx 14 ?_;refine gO xEq <| gO xA ?_)|(refine Tx 15 ?_;refine gO xEq <| gO xA ?_)|(refine Tx 17 ?_;refine gO xEq <| gO xA ?_)|(refine Tx 19 ?_;refine gO xM <| gO (xCc func220 M0 (args:=[_]) rfl) <| gO xM <| gO (xCc func220 M1 (args:=[_]) rfl) <| gO (xCl func156 (C)) <| gZ (xSk Aa) ?_))
  exact Cy
 ·
  obtain ⟨a,hA0,ha0,hl0⟩:=B.a0 (by omega)
  have hl0:=hl0 (by omega)
  have hL0:=(gS.1 hA0).1
  obtain ⟨b,hA1,ha1,hl1⟩:=B.a1 (by omega)
  have hL1:=(gS.1 hA1).1
  have M0:=Ej mk xd t u c E y s s0 s1 sE 0 hA0 (by omega) (by omega) (by omega) (by omega) (by omega)
  obtain ⟨m0,hm0⟩:∃ m,mvP c.F E s (a:Int)=m:=⟨_,rfl⟩
  have t0:=DW (F:=c.F) s0 s1 sE (a:Int)
  rw [hm0] at M0 t0
  have M1:=Ej mk xd t u c E y s s0 s1 sE 1 hA1 (by omega) (by omega) (by omega) (by omega) (by omega)
  obtain ⟨m1,hm1⟩:∃ m,mvP c.F E s (b:Int)=m:=⟨_,rfl⟩
  have t1:=DW (F:=c.F) s0 s1 sE (b:Int)
  rw [hm1] at M1 t1
  have C:=EY m0.1 m0.2 m1.1 m1.2 t0.ok t1.ok t0.lz t1.lz
  rw [show Aw ps c.F c.R E y s=Gz m0 m1 by unfold Aw;rw [if_neg (by omega),if_neg (by omega),if_neg (by omega),if_neg (by omega),if_pos (by omega),ha0,ha1,hm0,hm1]]
  repeat' (with_reducible first|refine FG ?_|refine GK ?_|refine Gf ?_|refine GL ?_|refine Hx ?_|(refine Tx 14 ?_;refine gO xEq <| gO xA ?_)|(refine Tx 15 ?_;refine gO xEq <| gO xA ?_)|(refine Tx 17 ?_;refine gO xEq <| gO xA ?_)|(refine Tx 18 ?_;refine gO xEq <| gO xA ?_)|(refine Tx 19 ?_;refine gO xM <| gO (xCc func220 M0 (args:=[_]) rfl) <| gO xM <| gO (xCc func220 M1 (args:=[_]) rfl) <| gO (xCl func156 (C)) <| gZ (xSk Aa) ?_))
  exact Cy
 ·
  obtain ⟨a,hA0,ha0,hl0⟩:=B.a0 (by omega)
  have hl0:=hl0 (by omega)
  have hL0:=(gS.1 hA0).1
  have M0:=Ej mk xd t u c E y s s0 s1 sE 0 hA0 (by omega) (by omega) (by omega) (by omega) (by omega)
  obtain ⟨m0,hm0⟩:∃ m,mvP c.F E s (a:Int)=m:=⟨_,rfl⟩
  have t0:=DW (F:=c.F) s0 s1 sE (a:Int)
  rw [hm0] at M0 t0
  rw [show Aw ps c.F c.R E y s=m0 by unfold Aw;rw [if_neg (by omega),if_neg (by omega),if_neg (by omega),if_pos (by omega),ha0,hm0]]
  repeat' (with_reducible first|refine FG ?_|refine GK ?_|refine Gf ?_|refine GL ?_|refine Hx ?_|(refine Tx 14 ?_;refine gO xEq <| gO xA ?_)|(refine Tx 15 ?_;refine gO xEq <| gO xA ?_)|(refine Tx 16 ?_;refine gO xM <| gO (xCc func220 M0 (args:=[_]) rfl) <| gZ (xSk Aa) ?_))
  exact Cy
 ·
  obtain ⟨a,hA0,ha0,hl0⟩:=B.a0 (by omega)
  have hl0:=hl0 (by omega)
  have hL0:=(gS.1 hA0).1
  have M0:=Ej mk xd t u c E y s s0 s1 sE 0 hA0 (by omega) (by omega) (by omega) (by omega) (by omega)
  obtain ⟨m0,hm0⟩:∃ m,mvP c.F E s (a:Int)=m:=⟨_,rfl⟩
  have t0:=DW (F:=c.F) s0 s1 sE (a:Int)
  rw [hm0] at M0 t0
  have WH:=Hd y.vn y.ve s (B.sv (by omega)) s0 s1
  have WU:=Hd y.un y.ue s (B.su h) s0 s1
  have ib:=IY (b:=(!Bf y.vn y.ve s || !Bf y.un y.ue s)) s0 s1
  have IX:=LI (!Bf y.vn y.ve s || !Bf y.un y.ue s) s
  have C:=EY m0.1 m0.2 (ixP (!Bf y.vn y.ve s || !Bf y.un y.ue s) s).1 (ixP (!Bf y.vn y.ve s || !Bf y.un y.ue s) s).2 t0.ok ib.ok t0.lz ib.lz
  rw [show Aw ps c.F c.R E y s=Gz m0 (ixP (!Bf y.vn y.ve s || !Bf y.un y.ue s) s) by unfold Aw;rw [if_neg (by omega),if_neg (by omega),if_neg (by omega),if_neg (by omega),if_neg (by omega),if_neg (by omega),if_neg (by omega),if_pos h,ha0,hm0]]
  cases hw:Bf y.vn y.ve s
  case false =>
   rw [hw] at WH IX C
   simp only [dt,dr,fy,di] at IX C
   simp only [dt,dr,fy,di]
   repeat' (with_reducible first|refine FG ?_|refine GK ?_|refine Gf ?_|refine GL ?_|refine Hx ?_|(refine Tx 14 ?_;refine gO xEq <| gO xA ?_)|(refine Tx 15 ?_;refine gO xEq <| gO xA ?_)|(refine Tx 17 ?_;refine gO xEq <| gO xA ?_)|(refine Tx 18 ?_;refine gO xEq <| gO xA ?_)|(refine Tx 20 ?_;refine gO xEq <| gO xA ?_)|(refine Tx 22 ?_;refine gO xEq <| gO xA ?_)|(refine Tx 26 ?_;refine gO xEq <| gO xA ?_)|refine AfV ?_)
   exact Cy
  case true =>
   rw [hw] at WH IX C
   simp only [dt,dr,fy,di] at IX C
   simp only [dt,dr,fy,di]
   repeat' (with_reducible first|refine FG ?_|refine GK ?_|refine Gf ?_|refine GL ?_|refine Hx ?_|(refine Tx 14 ?_;refine gO xEq <| gO xA ?_)|(refine Tx 15 ?_;refine gO xEq <| gO xA ?_)|(refine Tx 17 ?_;refine gO xEq <| gO xA ?_)|(refine Tx 18 ?_;refine gO xEq <| gO xA ?_)|(refine Tx 20 ?_;refine gO xEq <| gO xA ?_)|(refine Tx 22 ?_;refine gO xEq <| gO xA ?_)|(refine Tx 26 ?_;refine gO xEq <| gO xA ?_)|refine AfV ?_)
   exact Cy
theorem vfit {M E:Pq} {f:Int}:Gd (Dn M E) f=decide (BI (Ae (Ci M.1 M.2 E.1 E.2).1 (Ci M.1 M.2 E.1 E.2).2 f).1 (Ae (Ci M.1 M.2 E.1 E.2).1 (Ci M.1 M.2 E.1 E.2).2 f).2 2147483647 0≤0):=rfl
theorem Abv (x:Pq) (sx:Sm x 40064 40000):CV prog Ah 182 [aDy false x.1 x.2] [aDy false (upQ x).1 (upQ x).2]:=by
 refine cvz func182 ntmps182 ?_
 have CE:=SR x.1 x.2 62 sx.ok sx.lz (by decide)
 repeat' (with_reducible first|refine qq ?_|(refine Tx 0 ?_;refine gN xBo <| gN (xAl Aj) ?_)|(refine Tx 1 ?_;refine gO xL <| gO (xCl func153 (CE)) <| gO xMt <| gO (by exact DB rfl rfl rfl) <| gO xEx <| gN (xAl Aj) <| gZ (xSk Aa) <| gO xA ?_)|(refine Tx 2 ?_;refine gO xL <| gZ (xSk Aa) ?_))
 exact Cy
theorem LZ (h:p:=by
 exact Ax rfl (.cons_ (DD rfl (rfl)) .nil_)):p:=h
theorem Ww (x:Pq) (sx:Sm x 41000 40000):CV prog Ah 183 [aDy false x.1 x.2] [aB (Acn x)]:=by
 refine cvz func183 ntmps183 ?_
 have OF:=Ff 1099511627776 (by decide) (by decide)
 have CM:=BZ x.1 x.2 1099511627776 0 sx.ok ⟨by decide,fun h=>absurd rfl h⟩ sx.lz (lT (AC (k:=2) (by decide)) (by decide))
 rw [show Acn x=decide (0<BI x.1 x.2 1099511627776 0) from rfl]
 generalize BI x.1 x.2 1099511627776 0=q at *
 repeat' (with_reducible first|refine qq ?_|(refine Tx 0 ?_;refine gN xBo <| gO xA ?_)|(refine Ca (id:=1) AV (by kernel_rfl) ?_;refine gP xL <| gP (xCl func68 (OF)) <| gP (xCl func15 (CM)) <| gP (by first|exact AeW rfl rfl rfl|exact xGt) <| gP xA ?_;refine Ke ?_))
 exact LZ
theorem Abw (k:p') (h:Hd9 p'→p:=by with_reducible first|(intro Z9;refine qq ?_;exact Z9.o)|(intro Z9;refine Tx 0 ?_;refine gN xBo <| gN xBo <| gO xA ?_;exact Z9.o)|(intro Z9;refine Tx 1 ?_;refine gO (xCl func68 (OF)) <| gN (xAl Aj) <| gZ (xSk Aa) ?_;exact Z9.o)|fail):p:=h ⟨k⟩
theorem AfW (k:p') (h:Hd9 p'→p:=by with_reducible first|(intro Z9;refine Tx 2 ?_;refine gO xF <| gO xD <| gO xM <| gO (by first|exact xIr Ad (AI hFi)|exact xIr Ad (hIi)|exact xIr Ad (hEi)) <| gO xD <| gO xA ?_;exact Z9.o)|(intro Z9;refine Ca (id:=3) AV (by kernel_rfl) ?_;refine gP xF <| gP xD <| gP xM <| gP (by first|exact xIr Ag (hIi)|exact xIr Ag (hEi)) <| gP xL <| gP (xCl func159 (MG)) <| gP xM <| gP xM <| gP (by first|exact xIr Af (hIi)|exact xIr Af (hEi)) <| gP xL <| gP (xCl func152 (AD1)) <| gP xM <| gP (xCl func21 (SH1)) <| gP xL <| gP (xCl func15 (CM1)) <| gP xGt ?_;refine Ke ?_;exact Z9.o)|fail):p:=h ⟨k⟩
theorem Ang (h:p:=by first|exact xIr Ag (hIi)|exact xIr Ag (hEi)|exact xIr Ag (hIa)|exact xIr Ag (hEa)):p:=h
theorem Anh (h:p:=by first|exact xIr Af (hIi)|exact xIr Af (hEi)|exact xIr Af (hIa)|exact xIr Af (hEa)):p:=h
theorem Ani (h:p:=by first|exact xCl func152 (AD1)|exact xCl func152 (AD2)):p:=h
theorem Anj (h:p:=by first|exact xCl func21 (SH1)|exact xCl func21 (SH2)):p:=h
theorem Ank (h:p:=by first|exact xCl func15 (CM1)|exact xCl func15 (CM2)):p:=h
theorem Abx (t u:Bool) {ps:List Prt} {bs:List Bk} (os:List Int) (c:Ct) (E:List Pq) (hE:E.length=bs.length) (sE:∀ p∈E,Sm p LB LB) (i:Nat) {y:Bk} (hy:bs[i]?=some y) (B:Aco ps bs.length y) (hF:c.F.length=bs.length) (hR:c.R.length=bs.length) (sR:∀ p∈c.R,IwS p LB LB) (hn:bs.length≤1000000) (hs2:0≤scA c.F i∧scA c.F i≤30):CV prog Ah 128 [aDg t ps bs os,.agg (dCt u c),.one (rowE E),aI (i:Int)] [aB (Rx c.F c.R E y i)]:=by
 refine cvz func128 ntmps128 ?_
 have hil:=(gS.1 hy).1
 have hFi:=OT (F:=c.F) (k:=i) (by omega)
 obtain ⟨s,hs⟩:∃ s,scA c.F i=s:=⟨_,rfl⟩
 rw [hs] at hFi
 have hBl:=B.len
 rw [hs] at hs2
 have hil2:i<c.R.length:=by omega
 have hIi:=Abu hil2
 have hEi:=XS (E:=E) (k:=i) (by omega)
 have si:=Bx sR i
 have se:=Df sE i
 obtain ⟨P,hP⟩:∃ P,c.R[i]?.getD iZ=P:=⟨_,rfl⟩
 obtain ⟨e,he⟩:∃ e,E[i]?.getD (0,0)=e:=⟨_,rfl⟩
 rw [hP] at si hIi
 rw [he] at se hEi
 have MG:=IV P (si.more LBx LBx)
 have sg:=IZ si
 obtain ⟨M,hM⟩:∃ M,FX P=M:=⟨_,rfl⟩
 rw [hM] at MG sg
 have OF:=Ff 2147483647 (by decide) (by decide)
 have AD1:=DF M.1 M.2 e.1 e.2 sg.ok se.ok sg.lz se.lz
 have ss1:=Sm.sum sg se (by decide)
 obtain ⟨S1,hS1⟩:∃ S,Ci M.1 M.2 e.1 e.2=S:=⟨_,rfl⟩
 rw [hS1] at AD1 ss1
 have SH1:=BH S1.1 S1.2 s ss1.ok ss1.lz (by have:=ss1.ok.1;omega)
 have st1:=FE ss1 hs2.1 hs2.2
 obtain ⟨T1,hT1⟩:∃ T,Ae S1.1 S1.2 s=T:=⟨_,rfl⟩
 rw [show DP S1 s=T1 from hT1] at st1
 rw [hT1] at SH1
 have CM1:=BZ T1.1 T1.2 2147483647 0 st1.ok ⟨by decide,fun h=>absurd rfl h⟩ st1.lz (lT (AC (k:=2) (by decide)) (by decide))
 have sb1:Gd (Dn M e) s=decide (BI T1.1 T1.2 2147483647 0≤0):=by rw [vfit,hS1,hT1]
 generalize BI T1.1 T1.2 2147483647 0=q1 at *
 have hb:Rx c.F c.R E y i=(decide (q1≤0) && (!decide (y.kind=11) || Gd (Dn (rG c.R (Cp y)).2 (eG E (Cp y))) s)):=by unfold Rx;rw [hs,hP,he,hM,sb1]
 rw [hb]
 by_cases c1:q1≤0
 case neg =>
  rw [decide_eq_false c1,fw]
  repeat' (with_reducible first|refine Abw ?_|refine AfW ?_|(refine Tx 4 ?_;refine gO xA ?_))
  exact LZ
 rw [decide_eq_true c1,em]
 by_cases k11:y.kind=11
 case neg =>
  rw [decide_eq_false k11,dt,fy]
  repeat' (with_reducible first|refine Abw ?_|refine AfW ?_|(refine Tx 5 ?_;refine gO xF <| gO xD <| gO xM <| gO (by first|exact xIr Ai (Dj hy)|exact xIr Ai (hIi)|exact xIr Ai (hEi)) <| gO xL <| gN (xAl Bt) <| gZ (xSk Bi) ?_)|(refine Tx 6 ?_;refine gO xF <| gO xD <| gO xNe ?_)|(refine Tx 7 ?_;refine gO xA ?_))
  exact LZ
 rw [decide_eq_true k11,dr,di]
 obtain ⟨a,hA0,ha0,hl0⟩:=B.a0 (by omega)
 have hl0:=hl0 (by omega)
 have hL0:=(gS.1 hA0).1
 rw [ha0,OB,GI]
 have hIa:=Abu (R:=c.R) (k:=a) (by omega)
 have hEa:=XS (E:=E) (k:=a) (by omega)
 have sj:=Bx sR a
 have sf:=Df sE a
 obtain ⟨Q,hQ⟩:∃ Q,c.R[a]?.getD iZ=Q:=⟨_,rfl⟩
 obtain ⟨f,hf⟩:∃ f,E[a]?.getD (0,0)=f:=⟨_,rfl⟩
 rw [hQ] at sj hIa
 rw [hf] at sf hEa
 rw [hQ,hf]
 have sq:=sj.s2
 have AD2:=DF Q.2.1 Q.2.2 f.1 f.2 sq.ok sf.ok sq.lz sf.lz
 have ss2:=Sm.sum sq sf (by decide)
 obtain ⟨S2,hS2⟩:∃ S,Ci Q.2.1 Q.2.2 f.1 f.2=S:=⟨_,rfl⟩
 rw [hS2] at AD2 ss2
 have SH2:=BH S2.1 S2.2 s ss2.ok ss2.lz (by have:=ss2.ok.1;omega)
 have st2:=FE ss2 hs2.1 hs2.2
 obtain ⟨T2,hT2⟩:∃ T,Ae S2.1 S2.2 s=T:=⟨_,rfl⟩
 rw [show DP S2 s=T2 from hT2] at st2
 rw [hT2] at SH2
 have CM2:=BZ T2.1 T2.2 2147483647 0 st2.ok ⟨by decide,fun h=>absurd rfl h⟩ st2.lz (lT (AC (k:=2) (by decide)) (by decide))
 have sb2:Gd (Dn Q.2 f) s=decide (BI T2.1 T2.2 2147483647 0≤0):=by rw [vfit,hS2,hT2]
 generalize BI T2.1 T2.2 2147483647 0=q2 at *
 rw [sb2]
 repeat' (with_reducible first|refine Abw ?_|(refine Tx 2 ?_;refine gO xF <| gO xD <| gO xM <| gO (by first|exact xIr Ad (AI hFi)|exact xIr Ad (hIi)|exact xIr Ad (hEi)|exact xIr Ad (hIa)|exact xIr Ad (hEa)) <| gO xD <| gO xA ?_)|(refine Ca (id:=3) AV (by kernel_rfl) ?_;refine gP xF <| gP xD <| gP xM <| gP Ang <| gP xL <| gP (xCl func159 (MG)) <| gP xM <| gP xM <| gP Anh <| gP xL <| gP Ani <| gP xM <| gP Anj <| gP xL <| gP Ank <| gP xGt ?_;refine Ke ?_)|(refine Tx 5 ?_;refine gO xF <| gO xD <| gO xM <| gO (by first|exact xIr Ai (Dj hy)|exact xIr Ai (hIi)|exact xIr Ai (hEi)|exact xIr Ai (hIa)|exact xIr Ai (hEa)) <| gO xL <| gN (xAl Bt) <| gZ (xSk Bi) ?_)|(refine Tx 6 ?_;refine gO xF <| gO xD <| gO xNe ?_)|(refine Tx 8 ?_;refine gO xF <| gO xD <| gO (by first|exact xIr Ad (hIi)|exact xIr Ad (hEi)|exact xIr Ad (AI hA0)|exact xIr Ad (hIa)|exact xIr Ad (hEa)) <| gO xD <| gO xA ?_)|(refine Ca (id:=9) AV (by kernel_rfl) ?_;refine gP xF <| gP xD <| gP xM <| gP Ang <| gP xF <| gP xL <| gP xM <| gP xM <| gP Anh <| gP xL <| gP Ani <| gP xM <| gP Anj <| gP xL <| gP Ank <| gP xLe <| gP xA ?_;refine Ke ?_))
 exact LZ
theorem Tn (k:p') (h:Hd9 p'→p:=by with_reducible first|(intro Z9;refine qq ?_;exact Z9.o)|(intro Z9;refine Tx 0 ?_;refine gN xBo <| gN xBo <| gO xA ?_;exact Z9.o)|(intro Z9;refine Tx 1 ?_;refine gO xL <| gO xL <| gO xM <| gO (xCl func125 (S1)) <| gO DX <| gO xA ?_;exact Z9.o)|fail):p:=h ⟨k⟩
theorem Wx (k:p') (h:Hd9 p'→p:=by with_reducible first|(intro Z9;refine Tx 3 ?_;refine gO xL <| gO xL <| gO xM <| gO (xCl func126 (S2)) <| gO DX <| gO xA ?_;exact Z9.o)|fail):p:=h ⟨k⟩
theorem Aby (k:p') (h:Hd9 p'→p:=by with_reducible first|(intro Z9;refine Ca (id:=5) AV (by kernel_rfl) ?_;refine gP xF <| gP xD <| gP xM <| gP (xIr Af (hEi)) <| gP xL <| gP xL <| gP xL <| gP xF <| gP xD <| gP xM <| gP (xCl func127 (BD)) <| gP (xCl func15 (CM)) <| gP xLt <| gP xA ?_;refine Ke ?_;exact Z9.o)|fail):p:=h ⟨k⟩
theorem PZ (h:p:=by
 exact Ax rfl (.cons_ (Qu rfl rfl) .nil_)):p:=h
theorem XT (t u:Bool) {ps:List Prt} {bs:List Bk} (os:List Int) (c:Ct) (i:Nat) {y:Bk} (hy:bs[i]?=some y) (B:Aco ps bs.length y) (ok:Aph bs c) (hn:bs.length≤1000000) (hpn:ps.length≤1000000):CV prog Ah 50 [aDg t ps bs os,.agg (dCt u c),aI (i:Int)] [aI (FY ps bs c i)]:=by
 refine cvz func50 ntmps50 ?_
 have hA:=Ij hy
 have hil:=(gS.1 hy).1
 have S1:=UO t u os c i hy B ok.lF hn hpn
 have S2:=UQ t u os c i hy B ok.lR ok.sR hn hpn
 unfold FY
 rw [hA]
 dsimp only
 cases h1:Ef ps c.F y i
 case false =>
  rw [h1] at S1
  rw [if_pos rfl]
  repeat' (with_reducible first|refine Tn ?_|(refine Tx 2 ?_;refine gO xA ?_))
  exact PZ
 rw [h1] at S1
 rw [if_neg (by decide)]
 have h1s:=h1
 unfold Ef at h1s
 rw [ai,ai] at h1s
 have hs2:0≤scA c.F i∧scA c.F i≤30:=of_decide_eq_true h1s.1
 have hsa:y.kind≠0→∀ a∈y.args,0≤sG c.F a∧sG c.F a≤30:=fun k0 a ha=>by
   have h2:=h1s.2.1
   rw [decide_eq_false k0,di] at h2
   exact of_decide_eq_true (List.all_eq_true.1 h2 a ha)
 cases h2:CS ps c.R y i
 case false =>
  rw [h2] at S2
  rw [if_pos rfl]
  repeat' (with_reducible first|refine Tn ?_|refine Wx ?_|(refine Tx 4 ?_;refine gO xA ?_))
  exact PZ
 rw [h2] at S2
 rw [if_neg (by decide)]
 have BD:=LJ false (rowE c.E) t u os c c.E ok.lE ok.sE i hy B ok.lF ok.lR ok.sR hn hpn hs2 hsa
 have sb:=MQ (ps:=ps) (F:=c.F) (y:=y) hs2.1 hs2.2 ok.sR ok.sE (fun h6=>B.sv (by omega))
 have se:=Df ok.sE i
 have hEi:=XS (E:=c.E) (k:=i) (by have:=ok.lE;omega)
 have hlE:=ok.lE
 obtain ⟨e,he⟩:∃ e,c.E[i]?.getD (0,0)=e:=⟨_,rfl⟩
 rw [he] at se hEi
 rw [he]
 generalize Aw ps c.F c.R c.E y (scA c.F i)=b at *
 have CM:=BZ e.1 e.2 b.1 b.2 se.ok sb.ok se.lz sb.lz
 rw [show Ir e b=BI e.1 e.2 b.1 b.2 from rfl]
 generalize BI e.1 e.2 b.1 b.2=q at *
 have FT:=Abx t u os c c.E ok.lE ok.sE i hy B ok.lF ok.lR ok.sR hn hs2
 by_cases h3:q<0
 case pos =>
  rw [if_pos h3]
  repeat' (with_reducible first|refine Tn ?_|refine Wx ?_|refine Aby ?_|(refine Tx 6 ?_;refine gO xA ?_))
  exact PZ
 rw [if_neg h3]
 cases h4:Rx c.F c.R c.E y i
 case false =>
  rw [h4] at FT
  rw [if_pos rfl]
  repeat' (with_reducible first|refine Tn ?_|refine Wx ?_|refine Aby ?_|(refine Tx 7 ?_;refine gO xL <| gO xL <| gO xF <| gO xD <| gO xM <| gO (xCl func128 (FT)) <| gO DX <| gO xA ?_)|(refine Tx 8 ?_;refine gO xA ?_))
  exact PZ
 rw [h4] at FT
 rw [if_neg (by decide)]
 repeat' (with_reducible first|refine Tn ?_|refine Wx ?_|refine Aby ?_|(refine Tx 7 ?_;refine gO xL <| gO xL <| gO xF <| gO xD <| gO xM <| gO (xCl func128 (FT)) <| gO DX <| gO xA ?_)|(refine Tx 9 ?_;refine gO xA ?_))
 exact PZ
section
variable {a b c e:Iq} {n d:Nat}
theorem Tp {x y:Int} (h:x*2 ^ GQ≤y*2 ^ GQ):x≤y:=Int.le_of_mul_le_mul_right h (Be GQ)
end
theorem Anl {x:Pq} (hx:x.2≤GQ) (h:0≤gv x):0≤gv (upQ x):=Int.le_trans h (AfQ hx).1
theorem Anm {b:Bool} {s:Int}:0≤gv (ixP b s):=by
 unfold ixP
 split
 ·rename_i h
  by_cases hs : -65536 ≤ -s ∧ -s≤65536
  ·rw [Mh hs.1 hs.2];exact bf (Be _)
  ·unfold pw Ae
   unfold gv
   refine gu ?_ (bf (Be _))
   have key:∀ (d:Nat) (m:Int),0≤m→0≤(nf m d).1:=fun d=>by
    induction d with
    | zero=>exact fun m h=>h
    | succ d ih =>
     intro m h
     unfold nf
     split
     ·exact ih _ (by omega)
     ·exact h
   split
   ·exact key _ _ (by decide)
   ·exact key _ _ (by have:=Be (max (-65536) (min (-s) 65536)).toNat;omega)
 ·exact Int.le_of_eq FV.symm
section
variable {ps:List Prt} {bs:List Bk} {os:List Int} {F:List Int} {R:List Iq} {E E':List Pq} {y:Bk} {s:Int}
structure InE (E' E:List Pq):Prop where
 lo:∀ k:Nat,0≤gv (E'[k]?.getD (0,0))
 le:∀ k:Nat,gv (E'[k]?.getD (0,0))≤gv (E[k]?.getD (0,0))
theorem Ajk (h0:0≤s) (h1:s≤30) (hE:∀ p∈E,Sm p LB LB) (hE':∀ p∈E',Sm p LB LB) (h:InE E' E) (a:Int):0≤gv (mvP F E' s a)∧gv (mvP F E' s a)≤gv (mvP F E s a):=by
 have l:=h.lo a.toNat
 have g:=h.le a.toNat
 unfold mvP
 split
 ·exact ⟨l,g⟩
 ·rw [show gv (Dn (eG E' a) (pw (-s)))=_ from Fx (ER hE' a).le (Tm h0 h1).le,show gv (Dn (eG E a) (pw (-s)))=_ from Fx (ER hE a).le (Tm h0 h1).le]
  have:=Api h0 h1
  have:=Be (65536 - s.toNat)
  unfold eG
  omega
theorem Io {p q p' q':Pq} (h:p.2+q.2≤GQ) (h':p'.2+q'.2≤GQ) (p0:0≤gv p') (q0:0≤gv q') (hp:gv p'≤gv p) (hq:gv q'≤gv q):0≤gv (CB p' q')∧gv (CB p' q')≤gv (CB p q):=by
 have e:=Aaw h
 have e':=Aaw h'
 have m1:gv p'*gv q'≤gv p*gv q:=Int.mul_le_mul hp hq q0 (Int.le_trans p0 hp)
 have m0:0≤gv p'*gv q':=gu p0 q0
 refine ⟨?_,Tp (by rw [show gv (CB p' q')*2 ^ GQ=_ from e',show gv (CB p q)*2 ^ GQ=_ from e];exact m1)⟩
 refine Tp ?_
 rw [Int.zero_mul,show gv (CB p' q')*2 ^ GQ=_ from e']
 exact m0
theorem Ajl {a:Iq} {d:Nat} (h:IwS a n d):0≤gv (FX a):=by
 unfold FX
 rw [(Aay h).2]
 omega
theorem Qa (h0:0≤s) (h1:s≤30) (hR:∀ p∈R,IwS p LB LB) (hE:∀ p∈E,Sm p LB LB) (hE':∀ p∈E',Sm p LB LB) (hv:y.kind=6→DE y.vn y.ve) (h:InE E' E):0≤gv (Aw ps F R E' y s)∧gv (Aw ps F R E' y s)≤gv (Aw ps F R E y s):=by
 have mv:=fun a=>Ajk (F:=F) h0 h1 hE hE' h a
 have sE:=fun a=>DW (F:=F) h0 h1 hE a
 have sE':=fun a=>DW (F:=F) h0 h1 hE' a
 have ix:∀ b,(ixP b s).2≤GQ:=fun b=>(IY h0 h1).le
 have ip:∀ b,0≤gv (ixP b s):=fun b=>Anm
 unfold Aw
 split
 ·exact ⟨ip _,dc _⟩
 split
 ·exact ⟨ip _,dc _⟩
 split
 ·rw [show gv (Dn (mvP F E' s (Cp y)) (mvP F E' s (EN y)))=_ from Fx (sE' _).le (sE' _).le,show gv (Dn (mvP F E s (Cp y)) (mvP F E s (EN y)))=_ from Fx (sE _).le (sE _).le]
  have:=mv (Cp y);have:=mv (EN y)
  omega
 split
 ·exact mv _
 split
 ·rw [show gv (Gz (mvP F E' s (Cp y)) (mvP F E' s (EN y)))=_ from Fy (sE' _).le (sE' _).le,show gv (Gz (mvP F E s (Cp y)) (mvP F E s (EN y)))=_ from Fy (sE _).le (sE _).le]
  have:=mv (Cp y);have:=mv (EN y)
  omega
 split
 ·next h6 =>
  have sv:=(FB (hv h6)).abs
  have m:=Io (p:=FW (Ae y.vn 0 y.ve)) (p':=FW (Ae y.vn 0 y.ve)) (q:=eG E (Cp y)) (q':=eG E' (Cp y)) (lT (ed sv.d (ER hE _).d) (by decide)) (lT (ed sv.d (ER hE' _).d) (by decide)) (by rw [Oe];omega) (h.lo _) (dc _) (h.le _)
  have q1:(CB (FW (Ae y.vn 0 y.ve)) (eG E (Cp y))).2≤GQ:=(Sm.mul sv (ER hE _) (by decide)).le
  have q2:(CB (FW (Ae y.vn 0 y.ve)) (eG E' (Cp y))).2≤GQ:=(Sm.mul sv (ER hE' _) (by decide)).le
  rw [show gv (Dn (CB (FW (Ae y.vn 0 y.ve)) (eG E' (Cp y))) _)=_ from Fx q2 (ix _),show gv (Dn (CB (FW (Ae y.vn 0 y.ve)) (eG E (Cp y))) _)=_ from Fx q1 (ix _)]
  have:=ip (decide (s - sG F (Cp y)+y.ve<0))
  omega
 split
 ·have sM:=fun a=>IZ (Ajc hR a)
  have pM:=fun a=>Ajl (Ajc hR a)
  have m1:∀ a b,0≤gv (CB (FX (rG R a)) (eG E' b))∧gv (CB (FX (rG R a)) (eG E' b))≤gv (CB (FX (rG R a)) (eG E b)):=fun a b=>Io (lT (ed (sM a).d (ER hE b).d) (by decide)) (lT (ed (sM a).d (ER hE' b).d) (by decide)) (pM a) (h.lo _) (dc _) (h.le _)
  have m2:∀ a b,0≤gv (CB (eG E' a) (eG E' b))∧gv (CB (eG E' a) (eG E' b))≤gv (CB (eG E a) (eG E b)):=fun a b=>Io (lT (ed (ER hE a).d (ER hE b).d) (by decide)) (lT (ed (ER hE' a).d (ER hE' b).d) (by decide)) (h.lo _) (h.lo _) (h.le _) (h.le _)
  have key:∀ E0:List Pq,(∀ p∈E0,Sm p LB LB)→gv (Dn (Dn (Dn (CB (FX (rG R (Cp y))) (eG E0 (EN y))) (CB (FX (rG R (EN y))) (eG E0 (Cp y)))) (CB (eG E0 (Cp y)) (eG E0 (EN y)))) (ixP (decide (s - sG F (Cp y) - sG F (EN y)<0)) s))=gv (CB (FX (rG R (Cp y))) (eG E0 (EN y)))+gv (CB (FX (rG R (EN y))) (eG E0 (Cp y)))+gv (CB (eG E0 (Cp y)) (eG E0 (EN y)))+gv (ixP (decide (s - sG F (Cp y) - sG F (EN y)<0)) s):=fun E0 h0=>by
   have a1:∀ a b,Sm (CB (FX (rG R a)) (eG E0 b)) 8192 8192:=fun a b=>Sm.mul (sM a) (ER h0 b) (by decide)
   have a2:∀ a b,Sm (CB (eG E0 a) (eG E0 b)) 8192 8192:=fun a b=>Sm.mul (ER h0 a) (ER h0 b) (by decide)
   have s1:=Sm.sum (a1 (Cp y) (EN y)) (a1 (EN y) (Cp y)) (by decide)
   have s2:=Sm.sum s1 ((a2 (Cp y) (EN y)).more (n':=16385) (d':=8192) (by decide) (by decide)) (by decide)
   rw [show gv (Dn (Dn (Dn (CB (FX (rG R (Cp y))) (eG E0 (EN y))) (CB (FX (rG R (EN y))) (eG E0 (Cp y)))) (CB (eG E0 (Cp y)) (eG E0 (EN y)))) _)=_ from Fx s2.le (ix _),show gv (Dn (Dn (CB (FX (rG R (Cp y))) (eG E0 (EN y))) (CB (FX (rG R (EN y))) (eG E0 (Cp y)))) (CB (eG E0 (Cp y)) (eG E0 (EN y))))=_ from Fx s1.le (a2 _ _).le,show gv (Dn (CB (FX (rG R (Cp y))) (eG E0 (EN y))) (CB (FX (rG R (EN y))) (eG E0 (Cp y))))=_ from Fx (a1 _ _).le (a1 _ _).le]
  rw [key E hE,key E' hE']
  have:=m1 (Cp y) (EN y);have:=m1 (EN y) (Cp y);have:=m2 (Cp y) (EN y);have:=ip (decide (s - sG F (Cp y) - sG F (EN y)<0))
  omega
 have mx:∀ b,gv (Gz (mvP F E' s (Cp y)) (ixP b s))=max (gv (mvP F E' s (Cp y))) (gv (ixP b s))∧gv (Gz (mvP F E s (Cp y)) (ixP b s))=max (gv (mvP F E s (Cp y))) (gv (ixP b s)):=fun b=>⟨Fy (sE' _).le (ix _),Fy (sE _).le (ix _)⟩
 split
 ·rw [(mx _).1,(mx _).2]
  have:=mv (Cp y);have:=ip (!Bf y.vn y.ve s || !Bf y.un y.ue s)
  omega
 ·rw [(mx _).1,(mx _).2]
  have:=mv (Cp y);have:=ip (!Bf y.vn y.ve s)
  omega
end
structure Tq (ps:List Prt) (bs:List Bk) (os:List Int) (c:Ct):Prop where
 he:Bc ps bs os=0
 ok:Aph bs c
 ver:∀ i,i<bs.length→FY ps bs c i=0
theorem Tq.parts {c:Ct} (h:Tq ps bs os c) {i:Nat} {y:Bk} (hy:bs[i]?=some y) :
  Ef ps c.F y i=true∧CS ps c.R y i=true∧gv (Aw ps c.F c.R c.E y (scA c.F i))≤gv (c.E[i]?.getD (0,0))∧Rx c.F c.R c.E y i=true∧0≤scA c.F i∧scA c.F i≤30:=by
 have h1:=h.ver i (gS.1 hy).1
 unfold FY at h1
 rw [Ij hy] at h1
 dsimp only at h1
 by_cases q1:Ef ps c.F y i=false
 ·rw [if_pos q1] at h1;cases h1
 rw [if_neg q1] at h1
 by_cases q2:CS ps c.R y i=false
 ·rw [if_pos q2] at h1;cases h1
 rw [if_neg q2] at h1
 by_cases q3:Ir (c.E[i]?.getD (0,0)) (Aw ps c.F c.R c.E y (scA c.F i))<0
 ·rw [if_pos q3] at h1;cases h1
 rw [if_neg q3] at h1
 by_cases q4:Rx c.F c.R c.E y i=false
 ·rw [if_pos q4] at h1;cases h1
 rw [ia] at q1 q2 q4
 have hs:frB (scA c.F i)=true:=by
  have:=q1
  unfold Ef at this
  exact (Bool.and_eq_true_iff.1 this).1
 have hs2:0≤scA c.F i∧scA c.F i≤30:=of_decide_eq_true hs
 have sb:=MQ (ps:=ps) (F:=c.F) (y:=y) hs2.1 hs2.2 h.ok.sR h.ok.sE (fun h6=>LQ h.he hy (by rw [h6];rfl))
 exact ⟨q1,q2,(Oh (Df h.ok.sE i).le sb.le).1 (Int.not_lt.1 q3),q4,hs2.1,hs2.2⟩
section
variable {ps:List Prt} {bs:List Bk} {os:List Int} {c:Ct}
theorem Abz (h:∀ p∈E,Sm p 128 62):∀ p∈E,Sm p LB LB:=fun p hp=>(h p hp).more (by decide) (by decide)
end
theorem Ga:∀ {l:List Int},(∀ x∈l,x=0)→Ap l=0
 | [],_=>rfl
 | x::l,h=>by
  unfold Ap
  rw [if_pos (h x (gz ..))]
  exact Ga fun y hy=>h y (fx _ hy)
section
variable {P:Program} {F:Frm} {H:List Ob}
theorem Apj {t:Tmp} {ty' k:Nat} {x y:Int} (hk:TyK P ty true k) (hi:2=k:=by rfl) (hF:F t=.one (.ref id 0 none):=by with_unfolding_all exact rfl) (hH:H[id]?=some (.box ty' [.d (.val (.int .i64 x)),.d (.val (.int .i64 y))]):=by with_unfolding_all exact rfl):RV P F H (.cell t ty) (.agg [dI x,dI y]):=by
 obtain ⟨⟨dd,hu,hd⟩,hz⟩:=hk
 exact .cellA hF hH hu hd (by rw [hz,←hi];rfl) (.cons_ (.d fun _=>.val _) (.cons_ (.d fun _=>.val _) .nil_))
end
def dCr (u:Bool) (F:List Int) (qs:List (Rv × Rv)) (rs:List Rv):List D:=[Bd u F,Wp qs,AjP rs]
def Mj (q:Rv × Rv) (r:Rv):Int:=if ivC q=false∨vdB r.rw=false∨sgI (rvP r).1<0 then 2 else if Dm (rvP r)=true∨Dm (rvP q.1)=true∨Dm (rvP q.2)=true then 4 else 0
def ckL (qs:List (Rv × Rv)) (rs:List Rv):Int:=Ap (List.zipWith Mj qs rs)
def ckE (ps:List Prt) (bs:List Bk) (os:List Int) (F:List Int) (qs:List (Rv × Rv)) (rs:List Rv):Int :=
 if Bc ps bs os≠0 then Bc ps bs os else if F.length=bs.length∧qs.length=bs.length∧rs.length=bs.length then ckL qs rs else 11
def AbA (F:List Int) (qs:List (Rv × Rv)) (rs:List Rv):Ct:=⟨F,qs.map ivQ,rs.map rvP⟩
theorem Wy {k:Nat} {q:Rv × Rv} (h1:qs[k]?=some q) (h2:rs[k]?=some r):(List.zipWith Mj qs rs)[k]?=some (Mj q r):=by rw [List.getElem?_zipWith,h1,h2]
theorem Ann {k:Nat} {q:Rv × Rv} (h:∀ j x,j<k→(List.zipWith Mj qs rs)[j]?=some x→x=0) (h1:qs[k]?=some q) (h2:rs[k]?=some r) (h0:Mj q r≠0):ckL qs rs=Mj q r:=Uw h (Wy h1 h2) h0
theorem Aen (hr:RvL r) (hv:vdB r.rw=true):dRv false r=dyP (rvP r)∧Nf (rvP r).1 (rvP r).2∧(Ab (rvP r).1.natAbs).length≤40000:=by
 obtain ⟨a,b,c⟩:=Uv (t:=false) hr.1 hv
 exact ⟨a,b,by rw [show (rvP r).1=r.rw.x from rfl,c];exact hr.2⟩
theorem Ano (hq:∀ q∈qs,RvL q.1∧RvL q.2) (hr:∀ r∈rs,RvL r) (h:ckE ps bs os F qs rs=0):Bc ps bs os=0∧Aph bs (AbA F qs rs)∧dCr false F qs rs=dCt false (AbA F qs rs)∧(∀ q∈qs,ivC q=true)∧(∀ r∈rs,vdB r.rw=true):=by
 unfold ckE at h
 by_cases h0:Bc ps bs os=0
 case neg=>rw [if_pos h0] at h;exact absurd h h0
 rw [if_neg (not_not_intro h0)] at h
 by_cases hl:F.length=bs.length∧qs.length=bs.length∧rs.length=bs.length
 case neg=>rw [if_neg hl] at h;cases h
 rw [if_pos hl] at h
 obtain ⟨l1,l2,l3⟩:=hl
 have hz:=CU h
 have key:∀ (k:Nat) (q:Rv × Rv) (r:Rv),qs[k]?=some q→rs[k]?=some r→ivC q=true∧vdB r.rw=true∧0≤sgI (rvP r).1∧Dm (rvP r)=false∧Dm (rvP q.1)=false∧Dm (rvP q.2)=false:=fun k q r h1 h2=>by
  have h3:=hz _ (gM (Wy h1 h2))
  unfold Mj at h3
  by_cases c1:ivC q=false∨vdB r.rw=false∨sgI (rvP r).1<0
  ·rw [if_pos c1] at h3;cases h3
  rw [if_neg c1] at h3
  by_cases c2:Dm (rvP r)=true∨Dm (rvP q.1)=true∨Dm (rvP q.2)=true
  ·rw [if_pos c2] at h3;cases h3
  simp only [not_or,ia,aw,Int.not_lt] at c1 c2
  exact ⟨c1.1,c1.2.1,c1.2.2,c2.1,c2.2.1,c2.2.2⟩
 have kq:∀ q∈qs,∃r,r∈rs∧ivC q=true∧Dm (rvP q.1)=false∧Dm (rvP q.2)=false:=fun q hm=>by
  obtain ⟨k,hk⟩:=fe hm
  obtain ⟨r,hr⟩:∃ r,rs[k]?=some r:=⟨_,gE (by have:=(gS.1 hk).1;omega)⟩
  have:=key k q r hk hr
  exact ⟨r,gM hr,this.1,this.2.2.2.2.1,this.2.2.2.2.2⟩
 have kr:∀ r∈rs,vdB r.rw=true∧0≤sgI (rvP r).1∧Dm (rvP r)=false:=fun r hm=>by
  obtain ⟨k,hk⟩:=fe hm
  obtain ⟨q,hq⟩:∃ q,qs[k]?=some q:=⟨_,gE (by have:=(gS.1 hk).1;omega)⟩
  have:=key k q r hq hk
  exact ⟨this.2.1,this.2.2.1,this.2.2.2.1⟩
 refine ⟨h0,⟨l1,by show (qs.map ivQ).length=_;rw [af];exact l2,by show (rs.map rvP).length=_;rw [af];exact l3,fun p hp=>?_,fun p hp=>?_,fun p hp=>?_⟩,?_,fun q hm=>(kq q hm).choose_spec.2.1,fun r hm=>(kr r hm).1⟩
 ·obtain ⟨q,hm,rfl⟩:=List.mem_map.1 hp
  obtain ⟨_,_,v,g1,g2⟩:=kq q hm
  exact PH (PI (hq q hm).1 (hq q hm).2 v).1 (by unfold Gm;rw [show Dm (ivQ q).1=false from g1,show Dm (ivQ q).2=false from g2];rfl)
 ·obtain ⟨r,hm,rfl⟩:=List.mem_map.1 hp
  obtain ⟨v,_,g⟩:=kr r hm
  exact AiD (Aen (hr r hm) v).2.1 g
 ·obtain ⟨r,hm,rfl⟩:=List.mem_map.1 hp
  obtain ⟨_,g,_⟩:=kr r hm
  have hx:0≤(rvP r).1:=cm fun hn=>by rw [show sgI (rvP r).1 = -1 by unfold sgI;(repeat' split) <;> omega] at g;omega
  exact gu hx (bf (Be _))
 ·unfold dCr dCt AbA Wp AjP
  have e1:Av (dIr false) qs=Av (dIw false) (qs.map ivQ):=by
   unfold Av
   rw [dj]
   congr 1
   exact fh fun q hm=>by
    obtain ⟨_,_,v,_⟩:=kq q hm
    exact (PI (hq q hm).1 (hq q hm).2 v).2.1
  have e2:Av (dRv false) rs=Av dyP (rs.map rvP):=by
   unfold Av
   rw [dj]
   congr 1
   exact fh fun r hm=>(Aen (hr r hm) (kr r hm).1).1
  rw [e1,e2]
  simp only [af]
def vfK (ps:List Prt) (bs:List Bk) (c:Ct):Option Nat:=(List.range bs.length).find? fun i=>decide (FY ps bs c i≠0)
def vfF (ps:List Prt) (bs:List Bk) (c:Ct):Int × Int:=match vfK ps bs c with
 | none=>(0,0)
 | some i=>(FY ps bs c i,(i:Int))
theorem UR {c:Ct}:vfK ps bs c=none ↔ ∀ i,i<bs.length→FY ps bs c i=0:=by
 unfold vfK
 rw [List.find?_eq_none]
 simp
theorem AbB {c:Ct} {k:Nat} (hk:k<bs.length) (h:∀ i,i<k→FY ps bs c i=0) (h0:FY ps bs c k≠0):vfK ps bs c=some k:=by
 unfold vfK
 rw [List.find?_range_eq_some]
 exact ⟨by simpa using h0,List.mem_range.2 hk,fun j hj=>by simp [h j hj]⟩
def vfE (ps:List Prt) (bs:List Bk) (os F:List Int) (qs:List (Rv × Rv)) (rs:List Rv):Bool:=decide (ckE ps bs os F qs rs=0) && (vfK ps bs (AbA F qs rs)).isNone
def vfP (ps:List Prt) (bs:List Bk) (os F:List Int) (qs:List (Rv × Rv)) (rs:List Rv):Int × Int:=if ckE ps bs os F qs rs=0 then vfF ps bs (AbA F qs rs) else (0,0)
theorem Ajm (hq:∀ q∈qs,RvL q.1∧RvL q.2) (hr:∀ r∈rs,RvL r) (h:vfE ps bs os F qs rs=true):Tq ps bs os (AbA F qs rs):=by
 unfold vfE at h
 rw [ai,decide_eq_true_eq,Option.isNone_iff_eq_none] at h
 obtain ⟨a,b,_⟩:=Ano hq hr h.1
 exact ⟨a,b,UR.1 h.2⟩
theorem OD (x:Pq) (n1:Nf x.1 x.2) (l1:(Ab x.1.natAbs).length≤40000):CV prog Ah 124 [aDy false x.1 x.2] [aB (Dm x)]:=by
 refine cvz func124 ntmps124 ?_
 have B1:=ME x.1 x.2 n1 l1
 have hm:decide ((4096:Int)<max ((Bl x.1.natAbs:Nat):Int) (x.2:Int))=Dm x:=by unfold Dm SF;rw [Bool.eq_iff_iff,decide_eq_true_eq,decide_eq_true_eq];omega
 repeat' (with_reducible first|refine qq ?_|(refine Tx 0 ?_;refine gN xBo <| gO xA ?_)|(refine Ca (id:=1) AV (by kernel_rfl) ?_;refine gP xL <| gP (xCl func212 (B1)) <| gP xF <| gP xD <| gP (by exact HW rfl rfl rfl) <| gP (by first|exact Qt rfl rfl rfl hm|exact xGt) <| gP xA ?_;refine Ke ?_))
 exact LZ
theorem Tr (k:p') (h:Hd9 p'→p:=by with_reducible first|(intro Z9;refine Tx 0 ?_;refine gN xBo <| gN xBo <| gO xA ?_;exact Z9.o)|(intro Z9;refine Tx 1 ?_;refine gO xL <| gO (xCl func35 (CK)) <| gO xA ?_;exact Z9.o)|fail):p:=h ⟨k⟩
theorem Wz (k:p') (h:Hd9 p'→p:=by with_reducible first|(intro Z9;refine Tx 2 ?_;refine gO xM <| gO (xNE Al) ?_;exact Z9.o)|(intro Z9;refine Tx 4 ?_;refine gO xF <| gO xD <| gO xN <| gO xA ?_;exact Z9.o)|(intro Z9;refine Tx 5 ?_;refine gO xF <| gO xD <| gO xN <| gO xM <| gO xNe <| gO xM ?_;(first|iterate 5 refine Jd ?_|(refine Jy (xFa Qq BS) ?_;refine Jy (xLd BS) ?_;refine Jy (xLn Ag) ?_;refine Jy xM1 ?_;refine Jy xNe ?_));refine gO xPk <| gO xM ?_;(first|iterate 5 refine Jd ?_|(refine Jy (xFa DA AK) ?_;refine Jy (xLd AK) ?_;refine Jy (xLn Af) ?_;refine Jy xM1 ?_;refine Jy xNe ?_));refine gO xPk ?_;exact Z9.o)|fail):p:=h ⟨k⟩
theorem Anp (h:p:=by first|exact xIr Af (Rk hq)|exact xIr Af (Aaq hr)):p:=h
theorem AfX (k:p') (h:Hd9 p'→p:=by with_reducible first|(intro Z9;refine Tx 9 ?_;refine gO xM <| gO (by first|exact xIr Ag (Rk hq)|exact xIr Ag (Aaq hr)) <| gO xL <| gN (xAl Ak) <| gO xA <| gZ (xSk Ac) ?_;exact Z9.o)|(intro Z9;refine Tx 10 ?_;refine gO xL <| gO (xCl func122 (VI)) <| gO DX <| gO xM ?_;(first|iterate 7 refine Jd ?_|(refine Jy (xFa DA AK) ?_;refine Jy (xLd AK) ?_;refine Jy xM1 ?_;refine Jy Anp ?_;refine Jy (xLa Aa) ?_;refine Jy (xCl func123 (VD)) ?_;refine Jy DX ?_));refine gO xPk <| gO xM ?_;(first|iterate 5 refine Jd ?_|(refine Jy (xFa DA AK) ?_;refine Jy (xLd AK) ?_;refine Jy xM1 ?_;refine Jy Anp ?_;refine Jy (xLa Aa) ?_));refine Jd ?_;(first|refine Jd ?_|refine Jy xLt ?_);refine gO xPk ?_;exact Z9.o)|fail):p:=h ⟨k⟩
theorem Ajn (h:p:=by first|exact xCl func124 (LR)|exact xCl func124 (L1)|exact xCl func124 (L2)):p:=h
theorem Anq (h:p:=by first|exact xIr Ag (hia)|exact xIr Ag (hra)):p:=h
theorem XU (h:p:=by first|exact xIr Af (hia)|exact xIr Af (hra)):p:=h
theorem WA (k:p') (h:Hd9 p'→p:=by with_reducible first|(intro Z9;refine Tx 9 ?_;refine gO xM <| gO Anq <| gO xL <| gN (xAl Ak) <| gO xA <| gZ (xSk Ac) ?_;exact Z9.o)|(intro Z9;refine Tx 10 ?_;refine gO xL <| gO (xCl func122 (VI2)) <| gO DX <| gO xM ?_;(first|iterate 7 refine Jd ?_|(refine Jy (xFa DA AK) ?_;refine Jy (xLd AK) ?_;refine Jy xM1 ?_;refine Jy XU ?_;refine Jy (xLa Aa) ?_;refine Jy (xCl func123 (VD2)) ?_;refine Jy DX ?_));refine gO xPk <| gO xM ?_;(first|iterate 7 refine Jd ?_|(refine Jy (xFa DA AK) ?_;refine Jy (xLd AK) ?_;refine Jy xM1 ?_;refine Jy XU ?_;refine Jy (xLa Aa) ?_;refine Jy (xCl func55 (SG)) ?_;refine Jy xLt ?_));refine gO xPk ?_;exact Z9.o)|(intro Z9;refine Tx 12 ?_;refine gO xF <| gO xD <| gO xM <| gO XU <| gO xL <| gO Ajn <| gO xM ?_;(first|iterate 3 refine Jd ?_|(refine Jy (xFa Ce Aa) ?_;refine Jy (xLa Aa) ?_;refine Jy Ajn ?_));refine gO xPk <| gO xM ?_;(first|iterate 3 refine Jd ?_|(refine Jy (xFa AM Aa) ?_;refine Jy (xLa Aa) ?_;refine Jy Ajn ?_));refine gO xPk ?_;exact Z9.o)|fail):p:=h ⟨k⟩
theorem La (h:p:=by
 exact Ax rfl (.cons_ (AcU rfl (by decide) rfl) .nil_)):p:=h
theorem Anr (h:p:=by first|exact BP rfl Al rfl (Ie h0)|exact BP rfl Al rfl (OQ (by first|rfl|omega))|exact BP rfl Al rfl (Ie (by first|assumption|omega))|exact BP rfl Al rfl rfl):p:=h
theorem Ans (h:p:=by first|exact xIr Af (Rk hq)|exact xIr Af (hra)):p:=h
theorem XV (t u:Bool) {ps:List Prt} {bs:List Bk} {os:List Int} (hl:EB ps bs os) (F:List Int) (qs:List (Rv × Rv)) (rs:List Rv) (hwq:∀ q∈qs,RvL q.1∧RvL q.2) (hwr:∀ r∈rs,RvL r) (hFl:F.length≤1000000) (hQl:qs.length≤1000000) (hRl:rs.length≤1000000):CV prog Ah 49 [aDg t ps bs os,.agg (dCr u F qs rs)] [aE (ckE ps bs os F qs rs)]:=by
 refine cvz func49 ntmps49 ?_
 have CK:=(IO t hl).cv
 have hl1:=hl.l1
 have hl2:=hl.l2
 by_cases h0:Bc ps bs os=0
 case neg =>
  have hb:ckE ps bs os F qs rs=Bc ps bs os:=by unfold ckE;rw [if_pos h0]
  rw [hb]
  repeat' (with_reducible first|refine qq ?_|refine Tr ?_|(refine Tx 2 ?_;refine gO xM <| gO Anr ?_)|(refine Tx 3 ?_;refine gO xM <| gO xA ?_))
  exact Ax rfl (.cons_ (Acl rfl rfl) .nil_)
 rw [h0] at CK
 by_cases hF:F.length=bs.length
 case neg =>
  have hb:ckE ps bs os F qs rs=11:=by unfold ckE;rw [if_neg (not_not_intro h0),if_neg (fun h=>hF h.1)]
  rw [hb]
  repeat' (with_reducible first|refine qq ?_|refine Tr ?_|refine Wz ?_|(refine Tx 6 ?_;refine gO (xMi underlying109) <| gO xA ?_))
  exact La
 by_cases hQ:qs.length=bs.length
 case neg =>
  have hb:ckE ps bs os F qs rs=11:=by unfold ckE;rw [if_neg (not_not_intro h0),if_neg (fun h=>hQ h.2.1)]
  rw [hb]
  repeat' (with_reducible first|refine qq ?_|refine Tr ?_|refine Wz ?_|(refine Tx 6 ?_;refine gO (xMi underlying109) <| gO xA ?_))
  exact La
 by_cases hR:rs.length=bs.length
 case neg =>
  have hb:ckE ps bs os F qs rs=11:=by unfold ckE;rw [if_neg (not_not_intro h0),if_neg (fun h=>hR h.2.2)]
  rw [hb]
  repeat' (with_reducible first|refine qq ?_|refine Tr ?_|refine Wz ?_|(refine Tx 6 ?_;refine gO (xMi underlying109) <| gO xA ?_))
  exact La
 have hb:ckE ps bs os F qs rs=ckL qs rs:=by unfold ckE;rw [if_neg (not_not_intro h0),if_pos ⟨hF,hQ,hR⟩]
 rw [hb]
 repeat' (with_reducible first|refine qq ?_|refine Tr ?_|refine Wz ?_|(refine Tx 7 ?_;refine gO xF <| gO xD <| gO xN <| gO xM ?_))
 refine AQ (Bu 2) (Aq (fun n Fr H=>∃ k:Nat,k≤qs.length∧n=qs.length - k∧(∀ (j:Nat) (x:Int),j<k→(List.zipWith Mj qs rs)[j]?=some x→x=0)∧Fr=ofL [(3,vr 1),(38,vd (Wp qs)),(39,vi qs.length),(40,vi ((k:Nat)))]∧H=[.box 26 [.d (DJ t ps),.d (Dc t bs),.d (Bd t os)],.box 30 [.d (Bd u F),.d (Wp qs),.d (AjP rs)]]) (n0:=qs.length) ⟨0,ad _,rfl,(fun j x hj=>absurd hj (gx _)),rfl,rfl⟩ ?_)
 rintro n Fr H ⟨k,hk,rfl,hz,rfl,rfl⟩
 by_cases hlt:k<qs.length
 case pos =>
  obtain ⟨q,hq⟩:∃ q,qs[k]?=some q:=⟨_,gE hlt⟩
  obtain ⟨r,hr⟩:∃ r,rs[k]?=some r:=⟨_,gE (by omega)⟩
  have wq:=hwq q (gM hq)
  have wr:=hwr r (gM hr)
  have VI:CV prog Ah 122 [.agg (dIr false q)] [aB (ivC q)]:=GZ q.1 q.2 wq.1 wq.2
  have VD:=(NV (G:=Ah) false r wr.1 (by have:=wr.2;omega)).cv
  have hit:=Ann hz hq hr
  cases h1:ivC q
  case false =>
   have hc:Mj q r=2:=by unfold Mj;rw [if_pos (.inl h1)]
   rw [hit (by rw [hc];decide),hc]
   rw [h1] at VI
   repeat' (with_reducible first|refine qq ?_|(refine Tx 8 ?_;refine gO xLt ?_)|refine AfX ?_|(refine Tx 11 ?_;refine gO (xMi underlying109) <| gO xA ?_))
   exact La
  rw [h1] at VI
  cases h2:vdB r.rw
  case false =>
   have hc:Mj q r=2:=by unfold Mj;rw [if_pos (.inr (.inl h2))]
   rw [hit (by rw [hc];decide),hc]
   rw [h2] at VD
   repeat' (with_reducible first|refine qq ?_|(refine Tx 8 ?_;refine gO xLt ?_)|refine AfX ?_|(refine Tx 11 ?_;refine gO (xMi underlying109) <| gO xA ?_))
   exact La
  rw [h2] at VD
  obtain ⟨d0,n0,m0⟩:=Aen wr h2
  have SG:=IT (rvP r).1 (rvP r).2 n0 m0
  have hra:=Aaq hr
  have hra:=Aaq hr
  have VD2:CV prog Ah 123 [.agg (dyP (rvP r))] [aB true]:=by rw [←d0];exact VD
  rw [d0] at hra
  by_cases h3:sgI (rvP r).1<0
  case pos =>
   have hc:Mj q r=2:=by unfold Mj;rw [if_pos (.inr (.inr h3))]
   rw [hit (by rw [hc];decide),hc]
   repeat' (with_reducible first|refine qq ?_|(refine Tx 8 ?_;refine gO xLt ?_)|(refine Tx 9 ?_;refine gO xM <| gO (by first|exact xIr Ag (Rk hq)|exact xIr Ag (hra)) <| gO xL <| gN (xAl Ak) <| gO xA <| gZ (xSk Ac) ?_)|(refine Tx 10 ?_;refine gO xL <| gO (xCl func122 (VI)) <| gO DX <| gO xM ?_;(first|iterate 7 refine Jd ?_|(refine Jy (xFa DA AK) ?_;refine Jy (xLd AK) ?_;refine Jy xM1 ?_;refine Jy Ans ?_;refine Jy (xLa Aa) ?_;refine Jy (xCl func123 (VD2)) ?_;refine Jy DX ?_));refine gO xPk <| gO xM ?_;(first|iterate 7 refine Jd ?_|(refine Jy (xFa DA AK) ?_;refine Jy (xLd AK) ?_;refine Jy xM1 ?_;refine Jy Ans ?_;refine Jy (xLa Aa) ?_;refine Jy (xCl func55 (SG)) ?_;refine Jy xLt ?_));refine gO xPk ?_)|(refine Tx 11 ?_;refine gO (xMi underlying109) <| gO xA ?_))
   exact La
  obtain ⟨sw,hdy,lw1,lw2⟩:=PI wq.1 wq.2 h1
  have hia:=Rk hq
  have VI2:CV prog Ah 122 [.agg (dIw false (ivQ q))] [aB true]:=by rw [←hdy];exact VI
  rw [hdy] at hia
  have LR:=OD (rvP r) n0 m0
  have L1:=OD (rvP q.1) sw.s1.ok lw1
  have L2:=OD (rvP q.2) sw.s2.ok lw2
  have hn2:¬ (ivC q=false∨vdB r.rw=false∨sgI (rvP r).1<0):=by rw [h1,h2];simpa using h3
  cases h4:Dm (rvP r)
  case true =>
   have hc:Mj q r=4:=by unfold Mj;rw [if_neg hn2,if_pos (.inl h4)]
   rw [hit (by rw [hc];decide),hc]
   rw [h4] at LR
   repeat' (with_reducible first|refine qq ?_|(refine Tx 8 ?_;refine gO xLt ?_)|refine WA ?_|(refine Tx 13 ?_;refine gO (xMi underlying109) <| gO xA ?_))
   exact La
  rw [h4] at LR
  cases h5:Dm (rvP q.1)
  case true =>
   have hc:Mj q r=4:=by unfold Mj;rw [if_neg hn2,if_pos (.inr (.inl h5))]
   rw [hit (by rw [hc];decide),hc]
   rw [h5] at L1
   repeat' (with_reducible first|refine qq ?_|(refine Tx 8 ?_;refine gO xLt ?_)|refine WA ?_|(refine Tx 13 ?_;refine gO (xMi underlying109) <| gO xA ?_))
   exact La
  rw [h5] at L1
  cases h6:Dm (rvP q.2)
  case true =>
   have hc:Mj q r=4:=by unfold Mj;rw [if_neg hn2,if_pos (.inr (.inr h6))]
   rw [hit (by rw [hc];decide),hc]
   rw [h6] at L2
   repeat' (with_reducible first|refine qq ?_|(refine Tx 8 ?_;refine gO xLt ?_)|refine WA ?_|(refine Tx 13 ?_;refine gO (xMi underlying109) <| gO xA ?_))
   exact La
  rw [h6] at L2
  have hc:Mj q r=0:=by unfold Mj;rw [if_neg hn2,if_neg (by simp [h4,h5,h6])]
  repeat' (with_reducible first|refine qq ?_|(refine Tx 8 ?_;refine gO xLt ?_)|refine WA ?_|(refine Tx 14 ?_;refine gO xAd <| gO xM ?_))
  exact ⟨_,_,Ls [(3,vr 1),(38,vd (Wp qs)),(39,vi qs.length),(40,vi (((k+1):Nat)))] 2 rfl (mB rfl rfl) ⟨CN rfl,CN rfl,trivial⟩,_,by omega,k+1,by omega,rfl,(fun j x hj hx=>by
    rcases cn j k with h|h
    ·exact hz j x h hx
    ·obtain rfl:j=k:=by omega
     rw [Wy hq hr] at hx
     cases hx
     exact hc),rfl,rfl⟩
 obtain rfl:k=qs.length:=by omega
 have he:ckL qs rs=0:=Ga fun x hx=>by
  obtain ⟨j,hj⟩:=fe hx
  exact hz j x (by have:=(gS.1 hj).1;rw [List.length_zipWith] at this;omega) hj
 rw [he]
 repeat' (with_reducible first|refine qq ?_|(refine Tx 8 ?_;refine gO xLt ?_)|(refine Tx 15 ?_;refine gO xA ?_))
 exact Ax rfl (.cons_ (Gl rfl rfl) .nil_)
theorem EL (t:Bool) {ps:List Prt} {bs:List Bk} {os:List Int} (hl:EB ps bs os) (F:List Int) (qs:List (Rv × Rv)) (rs:List Rv) (hwq:∀ q∈qs,RvL q.1∧RvL q.2) (hwr:∀ r∈rs,RvL r) (hFl:F.length≤1000000) (hQl:qs.length≤1000000) (hRl:rs.length≤1000000):CV prog Ah 12 [aDg t ps bs os,.agg (dCr false F qs rs)] [aB (vfE ps bs os F qs rs),.agg [dI (vfP ps bs os F qs rs).1,dI (vfP ps bs os F qs rs).2],aE (ckE ps bs os F qs rs)]:=by
 refine cvz func12 ntmps12 ?_
 have CK:=XV t false hl F qs rs hwq hwr hFl hQl hRl
 have hl1:=hl.l1
 have hl2:=hl.l2
 by_cases h0:ckE ps bs os F qs rs=0
 case neg =>
  have e1:vfE ps bs os F qs rs=false:=by unfold vfE;rw [decide_eq_false h0];rfl
  have e2:vfP ps bs os F qs rs=(0,0):=if_neg h0
  rw [e1,e2]
  repeat' (with_reducible first|refine qq ?_|(refine Tx 0 ?_;refine gN xBo <| gN xBo <| gO xA <| gN (xAl CL) <| gO xA ?_)|(refine Tx 1 ?_;refine gO xL <| gO xL <| gO (xCl func49 (CK)) <| gO xA ?_)|(refine Tx 2 ?_;refine gO xM <| gO Anr ?_)|(refine Tx 3 ?_;refine gO (by exact AO rfl Dq rfl rfl) <| gO xM <| gO xA <| gZ (xSk Bb) <| gO xA ?_))
  exact Ax rfl (.cons_ (DD rfl rfl) (.cons_ (Apj Bb) (.cons_ (Acl rfl rfl) .nil_)))
 obtain ⟨hd,ok,hdc,_,_⟩:=Ano hwq hwr h0
 rw [h0] at CK
 rw [h0]
 have e2:vfP ps bs os F qs rs=vfF ps bs (AbA F qs rs):=if_pos h0
 have e1:vfE ps bs os F qs rs=(vfK ps bs (AbA F qs rs)).isNone:=by unfold vfE;rw [decide_eq_true h0,em]
 rw [e1,e2]
 rw [hdc] at CK
 rw [hdc]
 generalize AbA F qs rs=c at *
 clear e1 e2 h0
 repeat' (with_reducible first|refine qq ?_|(refine Tx 0 ?_;refine gN xBo <| gN xBo <| gO xA <| gN (xAl CL) <| gO xA ?_)|(refine Tx 1 ?_;refine gO xL <| gO xL <| gO (xCl func49 (CK)) <| gO xA ?_)|(refine Tx 2 ?_;refine gO xM <| gO (xNE Al) ?_)|(refine Tx 4 ?_;refine gO xF <| gO xD <| gO xN <| gO xM ?_))
 refine AQ (Bu 3) (Aq (fun n Fr H=>∃ k:Nat,k≤bs.length∧n=bs.length - k∧(∀ i,i<k→FY ps bs c i=0)∧Fr=ofL [(2,vr 0),(3,vr 1),(5,vr 2),(18,vd (Dc t bs)),(19,vi bs.length),(20,vi ((k:Nat)))]∧H=[.box 26 [.d (DJ t ps),.d (Dc t bs),.d (Bd t os)],.box 30 [.d (Bd false c.F),.d (.row false 6 c.R.length (Av (dIw false) c.R)),.d (.row false 3 c.E.length (Av dyP c.E))],.box 34 [.d (.val (.int .i64 0)),.d (.val (.int .i64 0))]]) (n0:=bs.length) ⟨0,ad _,rfl,(fun i hi=>absurd hi (gx _)),rfl,rfl⟩ ?_)
 rintro n Fr H ⟨k,hk,rfl,hz,rfl,rfl⟩
 by_cases hlt:k<bs.length
 case pos =>
  obtain ⟨y,hy⟩:∃ y,bs[k]?=some y:=⟨_,gE hlt⟩
  have LK:=XT t false os c k hy (UK hd hy) ok hl2 hl1
  have vs:=AbB hlt hz
  generalize hq:FY ps bs c k=q at *
  by_cases h1:q=0
  case neg =>
   have vs:=vs h1
   have e1:(vfK ps bs c).isNone=false:=by rw [vs];rfl
   have e2:vfF ps bs c=(q,(k:Int)):=by unfold vfF;rw [vs];show (FY ps bs c k,_)=_;rw [hq]
   rw [e1,e2]
   repeat' (with_reducible first|refine qq ?_|(refine Tx 5 ?_;refine gO xLt ?_)|(refine Tx 6 ?_;refine gO xM <| gO xA ?_)|(refine Tx 7 ?_;refine gO xL <| gO xL <| gO xM <| gO (xCl func50 (LK)) <| gO xA ?_)|(refine Tx 8 ?_;refine gO xM <| gO xNe ?_)|(refine Tx 9 ?_;refine gO xM <| gO xM <| gO (by exact AO rfl Dq rfl rfl) <| gO xA <| gZ (xSk Bb) <| gO xA ?_))
   exact Ax rfl (.cons_ (DD rfl rfl) (.cons_ (Apj Bb) (.cons_ (Gl rfl rfl) .nil_)))
  subst h1
  repeat' (with_reducible first|refine qq ?_|(refine Tx 5 ?_;refine gO xLt ?_)|(refine Tx 6 ?_;refine gO xM <| gO xA ?_)|(refine Tx 7 ?_;refine gO xL <| gO xL <| gO xM <| gO (xCl func50 (LK)) <| gO xA ?_)|(refine Tx 8 ?_;refine gO xM <| gO xNe ?_)|(refine Tx 10 ?_;refine gO xAd <| gO xM ?_))
  refine ⟨_,_,Bu 3,_,by omega,k+1,by omega,rfl,Aar hz hq,rfl,rfl⟩
 obtain rfl:k=bs.length:=by omega
 have vn:=UR.2 hz
 have e1:(vfK ps bs c).isNone=true:=by rw [vn];rfl
 have e2:vfF ps bs c=(0,0):=by unfold vfF;rw [vn]
 rw [e1,e2]
 repeat' (with_reducible first|refine qq ?_|(refine Tx 5 ?_;refine gO xLt ?_)|(refine Tx 11 ?_;refine gO (by exact AO rfl Dq rfl rfl) <| gO xA <| gZ (xSk Bb) <| gO xA ?_))
 exact Ax rfl (.cons_ (DD rfl rfl) (.cons_ (Apj Bb) (.cons_ (Gl rfl rfl) .nil_)))
def wiB (a:Iq) (f m:Int):Bool:=decide (Ir (DP (FX a) f) (m,0)≤0)
def pkF (a:Iq):Nat→Int
 | 0 => -1
 | n+1=>if wiB a (n:Int) 1073741824=true then (n:Int) else pkF a n
def pkS (a:Iq):Int:=pkF a 31
def pkB (a:Iq):Bool:=decide (0≤pkS a)
theorem AfY (a:Iq):∀ n:Nat,-1≤pkF a n∧pkF a n≤(n:Int) - 1
 | 0=>⟨dc _,dc _⟩
 | n+1=>by
  have:=AfY a n
  unfold pkF
  split <;> omega
theorem Ant (a:Iq) : -1≤pkS a∧pkS a≤30:=AfY a 31
def Yh:Nat→Int→Pq→Int
 | 0,k,_=>k
 | n+1,k,x=>if Ir (pw k) x<0 then Yh n (k+1) x else k
def AbC (x:Pq):Pq:=pw (Yh 50000 (-62) x)
section
variable (ps:List Prt) (bs:List Bk) (os:List Int) (F:List Int) (R:List Iq)
def erB (E:List Pq) (i:Nat):Pq:=upQ (Aw ps F R E (Aod bs i) (scA F i))
def erO:List Nat→List Pq→Option (List Pq)
 | [],E=>some E
 | i::l,E=>if Acn (erB ps bs F R E i)=true then none else erO l (E.set i (erB ps bs F R E i))
def erM (E:List Pq) (i:Nat):Pq:=Gz (E[i]?.getD (0,0)) (erB ps bs F R E i)
def erX (w:Bool) (E:List Pq) (i:Nat):Pq:=if w=true then AbC (erM ps bs F R E i) else erM ps bs F R E i
def erD (w:Bool):List Nat→List Pq→Bool→Option (List Pq × Bool)
 | [],E,b=>some (E,b)
 | i::l,E,b=>if Ir (erM ps bs F R E i) (E[i]?.getD (0,0))=0 then erD w l E b
  else if Acn (erX ps bs F R w E i)=true then none else erD w l (E.set i (erX ps bs F R w E i)) true
def erR:Nat→Nat→List Pq→Option (List Pq)
 | 0,_,_=>none
 | n+1,r,E=>match erO ps bs F R (Dd bs) E with
  | none=>none
  | some E1=>match erD ps bs F R (decide (64≤r)) (Bn bs) E1 false with
   | none=>none
   | some (E2,b)=>if b=true then erR n (r+1) E2 else some E2
def erA:Option (List Pq):=erR ps bs F R 128 0 (List.replicate bs.length (0,0))
def vfA (E:List Pq):Bool:=vfE ps bs os F (R.map Hg) (E.map CY)
def mkT:Option (List Pq):=match erA ps bs F R with
 | none=>none
 | some E=>if vfA ps bs os F R E=true then some E else none
end
def AbD (F:List Int):Bool:=F.any fun f=>decide (0<f)
def AjQ (f:Int):Int:=if 0<f then f - 1 else f
def XW (F:List Int):List Int:=F.map AjQ
def mkL (ps:List Prt) (bs:List Bk) (os:List Int) (R:List Iq):Nat→List Int→Option Ct
 | 0,_=>none
 | n+1,F=>match mkT ps bs os F R with
  | some E=>some ⟨F,R,E⟩
  | none=>if AbD F=true then mkL ps bs os R n (XW F) else none
def mkC (ps:List Prt) (bs:List Bk) (os:List Int) (e:Int) (l:List Iq):Option Ct :=
 if e=0∧(rgV ps bs l).all pkB=true then mkL ps bs os (rgV ps bs l) 31 ((rgV ps bs l).map pkS) else none
structure Lb (bs:List Bk) (E:List Pq):Prop where
 len:E.length=bs.length
 sm:∀ p∈E,Sm p 128 62
 nn:∀ p∈E,0≤gv p
theorem Lb.zero (bs:List Bk):Lb bs (List.replicate bs.length (0,0)):=⟨gg ..,fun p hp=>by rw [List.eq_of_mem_replicate hp];exact Sm.zero _ _,fun p hp=>by rw [List.eq_of_mem_replicate hp,FV];exact dc _⟩
theorem Lb.set (h:Lb bs E) {p:Pq} (hs:Sm p 128 62) (h0:0≤gv p) (i:Nat):Lb bs (E.set i p):=⟨by rw [bt];exact h.len,fun q hq=>by
 rcases gy hq with hq|rfl
 ·exact h.sm q hq
 ·exact hs,fun q hq=>by
 rcases gy hq with hq|rfl
 ·exact h.nn q hq
 ·exact h0⟩
theorem Lb.at_ (h:Lb bs E) (i:Nat):Sm (E[i]?.getD (0,0)) 128 62∧0≤gv (E[i]?.getD (0,0)):=by
 rcases he:E[i]? with _|p
 ·exact ⟨Sm.zero _ _,Int.le_of_eq FV.symm⟩
 ·exact ⟨h.sm p (gM he),h.nn p (gM he)⟩
theorem Lb.inE (h:Lb bs E):InE E E:=⟨fun k=>(h.at_ k).2,fun _=>dc _⟩
theorem WB {p:Pq} (h:Sm p n 62) (h0:0≤gv p) (hf:Acn p=false):Sm p 128 62:=by
 have h1:gv p≤1099511627776*2 ^ GQ:=by
  have h2:=of_decide_eq_false hf
  have h3:=(LS (p:=p) (q:=(1099511627776,0)) h.le (by decide)).1 (Int.not_lt.1 h2)
  rwa [Oj] at h3
 refine ⟨h.ok,?_,h.d⟩
 have hp:=Be (GQ - p.2)
 have hd:=h.d
 have e:(2:Int) ^ GQ=2 ^ p.2*2 ^ (GQ - p.2):=by rw [←av];congr 1;have:=h.le;omega
 unfold gv at h0 h1
 rw [e,←ar] at h1
 have h2:p.1≤1099511627776*2 ^ p.2:=Int.le_of_mul_le_mul_right h1 hp
 have h3:0≤p.1:=cm fun hn=>by
  have:=gr (show p.1<0 by omega) hp
  omega
 have h4:(2:Int) ^ p.2≤2 ^ 62:=by
  have h5:=ap (n:=2) (by decide) hd
  exact_mod_cast h5
 have h6:p.1<2 ^ 128:=by
  have:(1099511627776:Int)*2 ^ p.2≤1099511627776*2 ^ 62:=js h4 (by decide)
  have h7:(1099511627776:Int)*2 ^ 62<2 ^ 128:=by decide
  omega
 have h8:((p.1.natAbs:Nat):Int)<((2 ^ 128:Nat):Int):=by
  rw [Int.natAbs_of_nonneg h3]
  exact_mod_cast h6
 exact_mod_cast h8
theorem Anu {k:Int} (h0 : -62≤k) (h1:k<n) (hn:n≤65536) (h2:0<n):Sm (pw k) n 62:=by
 unfold pw Ae
 split
 ·exact (Sm.mk_nf (m:=1) (n:=n) (d:=62) (p:=0+(-(max (-65536) (min k 65536))).toNat) (by omega) (by omega) (Nat.one_lt_two_pow (by omega)))
 ·refine (Sm.mk_nf (n:=n) (d:=62) (p:=0) (by omega) (by omega) ?_)
  rw [jf,fm]
  exact Nat.pow_lt_pow_right (by decide) (by omega)
theorem Ts {k:Int} (h0 : -62≤k) (h1:k≤40064):Sm (pw k) 40065 62:=Anu h0 (by omega) (by decide) (by decide)
theorem US {a b:Nat} (h:a≤b):(2:Int) ^ a≤2 ^ b:=by
 have:=ap (n:=2) (by decide) h
 exact_mod_cast this
theorem Anv {x:Pq} {d:Nat} (h:Sm x n d):gv x<2 ^ (n+GQ):=by
 have h1:x.1<2 ^ n:=by
  have h2:=h.n
  have h3:((x.1.natAbs:Nat):Int)<((2 ^ n:Nat):Int):=by exact_mod_cast h2
  have h4:((2 ^ n:Nat):Int)=2 ^ n:=by push_cast;rfl
  omega
 have hp:=Be (GQ - x.2)
 have hq:(2:Int) ^ (GQ - x.2)≤2 ^ GQ:=US (Nat.sub_le GQ x.2)
 unfold gv
 rw [av]
 exact Int.lt_of_lt_of_le (lg h1 hp) (js hq (bf (Be n)))
theorem Ajo {a b:Nat} (h:(2:Int) ^ a<2 ^ b):a<b:=cm fun hn=>by
 have h1:=ap (n:=2) (by decide) (show b≤a by omega)
 have h2:(2:Int) ^ b≤2 ^ a:=by exact_mod_cast h1
 omega
theorem WC {x:Pq} (hx:Sm x 40064 62) {k:Int} (h0 : -62≤k) (h1:k≤40064) (h:Ir (pw k) x<0):k+1≤40064:=by
 have h2:¬ gv x≤gv (pw k):=fun hc=>absurd h (Int.not_lt.2 ((Oh (p:=pw k) (q:=x) (Ts h0 h1).le hx.le).2 hc))
 have h3:=Anv hx
 rw [Mh (by omega) (by omega)] at h2
 have h4:=Ajo (Int.lt_trans (Int.not_le.1 h2) h3)
 have h5:GQ=65536:=rfl
 omega
theorem AfZ {x:Pq} (hx:Sm x 40064 62):∀ (n:Nat) (k:Int),-62≤k→k≤40064 → -62≤Yh n k x∧Yh n k x≤40064
 | 0,k,h0,h1=>⟨h0,h1⟩
 | n+1,k,h0,h1=>by
  unfold Yh
  split
  ·rename_i h
   exact AfZ hx n (k+1) (by omega) (WC hx h0 h1 h)
  ·exact ⟨h0,h1⟩
theorem Ajp {x:Pq} (hx:Sm x 40064 62):Sm (AbC x) 40065 62∧0≤gv (AbC x):=by
 obtain ⟨h0,h1⟩:=AfZ hx 50000 (-62) (by decide) (by decide)
 unfold AbC
 exact ⟨Ts h0 h1,by rw [Mh (by omega) (by omega)];exact bf (Be _)⟩
theorem Ajq {k:Int} (h0 : -62≤k) (h1:k≤40063):DP (pw k) 1=pw (k+1):=by
 have s1:=Ts h0 (by omega)
 have s2:=Ts (k:=k+1) (by omega) (by omega)
 refine Og (FE s1 (by decide) (by decide)).ok s2.ok ?_
 have:=SJ (p:=pw k) (n:=1) s1.le (by decide)
 rw [show gv (DP (pw k) 1)=_ from this,Mh (by omega) (by omega),Mh (by omega) (by omega),←av]
 congr 1
 omega
section
variable {ps:List Prt} {bs:List Bk} {os:List Int} {F:List Int} {R:List Iq} {E:List Pq}
theorem WD (he:Bc ps bs os=0) {i:Nat} {y:Bk} (hy:bs[i]?=some y) (hs:0≤scA F i∧scA F i≤30) (sR:∀ p∈R,IwS p LB LB) (h:Lb bs E):Sm (Aw ps F R E y (scA F i)) 40064 9000∧Sm (erB ps bs F R E i) 40064 62∧0≤gv (erB ps bs F R E i):=by
 have hv:y.kind=6→DE y.vn y.ve:=fun h6=>LQ he hy (by rw [h6];rfl)
 have lb:∀ p∈E,Sm p LB LB:=Abz h.sm
 have sb:=MQ (ps:=ps) (F:=F) (y:=y) hs.1 hs.2 sR lb hv
 have nn:=(Qa (ps:=ps) (F:=F) (y:=y) hs.1 hs.2 sR lb lb hv h.inE).1
 unfold erB
 rw [Ij hy]
 exact ⟨sb,(MO (den:=62) sb.neg (by decide)).neg,Anl sb.le nn⟩
theorem Aga (he:Bc ps bs os=0) {i:Nat} {y:Bk} (hy:bs[i]?=some y) (hs:0≤scA F i∧scA F i≤30) (sR:∀ p∈R,IwS p LB LB) (h:Lb bs E):Sm (erM ps bs F R E i) 40064 62∧0≤gv (erM ps bs F R E i):=by
 obtain ⟨_,s,n⟩:=WD he hy hs sR h
 obtain ⟨s',n'⟩:=h.at_ i
 unfold erM
 refine ⟨Sm.max (s'.more (by decide) (aa _)) s,?_⟩
 rw [show gv (Gz (E[i]?.getD (0,0)) (erB ps bs F R E i))=_ from Fy s'.le s.le]
 omega
theorem Agb (he:Bc ps bs os=0) {i:Nat} {y:Bk} (hy:bs[i]?=some y) (hs:0≤scA F i∧scA F i≤30) (sR:∀ p∈R,IwS p LB LB) (h:Lb bs E) (w:Bool):Sm (erX ps bs F R w E i) 40065 62∧0≤gv (erX ps bs F R w E i):=by
 obtain ⟨s,n⟩:=Aga he hy hs sR h
 unfold erX
 split
 ·exact Ajp s
 ·exact ⟨s.more (by decide) (aa _),n⟩
theorem Agc (he:Bc ps bs os=0) (hF:∀ i,i<bs.length→0≤scA F i∧scA F i≤30) (sR:∀ p∈R,IwS p LB LB):∀ (l:List Nat) (E E':List Pq),(∀ i∈l,i<bs.length)→Lb bs E→erO ps bs F R l E=some E'→Lb bs E'
 | [],E,E',_,h,hr=>by cases hr;exact h
 | i::l,E,E',hl,h,hr=>by
  have hi:=hl i (gz ..)
  obtain ⟨y,hy⟩:∃ y,bs[i]?=some y:=⟨_,gE hi⟩
  obtain ⟨_,s,n⟩:=WD he hy (hF i hi) sR h
  unfold erO at hr
  by_cases hf:Acn (erB ps bs F R E i)=true
  ·rw [if_pos hf] at hr;cases hr
  ·rw [if_neg hf] at hr
   rw [aw] at hf
   exact Agc he hF sR l _ E' (fun j hj=>hl j (fx _ hj)) (h.set (WB s n hf) n i) hr
theorem AbE (he:Bc ps bs os=0) (hF:∀ i,i<bs.length→0≤scA F i∧scA F i≤30) (sR:∀ p∈R,IwS p LB LB) (w:Bool):∀ (l:List Nat) (E:List Pq) (b:Bool) (x:List Pq × Bool),(∀ i∈l,i<bs.length)→Lb bs E→erD ps bs F R w l E b=some x→Lb bs x.1
 | [],E,b,x,_,h,hr=>by cases hr;exact h
 | i::l,E,b,x,hl,h,hr=>by
  have hi:=hl i (gz ..)
  have hl':∀ j∈l,j<bs.length:=fun j hj=>hl j (fx _ hj)
  obtain ⟨y,hy⟩:∃ y,bs[i]?=some y:=⟨_,gE hi⟩
  obtain ⟨s,n⟩:=Agb he hy (hF i hi) sR h w
  unfold erD at hr
  by_cases hc:Ir (erM ps bs F R E i) (E[i]?.getD (0,0))=0
  ·rw [if_pos hc] at hr
   exact AbE he hF sR w l E b x hl' h hr
  rw [if_neg hc] at hr
  by_cases hf:Acn (erX ps bs F R w E i)=true
  ·rw [if_pos hf] at hr;cases hr
  ·rw [if_neg hf] at hr
   rw [aw] at hf
   exact AbE he hF sR w l _ true x hl' (h.set (WB s n hf) n i) hr
theorem Anw:∀ i∈Dd bs,i<bs.length:=fun i hi=>by
 obtain ⟨k,hk⟩:=fe hi
 exact (SI hk).1
theorem Anx:∀ i∈Bn bs,i<bs.length:=fun i hi=>by
 obtain ⟨k,hk⟩:=fe hi
 exact (Od hk).1
theorem Agd (he:Bc ps bs os=0) (hF:∀ i,i<bs.length→0≤scA F i∧scA F i≤30) (sR:∀ p∈R,IwS p LB LB):∀ (n r:Nat) (E E':List Pq),Lb bs E→erR ps bs F R n r E=some E'→Lb bs E'
 | 0,_,_,_,_,hr=>by cases hr
 | n+1,r,E,E',h,hr=>by
  unfold erR at hr
  split at hr
  ·cases hr
  rename_i E1 h1
  have k1:=Agc he hF sR _ _ _ Anw h h1
  split at hr
  ·cases hr
  rename_i E2 b h2
  have k2:=AbE he hF sR _ _ _ _ _ Anx k1 h2
  split at hr
  ·exact Agd he hF sR n (r+1) E2 E' k2 hr
  ·cases hr;exact k2
theorem Age (he:Bc ps bs os=0) (hF:∀ i,i<bs.length→0≤scA F i∧scA F i≤30) (sR:∀ p∈R,IwS p LB LB) (hr:erA ps bs F R=some E):Lb bs E:=Agd he hF sR _ _ _ _ (.zero bs) hr
structure UT (bs:List Bk) (F:List Int):Prop where
 len:F.length=bs.length
 in_:∀ f∈F,0≤f∧f≤30
theorem UT.sc (h:UT bs F):∀ i,i<bs.length→0≤scA F i∧scA F i≤30:=fun i hi=>h.in_ _ (gM (OT (by rw [h.len];exact hi)))
theorem UT.low (h:UT bs F):UT bs (XW F):=⟨by unfold XW;rw [af];exact h.len,fun f hf=>by
 obtain ⟨g,hg,rfl⟩:=List.mem_map.1 hf
 have:=h.in_ g hg
 unfold AjQ
 split <;> omega⟩
theorem Any (F:List Int) (R:List Iq) (E:List Pq):AbA F (R.map Hg) (E.map CY)=⟨F,R,E⟩:=by
 unfold AbA
 rw [MP]
 congr 1
 rw [dj]
 exact (fh fun p _=>EJ p).trans (List.map_id E)
theorem Aeo (u:Bool) (F:List Int) (R:List Iq) (E:List Pq):dCr u F (R.map Hg) (E.map CY)=dCt u ⟨F,R,E⟩:=by
 unfold dCr dCt
 rw [Oy,UB]
theorem Apk (h:Lb bs E):∀ r∈E.map CY,RvL r:=fun r hr=>by
 obtain ⟨p,hp,rfl⟩:=List.mem_map.1 hr
 exact Hq (h.sm p hp) (by decide)
theorem Ajr (he:Bc ps bs os=0) (hF:UT bs F) (sR:∀ p∈R,IwS p LB LB) (hr:mkT ps bs os F R=some E):Tq ps bs os ⟨F,R,E⟩∧Lb bs E∧vfA ps bs os F R E=true:=by
 unfold mkT at hr
 split at hr
 ·cases hr
 rename_i E1 h1
 split at hr
 ·rename_i hv
  cases hr
  have k:=Age he hF.sc sR h1
  have:=Ajm (Oz sR (by decide)) (Apk k) hv
  rw [Any] at this
  exact ⟨this,k,hv⟩
 ·cases hr
theorem AbF (he:Bc ps bs os=0) (sR:∀ p∈R,IwS p LB LB):∀ (n:Nat) (F:List Int) (c:Ct),UT bs F→mkL ps bs os R n F=some c→Tq ps bs os c∧UT bs c.F∧c.R=R∧Lb bs c.E∧vfA ps bs os c.F R c.E=true
 | 0,_,_,_,hr=>by cases hr
 | n+1,F,c,hF,hr=>by
  unfold mkL at hr
  split at hr
  ·rename_i E hE
   cases hr
   obtain ⟨a,b,d⟩:=Ajr he hF sR hE
   exact ⟨a,hF,rfl,b,d⟩
  ·split at hr
   ·exact AbF he sR n _ c hF.low hr
   ·cases hr
theorem Anz (hl:R.length=bs.length) (h:R.all pkB=true):UT bs (R.map pkS):=⟨by rw [af];exact hl,fun f hf=>by
 obtain ⟨a,ha,rfl⟩:=List.mem_map.1 hf
 exact ⟨of_decide_eq_true (List.all_eq_true.1 h a ha),(Ant a).2⟩⟩
theorem FH {p:Pq} (h:Sm p LB LB):Dm p=false:=by
 have h1:=Dl.2 h.n
 have h2:=h.d
 unfold LB at h1 h2
 exact decide_eq_false (by omega)
theorem AbG (he:Bc ps bs os=0) (hF:UT bs F) (hl:R.length=bs.length) (sR:∀ p∈R,IwS p LB LB) (h:Lb bs E):ckE ps bs os F (R.map Hg) (E.map CY)=0:=by
 unfold ckE
 rw [if_neg (not_not_intro he),if_pos ⟨hF.len,by rw [af];exact hl,by rw [af];exact h.len⟩]
 refine Ga fun x hx=>?_
 obtain ⟨k,hk⟩:=fe hx
 rw [List.getElem?_zipWith] at hk
 rcases ha:(R.map Hg)[k]? with _|q
 ·rw [ha] at hk;cases hk
 rcases hb:(E.map CY)[k]? with _|r
 ·rw [ha,hb] at hk;cases hk
 rw [ha,hb] at hk
 cases hk
 rw [ag,ct] at ha hb
 obtain ⟨a,ha,rfl⟩:=ha
 obtain ⟨p,hp,rfl⟩:=hb
 have sa:=sR a (gM ha)
 have sp:=h.sm p (gM hp)
 have np:=h.nn p (gM hp)
 have n1:0≤p.1:=cm fun hn=>by
  have:=gr (show p.1<0 by omega) (Be (GQ - p.2))
  unfold gv at np
  omega
 unfold Mj
 rw [show rvP (CY p)=p from EJ p,show rvP (Hg a).1=a.1 from EJ a.1,show rvP (Hg a).2=a.2 from EJ a.2,QY sp.ok,show ivC (Hg a)=true from XI sa,FH (sp.more (n':=LB) (d':=LB) (by decide) (by decide)),FH sa.s1,FH sa.s2]
 have hs:¬ sgI p.1<0:=by unfold sgI;(repeat' split) <;> omega
 simp [hs]
end
def cDz:Option Pq→List D
 | none=>[.val (.bool false),.val (.slice none 0 0),.val (.int .i64 0)]
 | some p=>dyP p
theorem Apl (v:List (Option Pq)):cVs v=((v.map cDz).flatten).map C.d:=by
 unfold cVs
 rw [List.map_flatten,dj]
 congr 1
 exact fh fun o _=>by cases o <;> rfl
theorem Apm {v:Value} (h:Br w S (.val (.slice none 0 0)) v):Br w S (.row false 1 0 []) v:=by
 cases h
 exact .row [] (aa _) (fun _=>rfl) rfl rfl (fun h=>absurd rfl h) (fun j u x hu=>by simp at hu)
structure Nw where
 ty:TypeId
 s:Nat
 n:Nat
 ds:List D
def Nw.ob (r:Nw):Ob:=.row r.ty r.s r.n (r.ds.map C.d)
inductive Yr where
 | d (x:D)
 | own (k n:Nat)
inductive YT where
 | one (y:Yr)
 | agg (ys:List Yr)
inductive YR where
 | one (y:Yr)
 | agg (ys:List Yr)
 | tup (l:List YT)
def Yr.c (n0:Nat):Yr→C
 | .d x=>.d x
 | .own k n=>.own (n0+k) n
def YT.t (n0:Nat):YT→TC
 | .one y=>.one (y.c n0)
 | .agg ys=>.agg (ys.map (Yr.c n0))
def YR.x (n0:Nat):YR→X
 | .one y=>.one (y.c n0)
 | .agg ys=>.agg (ys.map (Yr.c n0))
 | .tup l=>.tupC (l.map (YT.t n0))
def OU (S:Eh) (w w':World) (es:List Et):Eh:=fun t b=>t=false∧(S false b∨(w.heap.size≤b∧b<w'.heap.size∧∀ e∈es,e.own≠some b))
def AjR (w:World) (S:Eh) (rows:List Nw) (es:List Et):Yr→Value→Prop
 | .d x,v=>Br w S x v
 | .own k n,v=>v.oneCell'=true∧∃ e r,es[k]?=some e∧rows[k]?=some r∧r.n=n∧v=e.hv
def AnA (w:World) (S:Eh) (rows:List Nw) (es:List Et):YT→Value→Prop
 | .one y,v=>AjR w S rows es y v
 | .agg ys,v=>∃ vs:List Value,v=.agg vs.toArray∧AY (AjR w S rows es) ys vs
def AnB (w:World) (S:Eh) (rows:List Nw) (es:List Et):YR→Value→Prop
 | .one y,v=>AjR w S rows es y v
 | .agg ys,v=>∃ vs:List Value,v=.agg vs.toArray∧AY (AjR w S rows es) ys vs
 | .tup l,v=>∃ vs:List Value,v=.tuple vs.toArray∧AY (AnA w S rows es) l vs
structure AnC (w w':World) (S:Eh) (rows:List Nw) (es:List Et):Prop where
 len:es.length=rows.length
 each:∀ (k:Nat) (e:Et),es[k]?=some e→∃ (r:Nw) (v:Value) (xs:List Value),rows[k]?=some r∧e=.row v r.ty r.s r.n xs∧e.at_ w' w.heap.size∧AY (Br w' S) r.ds xs
 apart:es.Pairwise YU
def CVN (P:Program) (G:World→Prop) (f:FuncId) (args:List A) (rows:List Nw) (res:YR):Prop :=
 ∀ (w:World) (S:Eh) (vs:List Value),G w→(∀ t b,S t b→b<w.heap.size)→AY (EM w S) args vs →
  Calls P f vs.toArray w fun e w'=>∃ v es,e=.returned v∧AnC w w' (OU S w w' es) rows es∧AnB w' (OU S w w' es) rows es res v∧Below w.heap.size w w'
def YC (ids:List Nat) (rows:List Nw):Yr→C→Prop
 | .d x,c=>c=.d x∧DQ x
 | .own k n,c=>∃ id r,ids[k]?=some id∧rows[k]?=some r∧r.n=n∧c=.own id n
inductive RVT (P:Program) (F:Frm) (H:List Ob) (ids:List Nat) (rows:List Nw):ResultVar→YT→Prop
 | tmp {t:Tmp} {y:Yr} {c:C} (hF:F t=.one c) (h:YC ids rows y c):RVT P F H ids rows (.tmp t) (.one y)
 | cell {t:Tmp} {ty ty' id:Nat} {d:TypeDesc} {cs:List C} {ys:List Yr} (hF:F t=.one (.ref id 0 none)) (hH:H[id]?=some (.box ty' cs)) (hu:P.underlying ty=some d) (hd:d.isRow=true) (hi:(P.info? ty).map (·.size)=some cs.length) (h:AY (YC ids rows) ys cs):RVT P F H ids rows (.cell t ty) (.agg ys)
inductive AnE (P:Program) (fn:Func) (F:Frm) (H:List Ob) (ids:List Nat) (rows:List Nw):YR→Prop
 | tmp {t:Tmp} {y:Yr} {c:C} (hr:fn.results=#[.tmp t]) (hF:F t=.one c) (h:YC ids rows y c):AnE P fn F H ids rows (.one y)
 | cell {t:Tmp} {ty ty' id:Nat} {d:TypeDesc} {cs:List C} {ys:List Yr} (hr:fn.results=#[.cell t ty]) (hF:F t=.one (.ref id 0 none)) (hH:H[id]?=some (.box ty' cs)) (hu:P.underlying ty=some d) (hd:d.isRow=true) (hi:(P.info? ty).map (·.size)=some cs.length) (h:AY (YC ids rows) ys cs):AnE P fn F H ids rows (.agg ys)
 | tup {r1 r2:ResultVar} {rs:List ResultVar} {l:List YT} (hr:fn.results.toList=r1::r2::rs) (h:AY (RVT P F H ids rows) (r1::r2::rs) l):AnE P fn F H ids rows (.tup l)
theorem OE {tmps:Array Value} {r:ResultVar} {v:Value} (hr:fn.results=#[r]) (h:(TV tmps r).run P w=.ok v w):(results fn tmps).run P w=.ok v w:=by
 have h1:(fn.results.mapM (TV tmps)).run P w=.ok #[v] w:=by
  rw [hr,←jl (xs:=#[r]),jm,map_eq_pure_bind,ah]
  simp [jk,ah,h]
 have hb':∀ (s:Sem (Array Value)) (k:Array Value→Sem Value),(s.bind k).run P w=(s.run P w).andThen fun a w=>(k a).run P w:=fun s k=>ah (x:=s) (f:=k) ..
 rw [GT,hb',h1]
 rfl
theorem Tt {P:Program} {w:World} {R:YT→Value→Prop} {f:ResultVar→Sem Value}:∀ {rs:List ResultVar} {res:List YT},AY (fun r y=>∃ v,(f r).run P w=.ok v w∧R y v) rs res→∃ vs:List Value,(rs.mapM f).run P w=.ok vs w∧AY R res vs
 | [],res,h=>by
  rw [h.unnil]
  exact ⟨[],by simp,AY.nil_⟩
 | r::rs,res,h=>by
  obtain ⟨y,res',rfl,⟨v,h1,h2⟩,h3⟩:=h.uncons
  obtain ⟨vs,h4,h5⟩:=Tt h3
  exact ⟨v::vs,by simp [jk,ah,h1,h4],AY.cons_ h2 h5⟩
theorem Tu {tmps:Array Value} {R:YT→Value→Prop} {r1 r2:ResultVar} {rs:List ResultVar} {l:List YT} (hr:fn.results.toList=r1::r2::rs) (h:AY (fun r y=>∃ v,(TV tmps r).run P w=.ok v w∧R y v) (r1::r2::rs) l):∃ vs:List Value,(results fn tmps).run P w=.ok (.tuple vs.toArray) w∧AY R l vs:=by
 obtain ⟨vs,h1,h2⟩:=Tt h
 have h1':(fn.results.mapM (TV tmps)).run P w=.ok vs.toArray w:=by
  rw [←jl (xs:=fn.results),hr,jm,map_eq_pure_bind,ah,h1]
  rfl
 have hb':∀ (s:Sem (Array Value)) (k:Array Value→Sem Value),(s.bind k).run P w=(s.run P w).andThen fun a w=>(k a).run P w:=fun s k=>ah (x:=s) (f:=k) ..
 refine ⟨vs,?_,h2⟩
 have hl:2≤vs.length:=by rw [←h2.1,←h.1];show 2≤rs.length+2;omega
 rw [GT,hb',h1']
 simp only [au,bu]
 match vs,hl with
 | a::b::l,_=>rfl
theorem ents {m:Mm} (ht:Tot m):∀ {ids:List Nat} {rows:List Nw},AY (fun id (r:Nw)=>m.H[id]?=some r.ob∧∀ d∈r.ds,DQ d) ids rows→∃ es:List Et,AY (fun id e=>m.E id=some e) ids es
 | [],_,_=>⟨[],.nil_⟩
 | id::ids,rows,h=>by
  obtain ⟨r,rs,rfl,h1,h2⟩:=h.uncons
  obtain ⟨es,h3⟩:=ents ht h2
  obtain ⟨e,he⟩:=Option.isSome_iff_exists.1 (ht id r.ob h1.1 rfl)
  exact ⟨e::es,.cons_ he h3⟩
theorem Agf (h:p:=by
 exact run_loadVar_mid m'.w g 0 ty us d (fun j v hj=>by rw [Aoz,cell_of_row m'.w g j us.toArray ty' (0,0) hg'];simpa using hj) hu hd (by rw [hi,hl2.1])):p:=h
theorem Tv {G:World→Prop} (hG:∀ w w',Below w.heap.size w w'→G w→G w') {f:FuncId} {fn:Func} {c:Code} {N:Nat} {args:List A} {rows:List Nw} {res:YR} (hf:P.funcs[f]?=some fn) (hb:fn.body=some c) (hN:fn.ntmps=N) (ha:args.length≤N)
  (h:CW P G N c (F0 args) [] (fun e F H=>(e=.ret∨e=.normal)∧∃ ids:List Nat,ids.Nodup∧AY (fun id (r:Nw)=>H[id]?=some r.ob∧∀ d∈r.ds,DQ d) ids rows∧AnE P fn F H ids rows res)):CVN P G f args rows res:=by
 intro w S vs hg hlt hargs
 refine calls_of_wp hf hb ?_
 refine wp_mono (h w.heap.size w ⟨S,[]⟩ _ ⟨w,S,[],fun _=>none⟩ (fun w' hb'=>hG w w' hb' hg) rfl (Qn hN ha hlt hargs)) fun e a' w' ⟨F',m',hw,hs,hret⟩=>?_
 subst hw
 obtain ⟨he,ids,hnd,hids,hres⟩:=hret
 obtain ⟨es,hes⟩:=ents hs.tot hids
 have hS:∀ b,m'.S false b→OU S w m'.w es false b:=fun b hb'=>⟨rfl,(hs.S b hb').elim .inl fun hle=>.inr ⟨hle,hs.cx.lt _ _ hb',fun e he hown=>by
  obtain ⟨k,hk⟩:=fe he
  obtain ⟨id,hid⟩:∃ id,ids[k]?=some id:=⟨_,gE (by have:=(gS.1 hk).1;have:=hes.1;omega)⟩
  exact hs.cx.far id e b false (hes.2 k id e hid hk) hown hb'⟩⟩
 have hdat:∀ {x:D} {v:Value},DQ x→Br m'.w m'.S x v→Br m'.w (OU S w m'.w es) x v:=fun hx hv=>Br.free hS hv hx
 have hnew:AnC w m'.w (OU S w m'.w es) rows es:=by
  refine ⟨by rw [←hes.1,hids.1],fun k e hk=>?_,List.pairwise_iff_getElem.2 fun i j hi hj hij=>?_⟩
  ·obtain ⟨id,hid⟩:∃ id,ids[k]?=some id:=⟨_,gE (by have:=(gS.1 hk).1;have:=hes.1;omega)⟩
   obtain ⟨r,hr,hHr,hfr⟩:=hids.at_ hid
   have hE:=hes.2 k id e hid hk
   obtain ⟨hat,ob,hob,hrel⟩:=hs.cx.each id e hE
   rw [hHr] at hob
   cases hob
   cases e with
   | box g vs t=>exact hrel.elim
   | row v' ty' s' n' xs =>
    obtain ⟨rfl,rfl,rfl,hl⟩:=hrel
    refine ⟨r,v',xs,hr,rfl,hat,⟨by rw [←hl.1,af],fun j d v hd hv=>?_⟩⟩
    exact hdat (hfr d (gM hd)) (hl.2 j (.d d) v (by rw [ag,hd];rfl) hv)
  ·have h1:=hes.1
   refine hs.cx.apart (ids[i]'(by omega)) (ids[j]'(by omega)) _ _ (List.pairwise_iff_getElem.1 hnd i j (by omega) (by omega) hij) ?_ ?_
   ·exact hes.2 i _ _ (gE _) (gE _)
   ·exact hes.2 j _ _ (gE _) (gE _)
 have hyc:∀ {y:Yr} {c:C} {v:Value},YC ids rows y c→DR m' c v→AjR m'.w (OU S w m'.w es) rows es y v:=fun {y c v} hy hv=>by
  cases y with
  | d x =>
   obtain ⟨rfl,hx⟩:=hy
   exact hdat hx hv
  | own k n =>
   obtain ⟨id,r,hid,hr,rfl,rfl⟩:=hy
   obtain ⟨hone,ob,hob,_,hk⟩:=hv
   have hHr:=(hids.2 k id r hid hr).1
   rw [hHr] at hob
   cases hob
   obtain ⟨e,hE,hve⟩:=hk rfl
   obtain ⟨e',he',hE'⟩:=hes.at_ hid
   rw [hE] at hE'
   cases hE'
   exact ⟨hone,e,r,he',hr,rfl,hve⟩
 have hfin:∃ v,(results fn a'.tmps).run P m'.w=.ok v m'.w∧AnB m'.w (OU S w m'.w es) rows es res v:=by
  cases hres with
  | @tmp t y c hr hF hy =>
   have hx:=hs.frame t
   rw [hF] at hx
   exact ⟨_,OE hr rfl,hyc hy hx⟩
  | @cell t ty ty' id d cs ys hr hF hH hu hd hi hl =>
   have hx:=hs.frame t
   rw [hF] at hx
   obtain ⟨g,us,hv,hE,_,hg',hl2⟩:=Ph hs.cx hx hH
   refine ⟨.agg us.toArray,OE hr ?_,us,rfl,by rw [hl.1,hl2.1],fun j y u hy hu'=>?_⟩
   ·simp only [TV,hv,asAddr,ah,bu,au]
    exact Agf
   ·obtain ⟨c,hc,hyj⟩:=hl.at_ hy
    exact hyc hyj (hl2.2 j c u hc hu')
  | tup hr hq =>
   obtain ⟨vs,h1,h2⟩:=Tu (R:=AnA m'.w (OU S w m'.w es) rows es) (tmps:=a'.tmps) (P:=P) (w:=m'.w) hr (hq.imp fun r y hry=>by
    cases hry with
    | @tmp t y c hF hy =>
     have hx:=hs.frame t
     rw [hF] at hx
     exact ⟨_,rfl,hyc hy hx⟩
    | @cell t ty ty' id d cs ys hF hH hu hd hi hl =>
     have hx:=hs.frame t
     rw [hF] at hx
     obtain ⟨g,us,hv,hE,_,hg',hl2⟩:=Ph hs.cx hx hH
     refine ⟨.agg us.toArray,?_,us,rfl,by rw [hl.1,hl2.1],fun j y u hy hu'=>?_⟩
     ·simp only [TV,hv,asAddr,ah,bu,au]
      exact Agf
     ·obtain ⟨c,hc,hyj⟩:=hl.at_ hy
      exact hyc hyj (hl2.2 j c u hc hu'))
   exact ⟨_,h1,vs,rfl,h2⟩
 obtain ⟨v,hrun,hv⟩:=hfin
 rcases he with rfl|rfl
 ·exact ⟨hs.defers,v,hrun,v,es,rfl,hnew,hv,hs.below⟩
 ·exact ⟨hs.defers,v,hrun,v,es,rfl,hnew,hv,hs.below⟩
section
variable {P:Program} {G:World→Prop} {o:Oper} {F:Frm} {H:List Ob}
theorem Lc {c:Code} (ho:o.op=.call { callee:=.value (.func f),args:=xs,argTypes:=ts })
  (hf : P.funcs[f]? = some fn) (hn : (fn.name == "runtime.NumGoroutine") = false) (hb : fn.body = some c) {args : List A} {rows : List Nw} {res : YR} (h : CVN P G f args rows res) (ha : AY (fun x y => Ip true H (F.ev x) y) xs.toList args) :
  AN P G o F H (res.x H.length) (rows.map Nw.ob):=by
 intro b0 m a hp hx hg hb0 hE hor K Q hK
 have hp0:H <+: m.H:=(jj _ _).trans hp
 have hxs:∀ x∈xs.toList,Fj m (F.ev x) (a.eval x):=fun x hm=>Ba hor (by
  rw [ho]
  simp only [Op.operands,Call.operands,ir,iu]
  exact .inr hm)
 let Sx:Eh:=fun t b=>m.S t b∨(t=true∧∃ id e,m.E id=some e∧e.own=some b)
 have hcalls:=h m.w Sx (xs.toList.map a.eval) hg (fun t b hb=>by
  rcases hb with hb|⟨_,id,e,he,hown⟩
  ·exact hx.lt t b hb
  ·exact (Et.lt (hx.each id e he).1 hown).2) ⟨by rw [af];exact ha.1.symm,fun j y v hy hv=>by
   simp only [ag,ct] at hv
   obtain ⟨x,hxj,rfl⟩:=hv
   exact Ip.rel hx (fun b hb=>.inl hb) (fun _ b hb=>.inl hb) (fun id e g he hg=>.inr ⟨rfl,id,e,he,hg⟩) ((ha.2 j x y hxj hy).pre hp0) (hxs x (gM hxj))⟩
 unfold Oper.wp execOp
 simp only [ho,resolve,Act.eval,Deferred.ofValue,ah,bu,au,invoke]
 rw [Ew hf hn hb]
 rw [gl]
 have he:((#[]:Array Value)++xs.map a.eval++#[])=(xs.toList.map a.eval).toArray:=fp (by simp)
 simp only [he]
 refine hcalls.mono fun e w' ⟨v,es,hev,hnew,hres,hbel⟩=>?_
 subst hev
 have hS:∀ t b,OU Sx m.w w' es t b→(m.plus w' H.length es).S t b:=fun t b hb=>by
  obtain ⟨rfl,h1|h1⟩:=hb
  ·rcases h1 with h1|⟨h1,_⟩
   ·exact .inl h1
   ·cases h1
  ·exact .inr ⟨rfl,h1.1,h1.2.1,h1.2.2⟩
 have hobs:∀ (k:Nat) (r:Nw),rows[k]?=some r→m.H[H.length+k]?=some r.ob:=fun k r hk=>getElem?_pre hp (by
  rw [du (by omega),show H.length+k - H.length=k by omega,ag,hk]
  rfl)
 have hEe:∀ (k:Nat) (e:Et),es[k]?=some e→(m.plus w' H.length es).E (H.length+k)=some e:=fun k e hk=>by
  have hlt:=(gS.1 hk).1
  show (if H.length≤H.length+k∧H.length+k<H.length+es.length then es[H.length+k - H.length]? else _)=some _
  rw [if_pos ⟨by omega,by omega⟩,show H.length+k - H.length=k by omega]
  exact hk
 have hyr:∀ {y:Yr} {u:Value},AjR w' (OU Sx m.w w' es) rows es y u→DR (m.plus w' H.length es) (y.c H.length) u:=fun {y u} hy=>by
  cases y with
  | d x=>exact Br.mono hS (fun _ _ _=>rfl) hy
  | own k n =>
   obtain ⟨hone,e,r,he,hr,rfl,rfl⟩:=hy
   exact ⟨hone,_,hobs k r hr,(fun n1 n2 h1 h2=>by cases h1;cases h2;exact aa _),fun _=>⟨_,hEe k e he,rfl⟩⟩
 refine hK v w' es ⟨by rw [hnew.len,af],hbel,fun k e hk=>?_,hnew.apart⟩ ?_
 ·obtain ⟨r,v',xs',hr,rfl,hat,hl⟩:=hnew.each k e hk
  refine ⟨⟨hat.1,hat.2.imp id fun ⟨g,cap,cur,e,hb,r⟩=>⟨g,cap,cur,e,lT hb0 hb,r⟩⟩,fun g hg'=>(Et.lt hat hg').1,r.ob,by rw [ag,hr];rfl,rfl,rfl,rfl,⟨by rw [af];exact hl.1,fun j c u hc hu=>?_⟩⟩
  rw [ag,ct] at hc
  obtain ⟨d,hd,rfl⟩:=hc
  exact Br.mono hS (fun _ _ _=>rfl) (hl.2 j d u hd hu)
 ·cases res with
  | one y=>exact hyr hres
  | agg ys =>
   obtain ⟨us,rfl,hl⟩:=hres
   exact ⟨us,rfl,by rw [af];exact hl.1,fun j c u hc hu=>by
    rw [ag,ct] at hc
    obtain ⟨y,hy,rfl⟩:=hc
    exact hyr (hl.2 j y u hy hu)⟩
  | tup l =>
   obtain ⟨us,rfl,hl⟩:=hres
   exact ⟨us,rfl,by rw [af];exact hl.1,fun j c u hc hu=>by
    rw [ag,ct] at hc
    obtain ⟨y,hy,rfl⟩:=hc
    have h1:=hl.2 j y u hy hu
    cases y with
    | one y=>exact hyr h1
    | agg ys =>
     obtain ⟨xs,rfl,h2⟩:=h1
     exact ⟨xs,rfl,by rw [af];exact h2.1,fun j c u hc hu=>by
      rw [ag,ct] at hc
      obtain ⟨y,hy,rfl⟩:=hc
      exact hyr (h2.2 j y u hy hu)⟩⟩
def TC.x:TC→X
 | .one c=>.one c
 | .agg cs=>.agg cs
theorem WE {x:Operand} {i:Nat} {l:List TC} {y:TC} (ho:o.op=.extract x i) (hx:F.ev x=.tupC l) (hy:l[i]?=some y):AN P G o F H y.x []:=BN fun b0 m a _ _ hor=>by
 have hv:=Ba hor (x:=x) (by rw [ho];simp [Op.operands])
 rw [hx] at hv
 obtain ⟨vs,hv,hl⟩:=hv
 obtain ⟨u,hu,hr⟩:=hl.at_ hy
 refine ⟨u,?_,?_⟩
 ·unfold execOp
  simp [ho,hv,Instr.extract,hu]
 ·cases y <;> exact hr
theorem AbH {x:Operand} {l:List TC} (ho:o.op=.move x) (hx:F.ev x=.tupC l):AN P G o F H (.tupC l) []:=by rw [←hx];exact TX ho
theorem AbI {c:Code} {args:List A} {ty:TypeId} {ds:List D} (ho:o.op=.call { callee:=.value (.func f),args:=xs,argTypes:=ts })
  (hf : P.funcs[f]? = some fn) (hn : (fn.name == "runtime.NumGoroutine") = false) (hb : fn.body = some c) (h : CVN P G f args [⟨ty, s, n, ds⟩] (.one (.own 0 n))) (ha : AY (fun x y => Ip true H (F.ev x) y) xs.toList args) :
  AN P G o F H (.one (.own H.length n)) [.row ty s n (ds.map C.d)]:=Lc ho hf hn hb h ha
theorem AbJ {c:Code} {args:List A} {ty ty' ty2:TypeId} {s' s2 n' n2:Nat} {ds ds' ds2:List D} (ho:o.op=.call { callee:=.value (.func f),args:=xs,argTypes:=ts })
  (hf : P.funcs[f]? = some fn) (hn : (fn.name == "runtime.NumGoroutine") = false) (hb : fn.body = some c) (h : CVN P G f args [⟨ty, s, n, ds⟩, ⟨ty', s', n', ds'⟩, ⟨ty2, s2, n2, ds2⟩] (.agg [.own 0 n, .own 1 n', .own 2 n2])) (ha : AY (fun x y => Ip true H (F.ev x) y) xs.toList args) :
  AN P G o F H (.agg [.own H.length n,.own (H.length+1) n',.own (H.length+2) n2]) [.row ty s n (ds.map C.d),.row ty' s' n' (ds'.map C.d),.row ty2 s2 n2 (ds2.map C.d)]:=Lc ho hf hn hb h ha
theorem Jl {ops:Array Oper} {K:Frm→List Ob→Prop} {d:Tmp} {xx:X} {obs:List Ob} (h:AN P G o F H xx obs) (k:Ti P G ops l (F.put (some d) xx) (H++obs) K) (hg:o.guard=none:=by with_unfolding_all exact rfl) (hd:o.dst=some d:=by with_unfolding_all exact rfl):Ti P G ops (o::l) F H K:=by
 refine Akt hg h ?_
 rw [congrArg (fun q=>F.put q xx) hd]
 exact k
def D.pl:D→Bool
 | .val _=>true
 | _=>false
def A.pl:A→Bool
 | .one d=>d.pl
 | .agg ds=>ds.all D.pl
theorem AbK {w':World} {S':Eh} {d:D} {v:Value} (hd:d.pl=true) (h:Br w S d v):Br w' S' d v:=by
 cases h with
 | val hv=>exact .val hv
 | row=>cases hd
 | ptr=>cases hd
theorem AbL {S':Eh} {x:A} {v:Value} (hd:x.pl=true) (h:EM w S x v):EM w S' x v:=by
 cases x with
 | one d=>exact AbK hd h
 | agg ds =>
  obtain ⟨xs,h1,h2⟩:=h
  exact ⟨xs,h1,h2.1,fun j d u hj hu=>AbK (List.all_eq_true.1 hd d (gM hj)) (h2.2 j d u hj hu)⟩
theorem Fa {c:Code} (ho:o.op=.call { callee:=.value (.func f),args:=xs,argTypes:=ts })
  (hf : P.funcs[f]? = some fn) (hn : (fn.name == "runtime.NumGoroutine") = false) (hb : fn.body = some c) {args res : List A} (hpl : res.all A.pl = true) (h : CV P G f args res) (ha : AY (fun x y => ∃ t, Ip t H (F.ev x) y) xs.toList args) :
  AN P G o F H (Ahk res) []:=by
 intro b0 m a hp hx hg hb0 _ hor K Q hK
 rw [az] at hp
 have hxs:∀ x∈xs.toList,Fj m (F.ev x) (a.eval x):=fun x hm=>Ba hor (by
  rw [ho]
  simp only [Op.operands,Call.operands,ir,iu]
  exact .inr hm)
 let Sx:Eh:=fun t b=>m.S t b∨(∃ id e,m.E id=some e∧e.own=some b)
 have hcalls:=h m.w Sx (xs.toList.map a.eval) hg (fun t b hb=>by
  rcases hb with hb|⟨id,e,he,hown⟩
  ·exact hx.lt t b hb
  ·exact (Et.lt (hx.each id e he).1 hown).2) ⟨by rw [af];exact ha.1.symm,fun j y v hy hv=>by
   simp only [ag,ct] at hv
   obtain ⟨x,hxj,rfl⟩:=hv
   obtain ⟨_,hxe⟩:=ha.2 j x y hxj hy
   exact Ip.rel hx (fun b hb=>.inl hb) (fun _ b hb=>.inl hb) (fun id e g he hg=>.inr ⟨id,e,he,hg⟩) (hxe.pre hp) (hxs x (gM hxj))⟩
 unfold Oper.wp execOp
 simp only [ho,resolve,Act.eval,Deferred.ofValue,ah,bu,au,invoke]
 rw [Ew hf hn hb]
 rw [gl]
 have he:((#[]:Array Value)++xs.map a.eval++#[])=(xs.toList.map a.eval).toArray:=fp (by simp)
 simp only [he]
 refine hcalls.mono fun e w' ⟨v,hev,hres,hbel⟩=>?_
 subst hev
 refine hK v w' [] ⟨rfl,hbel,fun k e hk=>by simp at hk,List.Pairwise.nil⟩ (Qm ?_)
 have hall:∀ y∈res,y.pl=true:=List.all_eq_true.1 hpl
 have hl:∀ {l:List A} {vs:List Value},(∀ y∈l,y.pl=true)→AY (EM w' (Ahd Sx m.w w')) l vs→AY (EM w' (m.plus w' H.length []).S) l vs:=fun hl h=>⟨h.1,fun j y u hy hu=>AbL (hl y (gM hy)) (h.2 j y u hy hu)⟩
 match res,hres,hall with
 | [],hres,ha=>obtain ⟨vs,h1,h2⟩:=hres;exact ⟨vs,h1,hl ha h2⟩
 | [x],hres,ha=>exact AbL (ha x (by simp)) hres
 | x::y::l,hres,ha=>obtain ⟨vs,h1,h2⟩:=hres;exact ⟨vs,h1,hl ha h2⟩
end
theorem WF {N:Nat} {F:Frm} {cs cs':List C} (id:Nat) (hH:H[id]?=some (.row ty s n cs)) (hc:∀ (m:Mm) (xs:List Value),AY (DR m) cs xs→AY (DR m) cs' xs):Wk N F H F (H.set id (.row ty s n cs')):=fun b0 w0 S0 a m hm hs=>by
 subst hm
 have hlt:=(gS.1 hH).1
 let m':Mm:={ m with H:=m.H.set id (.row ty s n cs') }
 have hH':∀ i (ob:Ob),m.H[i]?=some ob→∃ ob',m'.H[i]?=some ob'∧ob'.k=ob.k∧(i≠id→ob'=ob):=fun i ob hob=>by
  by_cases h:id=i
  ·subst h
   rw [hH] at hob
   cases hob
   exact ⟨_,gm hlt,rfl,fun h=>absurd rfl h⟩
  ·exact ⟨ob,by show (m.H.set id _)[i]?=_;rw [fu h];exact hob,rfl,fun _=>rfl⟩
 have hle:Le m m':=⟨fun _ _ h=>h,rfl,fun _ _ _=>rfl,fun i ob hob=>by
  obtain ⟨ob',h1,h2,_⟩:=hH' i ob hob
  exact ⟨ob',h1,fun k hk=>.inl ⟨by rw [←h2];exact hk,fun x hx=>⟨x,hx,rfl⟩⟩⟩⟩
 refine ⟨m',rfl,rfl,⟨⟨fun i x hx=>?_,hs.cx.apart,hs.cx.far,hs.cx.lt⟩,fun i ob hob hk=>?_,fun t'=>(hs.frame t').le hle,hs.size,hs.defers,hs.below,hs.base,hs.S,hs.T⟩⟩
 ·obtain ⟨h1,ob,h2,h3⟩:=hs.cx.each i x hx
  obtain ⟨ob',h4,_,h5⟩:=hH' i ob h2
  refine ⟨h1,ob',h4,?_⟩
  by_cases h:i=id
  ·subst h
   rw [hH] at h2
   cases h2
   have h4':(m.H.set i (.row ty s n cs'))[i]?=some ob':=h4
   rw [gm hlt] at h4'
   cases h4'
   cases x with
   | box g vs t=>exact h3.elim
   | row v t' s' n' xs =>
    obtain ⟨e1,e2,e3,hl⟩:=h3
    exact ⟨e1,e2,e3,(hc m xs hl).imp fun _ _=>DR.le hle⟩
  ·rw [h5 h]
   exact h3.le hle
 ·by_cases h:id=i
  ·subst h
   exact hs.tot id _ hH rfl
  ·have h2:(m.H.set id (.row ty s n cs'))[i]?=some ob:=hob
   rw [fu h] at h2
   exact hs.tot i ob h2 hk
theorem AbM {m:Mm}:∀ {n:Nat} {xs:List Value},AY (DR m) (cVs (List.replicate n none)) xs→AY (DR m) (cVs ((List.replicate n ((0,0):Pq)).map some)) xs
 | 0,xs,h=>h
 | n+1,xs,h=>by
  have h:AY (DR m) (cV none++cVs (List.replicate n none)) xs:=h
  obtain ⟨a,x1,rfl,h1,q1⟩:=h.uncons
  obtain ⟨b,x2,rfl,h2,q2⟩:=q1.uncons
  obtain ⟨c,x3,rfl,h3,q3⟩:=q2.uncons
  show AY (DR m) ((dyP (0,0)).map C.d++cVs ((List.replicate n ((0,0):Pq)).map some)) (a::b::c::x3)
  rw [show dyP (0,0)=[.val (.bool false),.row false 1 0 [],.val (.int .i64 0)] from zdy.symm]
  exact .cons_ h1 (.cons_ (Apm (w:=m.w) (S:=m.S) h2) (.cons_ h3 (AbM q3)))
theorem He (E:List Pq):cVs (E.map some)=(Av dyP E).map C.d:=by
 rw [Apl,dj]
 rfl
theorem Ajs (E:List Pq):gV (E.map some)=E:=by
 unfold gV
 rw [dj]
 exact (fh fun _ _=>rfl).trans (List.map_id E)
theorem AbN {t:Bool} {c:C} {y:D} {l:List Pq} (hc:c=.own id n) (hH:H[id]?=some (.row ty 3 n (cVs (l.map some)))) (hy:y=.row t 3 n (Av dyP l)):Fd t H c y:=AiB hc hH (by rw [Ajs];exact hy)
theorem Aog (xs:List Int):cI xs=(xs.map dI).map C.d:=by simp [cI,dI]
theorem Ds (l:List Int):∀ d∈l.map dI,DQ d:=fun d hd=>by
 obtain ⟨z,_,rfl⟩:=List.mem_map.1 hd
 exact .val _
theorem DI (l:List Pq):∀ d∈Av dyP l,DQ d:=fun d hd=>Cc (f:=dyP) (fun p=>Lz _ _) l d hd
theorem UU {t:Bool} {c:C} {y:D} {l:List Int} (hc:c=.own id n) (hH:H[id]?=some (.row ty 1 n (cI l))) (hy:y=.row t 1 n (l.map dI)):Fd t H c y:=by
 refine Cg hc hH hy ?_
 rw [Aog]
 exact AY.map_l.2 ⟨rfl,fun j a b ha hb=>by
  rw [ha] at hb
  cases hb
  exact .d fun _=>Ds l a (gM ha)⟩
theorem Cn {t:Bool} {cs:List C} {ds:List D} (hc:cs=ds.map C.d) (h:∀ d∈ds,DQ d):AY (Fd t H) cs ds:=by
 subst hc
 exact AY.map_l.2 ⟨rfl,fun j a b ha hb=>by rw [ha] at hb;cases hb;exact .d fun _=>h _ (gM ha)⟩
theorem Rm {F:Frm} {ids:List Nat} {rows:List Nw} {t:Tmp} {ty' k:Nat} {cs:List C} {ys:List Yr} (hk:TyK P ty true k) (hF:F t=.one (.ref id 0 none)) (hH:H[id]?=some (.box ty' cs)) (hi:cs.length=k) (h:AY (YC ids rows) ys cs):RVT P F H ids rows (.cell t ty) (.agg ys):=by
 obtain ⟨⟨d,hu,hd⟩,hz⟩:=hk
 exact .cell hF hH hu hd (by rw [hz,hi]) h
theorem Aep {k:Int} {x:Pq} (h:¬ Ir (pw k) x<0):Yh n k x=k:=by
 cases n with
 | zero=>rfl
 | succ n=>unfold Yh;rw [if_neg h]
theorem UV {α:Type} {l:List α} {j:Nat} {i:α} (h:l[j]?=some i):l.drop j=i::l.drop (j+1):=by
 obtain ⟨hlt,he⟩:=gS.1 h
 rw [←he,←dv hlt]
def Yi (F:List Int) (k:Nat):List Int:=XW (F.take k)++F.drop k
theorem Aeq (F:List Int) (k:Nat):(Yi F k).length=F.length:=by
 unfold Yi XW
 rw [ak,af,←ak,ic]
theorem Ajt {k:Nat} {f:Int} (h:F[k]?=some f):(Yi F k)[k]?=some f∧(Yi F k).set k (AjQ f)=Yi F (k+1)∧AbD (F.take (k+1))=(AbD (F.take k) || decide (0<f)):=by
 have hk:=(gS.1 h).1
 have hl:(XW (F.take k)).length=k:=by unfold XW;rw [af,ef];omega
 have e:F.take (k+1)=F.take k++[f]:=by rw [ay,h];rfl
 refine ⟨?_,?_,?_⟩
 ·unfold Yi
  rw [du (by omega),hl,ei,bq,bz]
  exact h
 ·unfold Yi
  rw [List.set_append_right _ _ (by omega),hl,ei,UV h,e]
  unfold XW
  rw [fv,List.append_assoc]
  rfl
 ·rw [e]
  unfold AbD
  rw [List.any_append]
  simp
def chW (n:Nat) (b:Bool) (F:List Int):List Nw:=if b=true then [⟨3,1,n,F.map dI⟩] else []
def chY (n:Nat) (b:Bool):YR:=if b=true then .tup [.one (.own 0 n),.one (.d (.val (Rr 0)))] else .tup [.one (.d (.val (.slice none 0 0))),.one (.d (.val (Rr 4)))]
def erW (n:Nat):Option (List Pq)→List Nw
 | none=>[]
 | some E=>[⟨43,3,n,Av dyP E⟩]
def erY (n:Nat):Option (List Pq)→YR
 | none=>.tup [.one (.d (.val (.slice none 0 0))),.one (.d (.val (.bool false)))]
 | some _=>.tup [.one (.own 0 n),.one (.d (.val (.bool true)))]
def mkW (n:Nat):Option Ct→List Nw
 | none=>[]
 | some c=>[⟨3,1,n,c.F.map dI⟩,⟨43,3,n,Av dyP c.E⟩]
def mkY (n:Nat):Option Ct→YR
 | none=>.tup [.agg [.d (.val (.slice none 0 0)),.d (.val (.slice none 0 0)),.d (.val (.slice none 0 0))],.one (.d (.val (.bool false))),.one (.d (.val (Rr 0)))]
 | some c=>.tup [.agg [.own 0 n,.d (.row false 6 n (Av (dIw false) c.R)),.own 1 n],.one (.d (.val (.bool true))),.one (.d (.val (Rr 0)))]
theorem XX (x:Pq) (sx:Sm x 40064 62):CV prog Ah 184 [aDy false x.1 x.2] [aDy false (AbC x).1 (AbC x).2]:=by
 refine cvz func184 ntmps184 ?_
 have U0:=OA 62 (by decide) (by decide)
 repeat' (with_reducible first|refine qq ?_|(refine Tx 0 ?_;refine gN xBo <| gN (xAl Aj) ?_)|(refine Tx 1 ?_;refine gO (xCl func218 (U0)) <| gN (xAl Aj) <| gZ (xSk Aa) ?_))
 refine AQ (Bu 3) (Aq (fun n Fr H=>∃ k:Int,-62≤k∧k≤40064∧40064≤k+n∧Yh n k x=Yh 50000 (-62) x∧Fr=ofL [(1,vr 0),(2,vr 1),(3,vr 2)]∧H=[.box 43 ((dyP x).map C.d),.box 43 [.d (.val (.bool false)),.d (.val (.slice none 0 0)),.d (.val (.int .i64 0))],.box 43 ((dyP (pw k)).map C.d)]) (n0:=50000) ⟨-62,by decide,by decide,by decide,rfl,rfl,rfl⟩ ?_)
 rintro n Fr H ⟨k,k0,k1,kn,hres,rfl,rfl⟩
 have sp:=Ts k0 k1
 have st:=WC sx k0 k1
 have nx:=fun h=>Ajq (k:=k) k0 h
 have hstop:=Aep (n:=n) (k:=k) (x:=x)
 have CM:=BZ (pw k).1 (pw k).2 x.1 x.2 sp.ok sx.ok sp.lz sx.lz
 have SH:=BH (pw k).1 (pw k).2 1 sp.ok sp.lz (by have:=sp.d;omega)
 have hqe:Ir (pw k) x=BI (pw k).1 (pw k).2 x.1 x.2:=rfl
 by_cases hc:Ir (pw k) x<0
 case pos =>
  have k2:=st hc
  rw [show Ae (pw k).1 (pw k).2 1=pw (k+1) from nx (by omega)] at SH
  cases n
  case zero=>omega
  rename_i n
  rw [show Yh (n+1) k x=Yh n (k+1) x by rw [Yh,if_pos hc]] at hres
  rw [hqe] at hc
  clear st nx hstop hqe sp
  generalize BI (pw k).1 (pw k).2 x.1 x.2=q at *
  generalize pw k=p at *
  repeat' (with_reducible first|refine qq ?_|(refine Tx 2 ?_;refine gO xL <| gO xL <| gO (xCl func15 (CM)) <| gO xLt ?_)|(refine Tx 3 ?_;refine gO xL <| gO (xCl func21 (SH)) <| gZ (xSk Aa) ?_))
  refine ⟨_,_,Bu 3,_,?_,k+1,by omega,by omega,by omega,hres,rfl,rfl⟩
  ·omega
 rw [show AbC x=pw k by unfold AbC;rw [←hres,hstop hc]]
 rw [hqe] at hc
 clear st nx hstop hqe sp SH
 generalize BI (pw k).1 (pw k).2 x.1 x.2=q at *
 generalize pw k=p at *
 repeat' (with_reducible first|refine qq ?_|(refine Tx 2 ?_;refine gO xL <| gO xL <| gO (xCl func15 (CM)) <| gO xLt ?_)|(refine Tx 4 ?_;refine gO xL <| gZ (xSk Aa) ?_))
 exact Cy
theorem Apn (a:Iq) (f m:Int) (h:IwS a LB LB) (f0:0≤f) (f1:f≤30) (m0:0≤m) (m1:m≤2147483647):CV prog Ah 181 [aIw false a,aI f,aI m] [aB (wiB a f m)]:=by
 refine cvz func181 ntmps181 ?_
 have MG:=IV a (h.more LBx LBx)
 have sg:=IZ h
 obtain ⟨M,hM⟩:∃ M,FX a=M:=⟨_,rfl⟩
 rw [hM] at MG sg
 have SH:=BH M.1 M.2 f sg.ok sg.lz (by have:=sg.ok.1;omega)
 have st:=FE sg f0 f1
 obtain ⟨T,hT⟩:∃ T,DP M f=T:=⟨_,rfl⟩
 rw [hT] at st
 rw [show Ae M.1 M.2 f=T from hT] at SH
 have OF:=Ff m (by omega) (by omega)
 have CM:=BZ T.1 T.2 m 0 st.ok ⟨by decide,fun h=>absurd rfl h⟩ st.lz (lT (AC (k:=2) (by omega)) (by decide))
 rw [show wiB a f m=decide (BI T.1 T.2 m 0≤0) by unfold wiB;rw [hM,hT]]
 generalize BI T.1 T.2 m 0=q at *
 repeat' (with_reducible first|refine qq ?_|(refine Tx 0 ?_;refine gN xBo <| gO xA ?_)|(refine Tx 1 ?_;refine gO xL <| gO (xCl func159 (MG)) <| gO xM <| gO (xCl func21 (SH)) <| gO xM <| gO (xCl func68 (OF)) <| gO (xCl func15 (CM)) <| gO xLe <| gO xA ?_))
 exact LZ
theorem Aer (t:Bool) {ps:List Prt} {bs:List Bk} {os:List Int} (hl:EB ps bs os) (h0:Bc ps bs os=0) (R:List Iq) (hR:R.length=bs.length) (sR:∀ p∈R,IwS p LB LB):CV prog Ah 180 [aDg t ps bs os,.one (.row false 6 R.length (Av (dIw false) R))] [aE 0]:=by
 refine cvz func180 ntmps180 ?_
 have CK:=(IO t hl (ps:=ps) (bs:=bs) (os:=os)).cv
 rw [h0] at CK
 have hn:=hl.l2
 repeat' (with_reducible first|refine qq ?_|(refine Tx 0 ?_;refine gN xBo <| gO xA ?_)|(refine Tx 1 ?_;refine gO xL <| gO (xCl func35 (CK)) <| gO xA ?_)|(refine Tx 2 ?_;refine gO xM <| gO (xNE Al) ?_)|(refine Tx 4 ?_;refine gO xM <| gO xN <| gO xF <| gO xD <| gO xN <| gO xNe ?_)|(refine Tx 6 ?_;refine gO xM <| gO xN <| gO xM ?_))
 refine AQ (Bu 1) (Aq (fun n Fr H=>∃ k:Nat,k≤R.length∧n=R.length - k∧Fr=ofL [(2,vr 0),(20,vd (.row false 6 R.length (Av (dIw false) R))),(21,vi R.length),(22,vi ((k:Nat)))]∧H=[.box 26 [.d (DJ t ps),.d (Dc t bs),.d (Bd t os)]]) (n0:=R.length) ⟨0,ad _,rfl,rfl,rfl⟩ ?_)
 rintro n Fr H ⟨k,hk,rfl,rfl,rfl⟩
 by_cases hlt:k<R.length
 case pos =>
  obtain ⟨b,hb⟩:∃ b,R[k]?=some b:=⟨_,gE hlt⟩
  have sb:=sR b (gM hb)
  have VI:CV prog Ah 122 [aIw false b] [aB true]:=by
   have:=GZ (CY b.1) (CY b.2) (Hq sb.s1 (by decide)) (Hq sb.s2 (by decide))
   rw [XI sb] at this
   have e:dIr false (CY b.1,CY b.2)=dIw false b:=by show dRv false (CY b.1)++dRv false (CY b.2)=_;rw [GD,GD];rfl
   rw [e] at this
   exact this
  repeat' (with_reducible first|refine qq ?_|(refine Tx 7 ?_;refine gO xLt ?_)|(refine Tx 8 ?_;refine gO (xIr Ag (Im hb)) <| gO xL <| gN (xAl Ak) <| gZ (xSk Ac) ?_)|(refine Tx 9 ?_;refine gO xL <| gO (xCl func122 (VI)) <| gO DX ?_)|(refine Tx 11 ?_;refine gO xAd <| gO xM ?_))
  refine ⟨_,_,Bu 1,_,by omega,k+1,by omega,rfl,rfl,rfl⟩
 obtain rfl:k=R.length:=by omega
 repeat' (with_reducible first|refine qq ?_|(refine Tx 7 ?_;refine gO xLt ?_)|(refine Tx 12 ?_;refine gO xA ?_))
 exact Ax rfl (.cons_ (Gl rfl rfl) .nil_)
theorem XY (t:Bool) {ps:List Prt} {bs:List Bk} {os:List Int} (hl:EB ps bs os) (h0:Bc ps bs os=0) (R:List Iq) (hR:R.length=bs.length) (sR:∀ p∈R,IwS p LB LB):CVN prog Ah 86 [aDg t ps bs os,.one (.row false 6 R.length (Av (dIw false) R))] (chW R.length (R.all pkB) (R.map pkS)) (chY R.length (R.all pkB)):=by
 refine Tv QA func86 rfl ntmps86 (bi rfl) ?_
 have GC:=Aer t hl h0 R hR sR
 have hn:=hl.l2
 repeat' (with_reducible first|refine qq ?_|(refine Tx 0 ?_;refine gN xBo <| gO xA <| gO xA ?_)|(refine Tx 1 ?_;refine gO xL <| gO xM <| gO (xCl func180 (GC)) <| gO xA ?_)|(refine Tx 2 ?_;refine gO xM <| gO (xNE Al) ?_)|(refine Tx 4 ?_;refine gO xA ?_))
 refine AQ (IC 7 3 1 rfl) ?_
 repeat' (with_reducible first|refine qq ?_|(refine Tx 5 ?_;refine gO xM <| gO xN <| gO xM ?_))
 refine AQ (Bu 2) (Aq (fun n Fr H=>∃ k:Nat,k≤R.length∧n=R.length - k∧(∀ p∈R.take k,pkB p=true)∧Fr=ofL [(2,vr 0),(7,vo 1 (k)),(17,vd (.row false 6 R.length (Av (dIw false) R))),(18,vi R.length),(19,vi ((k:Nat)))]∧H=[.box 26 [.d (DJ t ps),.d (Dc t bs),.d (Bd t os)],.row 3 1 (k) (cI ((R.map pkS).take (k)))]) (n0:=R.length) ⟨0,ad _,rfl,(fun p hp=>by simp at hp),rfl,rfl⟩ ?_)
 rintro n Fr H ⟨k,hk,rfl,hal,rfl,rfl⟩
 by_cases hlt:k<R.length
 case pos =>
  obtain ⟨b,hb⟩:∃ b,R[k]?=some b:=⟨_,gE hlt⟩
  have sb:=sR b (gM hb)
  repeat' (with_reducible first|refine qq ?_|(refine Tx 6 ?_;refine gO xLt ?_)|(refine Tx 7 ?_;refine gO (xIr Ag (Im hb)) <| gO xL <| gN (xAl Ak) <| gZ (xSk Ac) ?_)|(refine Tx 8 ?_;refine gO xA ?_))
  refine AQ (Bu 3) (Aq (fun n Fr H=>n≤31∧pkF b n=pkS b∧Fr=ofL [(2,vr 0),(7,vo 1 (k)),(17,vd (.row false 6 R.length (Av (dIw false) R))),(18,vi R.length),(19,vi ((k:Nat))),(9,vr 2),(10,vi (((n:Nat):Int) - 1))]∧H=[.box 26 [.d (DJ t ps),.d (Dc t bs),.d (Bd t os)],.row 3 1 (k) (cI ((R.map pkS).take (k))),.box 45 ((dIw false b).map C.d)]) (n0:=31) ⟨aa _,rfl,rfl,rfl⟩ ?_)
  rintro n Fr H ⟨hn31,hpk,rfl,rfl⟩
  cases n
  case zero =>
   have hpk:(-1:Int)=pkS b:=hpk
   have hnb:R.all pkB=false:=AfP hb (decide_eq_false (by omega))
   rw [show chW R.length (R.all pkB) (R.map pkS)=[] by rw [hnb];rfl,show chY R.length (R.all pkB)=.tup [.one (.d (.val (.slice none 0 0))),.one (.d (.val (Rr 4)))] by rw [hnb];rfl]
   repeat' (with_reducible first|refine qq ?_|(refine Tx 9 ?_;refine gO xM <| gO xGe <| gO xM ?_;(first|iterate 2 refine Jd ?_|(refine Jy (xLa Ac) ?_;refine Jy xM1 ?_));refine Jd ?_;(first|refine Jd ?_|refine Jy DX ?_);refine gO xPk ?_)|(refine Tx 11 ?_;refine gO xM <| gO xLt ?_)|(refine Tx 12 ?_;refine gO (xMi underlying109) <| gO xA <| gO xA ?_))
   exact ⟨.inl rfl,[],by decide,.nil_,.tup (congrArg Array.toList results86) (.cons_ (.tmp rfl ⟨rfl,.val _⟩) (.cons_ (.tmp rfl ⟨rfl,.val _⟩) .nil_))⟩
  rename_i n
  have WI:=Apn b ((n+1:Nat) - 1:Int) 1073741824 sb (by omega) (by omega) (by decide) (by decide)
  have hpk:(if wiB b (n:Int) 1073741824=true then (n:Int) else pkF b n)=pkS b:=hpk
  have hne:(((n+1:Nat):Int) - 1)=(n:Int):=by omega
  rw [hne] at WI
  cases hw:wiB b (n:Int) 1073741824
  case false =>
   rw [hw] at WI hpk
   rw [if_neg (by decide)] at hpk
   rw [hne]
   repeat' (with_reducible first|refine qq ?_|(refine Tx 9 ?_;refine gO xM <| gO xGe <| gO xM ?_;(first|iterate 4 refine Jd ?_|(refine Jy (xLa Ac) ?_;refine Jy xM1 ?_;refine Jy (xCl func181 (WI)) ?_;refine Jy DX ?_));refine gO xPk ?_)|(refine Tx 10 ?_;refine gO xM <| gO xSb <| gO xA ?_))
   refine ⟨_,_,Bu 3,n,by omega,by omega,hpk,rfl,rfl⟩
  rw [hw] at WI hpk
  rw [if_pos rfl] at hpk
  have hpb:pkB b=true:=decide_eq_true (by omega)
  have hmp:(R.map pkS)[k]?=some (n:Int):=by rw [ag,hb,hpk];rfl
  have hap:((R.map pkS).take (k))++[(n:Int)]=((R.map pkS).take (k+1)):=by rw [ay,hmp];rfl
  rw [hne]
  repeat' (with_reducible first|refine qq ?_|(refine Tx 9 ?_;refine gO xM <| gO xGe <| gO xM ?_;(first|iterate 4 refine Jd ?_|(refine Jy (xLa Ac) ?_;refine Jy xM1 ?_;refine Jy (xCl func181 (WI)) ?_;refine Jy DX ?_));refine gO xPk ?_)|(refine Tx 11 ?_;refine gO xM <| gO xLt ?_)|(refine Tx 13 ?_;refine gO xM <| gO xM <| gN (by exact Cf rfl Ad CJ rfl rfl (by decide) (by decide)) <| gT (by exact Sj rfl rfl rfl rfl rfl rfl Ad CJ (by omega) (by decide) hap rfl) <| gO xA ?_)|(refine Tx 14 ?_;refine gO xAd <| gO xM ?_))
  refine ⟨_,_,Bu 2,_,by omega,k+1,by omega,rfl,Fw hal hb hpb,rfl,rfl⟩
 obtain rfl:k=R.length:=by omega
 rw [bc] at hal
 have hall:R.all pkB=true:=List.all_eq_true.2 hal
 rw [show chW R.length (R.all pkB) (R.map pkS)=[⟨3,1,R.length,(R.map pkS).map dI⟩] by rw [hall];rfl,show chY R.length (R.all pkB)=.tup [.one (.own 0 R.length),.one (.d (.val (Rr 0)))] by rw [hall];rfl]
 have hT:(R.map pkS).take R.length=R.map pkS:=al (by rw [af];exact aa _)
 rw [hT]
 repeat' (with_reducible first|refine qq ?_|(refine Tx 6 ?_;refine gO xLt ?_)|(refine Tx 15 ?_;refine gO xM <| gO xA <| gO xA ?_))
 exact ⟨.inl rfl,[1],by decide,.cons_ ⟨congrArg some (congrArg (Ob.row _ 1 _) (Aog _)),Ds _⟩ .nil_,.tup (congrArg Array.toList results86) (.cons_ (.tmp rfl ⟨1,_,rfl,rfl,rfl,rfl⟩) (.cons_ (.tmp rfl ⟨rfl,.val _⟩) .nil_))⟩
theorem AnF (h:p:=by first|exact xIr Ad (AI (Oc hi))|exact xIo (i:=i) Ad):p:=h
theorem Aju (h:p:=by first|exact Wa rfl rfl rfl rfl Aa tl stV|exact xSk Aa):p:=h
theorem AnG (h:p:=by first|exact Oa rfl rfl rfl ldV Aa|exact xLa BK):p:=h
theorem Rn (h:p:=by first|exact Oa rfl rfl rfl ldV Aa|exact xLa Aa):p:=h
theorem AnH (h:p:=by first|exact Oa rfl rfl rfl ldV Aa|exact xLa CA):p:=h
theorem Agg (k:p') (h:Hd9 p'→p:=by with_reducible first|(intro Z9;refine Tx 8 ?_;refine gO AnF <| gO xD <| gO xA ?_;exact Z9.o)|(intro Z9;refine Tx 9 ?_;refine gO xM <| gO xM <| gO AnG <| gO AnH <| gO xM <| gO xM <| gO (xCl func127 BD (ha:=by with_unfolding_all first|((repeat' first|exact Bh rfl rfl|refine Au rfl rfl ?_ ?_|refine DM rfl rfl ?_|refine BW rfl rfl ?_|exact AX rfl (fun h=>by cases h)|exact AbN rfl rfl rfl) <;> fail)|fail)) <| gO (xCl func182 (UP)) <| gO (xIo (i:=i) Af) <| gZ Aju ?_;exact Z9.o)|(intro Z9;refine Tx 10 ?_;refine gO xM <| gO xM <| gO (xIo (i:=i) Af) <| gO Rn <| gO (xCl func183 (FR)) ?_;exact Z9.o)|fail):p:=h ⟨k⟩
theorem Tw (k:p') (h:Hd9 p'→p:=by with_reducible first|(intro Z9;refine Tx 15 ?_;refine gO AnF <| gO xD <| gO xA ?_;exact Z9.o)|(intro Z9;refine AG (id:=16) 12 AV (by kernel_rfl) ?_;dsimp only [List.take,List.drop];refine gP xM <| gP xM <| gP (xIo (i:=i) Af) <| gP Rn <| gP AnG <| gP AnH <| gP xM <| gP xM <| gP (xCl func127 BD (ha:=by with_unfolding_all first|((repeat' first|exact Bh rfl rfl|refine Au rfl rfl ?_ ?_|refine DM rfl rfl ?_|refine BW rfl rfl ?_|exact AX rfl (fun h=>by cases h)|exact AbN rfl rfl rfl) <;> fail)|fail)) <| gP (xCl func182 (UP)) <| gP (xCl func156 (MX)) <| gQ (xAl Aj) ?_;refine Ke ?_;refine gZ (xSk Aa) ?_;exact Z9.o)|(intro Z9;refine Ca (id:=17) AV (by kernel_rfl) ?_;refine gP Rn <| gP xM <| gP xM <| gP (xIo (i:=i) Af) <| gP Rn <| gP (xCl func15 (CM)) <| gP xEq ?_;refine Ke ?_;exact Z9.o)|fail):p:=h ⟨k⟩
theorem WG (k:p') (h:Hd9 p'→p:=by with_reducible first|(intro Z9;refine Tx 18 ?_;refine gO xA ?_;exact Z9.o)|(intro Z9;refine Tx 19 ?_;refine gO xM <| gO xGe ?_;exact Z9.o)|(intro Z9;refine Tx 21 ?_;refine gO Rn <| gO (xCl func183 (FR)) ?_;exact Z9.o)|fail):p:=h ⟨k⟩
theorem WJ (h:p:=by
 exact ⟨.inl rfl,[],by decide,.nil_,.tup (congrArg Array.toList results87) (.cons_ (.tmp rfl ⟨rfl,.val _⟩) (.cons_ (.tmp rfl ⟨rfl,.val _⟩) .nil_))⟩):p:=h
theorem Agh (h:p:=by
 refine ⟨_,_,Ls _ 3 ?_ ?_ ?_,_,by omega,j+1,_,_,by omega,rfl,ho,hE.set (WB sX nX hf) nX i,rfl,rfl⟩
 ·rfl
 ·exact mB rfl rfl
 ·exact ⟨CN rfl,CN rfl,Aao,trivial⟩):p:=h
theorem Ty (t:Bool) {ps:List Prt} {bs:List Bk} {os:List Int} (hl:EB ps bs os) (h0:Bc ps bs os=0) (c:Ct) (xd:D) (hF:UT bs c.F) (hR:c.R.length=bs.length) (sR:∀ p∈c.R,IwS p LB LB) {res:Option (List Pq)} (hres:erA ps bs c.F c.R=res):CVN prog Ah 87 [aDg t ps bs os,.agg (dCx true c xd),.one (Bd false (BU (Dd bs))),.one (Bd false (BU (Bn bs)))] (erW bs.length res) (erY bs.length res):=by
 refine Tv QA func87 rfl ntmps87 (bi rfl) ?_
 have hn:=hl.l2
 have hpn:=hl.l1
 have hnl:=Cl (Bn bs)
 have hol:=Cl (Dd bs)
 have hob:=Aam (bs:=bs)
 have hdb:=LD bs
 repeat' (with_reducible first|refine qq ?_|(refine Tx 0 ?_;refine gN xBo <| gN xBo <| gO xA <| gO xA ?_)|(refine Tx 1 ?_;refine gO xF <| gO xD <| gO xN <| gN (by first|exact AdF (n:=bs.length) rfl rfl rfl Af Aj (by omega) (by decide)|exact Bs rfl rfl rfl Af Aj (by omega) (by decide)) <| gO xA ?_)|(refine Tx 2 ?_;refine gO xM ?_))
 refine AQ (WF 2 rfl fun _ _=>AbM) ?_
 refine AQ (Bu 3) (Aq (fun n Fr H=>∃ (r:Nat) (E:List Pq),r+n=128∧erR ps bs c.F c.R n r E=res∧Lb bs E∧Fr=ofL [(2,vd (Bd false (BU (Dd bs)))),(3,vd (Bd false (BU (Bn bs)))),(4,vr 0),(5,vr 1),(10,vo 2 bs.length),(22,vi ((r:Nat)))]∧H=[.box 26 [.d (DJ t ps),.d (Dc t bs),.d (Bd t os)],.box 30 [.d (Bd true c.F),.d (.row false 6 c.R.length (Av (dIw false) c.R)),.d xd],.row 43 3 bs.length (cVs (E.map some))]) (n0:=128) ⟨0,_,rfl,hres,.zero bs,rfl,rfl⟩ ?_)
 clear hres
 rintro n Fr H ⟨r,E,hrn,hres,hE,rfl,rfl⟩
 cases n
 case zero =>
  have hres:none=res:=hres
  subst hres
  repeat' (with_reducible first|refine qq ?_|(refine Tx 3 ?_;refine gO xLt ?_)|(refine Tx 28 ?_;refine gO xA <| gO xA ?_))
  exact WJ
 rename_i m
 unfold erR at hres
 obtain ⟨o,ho⟩:∃ o,erO ps bs c.F c.R (Dd bs) E=o:=⟨_,rfl⟩
 rw [ho] at hres
 repeat' (with_reducible first|refine qq ?_|(refine Tx 3 ?_;refine gO xLt ?_)|(refine Tx 4 ?_;refine gO xM <| gO xA ?_)|(refine Tx 5 ?_;refine gO xA ?_)|(refine Tx 6 ?_;refine gO xM <| gO xN <| gO xM ?_))
 refine AQ (Bu 3 (h:=by rw [←hol];exact mB rfl rfl)) (Aq (fun n Fr H=>∃ (j:Nat) (E:List Pq),j≤(Dd bs).length∧n=(Dd bs).length - j∧erO ps bs c.F c.R ((Dd bs).drop j) E=o∧Lb bs E∧Fr=ofL [(2,vd (Bd false (BU (Dd bs)))),(3,vd (Bd false (BU (Bn bs)))),(4,vr 0),(5,vr 1),(10,vo 2 bs.length),(11,vi ((r:Nat))),(12,vd (.val (.bool false))),(22,vi ((r:Nat))),(25,vd (Bd false (BU (Dd bs)))),(26,vi ((Dd bs).length)),(27,vi ((j:Nat)))]∧H=[.box 26 [.d (DJ t ps),.d (Dc t bs),.d (Bd t os)],.box 30 [.d (Bd true c.F),.d (.row false 6 c.R.length (Av (dIw false) c.R)),.d xd],.row 43 3 bs.length (cVs (E.map some))]) (n0:=(Dd bs).length) ⟨0,E,ad _,rfl,ho,hE,rfl,rfl⟩ ?_)
 clear ho hE
 rintro n Fr H ⟨j,E,hj,rfl,ho,hE,rfl,rfl⟩
 by_cases hlj:j<(Dd bs).length
 case pos =>
  obtain ⟨i,hi⟩:∃ i,(Dd bs)[j]?=some i:=⟨_,gE hlj⟩
  have hil:=(SI hi).1
  obtain ⟨y,hy⟩:∃ y,bs[i]?=some y:=⟨_,gE hil⟩
  have B:=UK h0 hy
  have hs2:=hF.sc i hil
  have hsa:y.kind≠0→∀ a∈y.args,0≤sG c.F a∧sG c.F a≤30:=fun k0 a ha=>by have:=B.all k0 a ha;exact hF.sc a.toNat (by omega)
  have BD:=LJ true xd t true os c E hE.len (Abz hE.sm) i hy B hF.len hR sR hn hpn hs2 hsa
  unfold Ael at BD
  rw [hE.len] at BD
  obtain ⟨sb,sx,nx⟩:=WD h0 hy hs2 sR hE
  have UP:=Abv _ (sb.more (by decide) (by decide))
  have hB:erB ps bs c.F c.R E i=upQ (Aw ps c.F c.R E y (scA c.F i)):=by unfold erB;rw [Ij hy]
  rw [←hB] at UP
  rw [UV hi] at ho
  have tl:i<(E.map some).length:=by rw [af,hE.len];exact hil
  unfold erO at ho
  have FR:=Ww (erB ps bs c.F c.R E i) (sx.more (by decide) (by decide))
  have stV:(E.map some).set i (some (erB ps bs c.F c.R E i))=(E.set i (erB ps bs c.F c.R E i)).map some:=(fo ..).symm
  have ldV:((E.set i (erB ps bs c.F c.R E i)).map some)[i]?=some (some (erB ps bs c.F c.R E i)):=by rw [ag,gm (by rw [hE.len];exact hil)];rfl
  clear hB hs2 hsa B sb
  generalize Aw ps c.F c.R E y (scA c.F i)=b at *
  generalize erB ps bs c.F c.R E i=x at *
  cases hf:Acn x
  case true =>
   rw [hf] at FR ho
   rw [if_pos rfl] at ho
   subst ho
   have hres:none=res:=hres
   subst hres
   repeat' (with_reducible first|refine qq ?_|(refine Tx 7 ?_;refine gO xLt ?_)|refine Agg ?_|(refine Tx 11 ?_;refine gO xA <| gO xA ?_))
   exact WJ
  rw [hf] at FR ho
  rw [if_neg (by decide)] at ho
  repeat' (with_reducible first|refine qq ?_|(refine Tx 7 ?_;refine gO xLt ?_)|refine Agg ?_|(refine Tx 12 ?_;refine gO xAd <| gO xM ?_))
  refine ⟨_,_,Bu 3,_,by omega,j+1,_,by omega,rfl,ho,hE.set (WB sx nx hf) nx i,rfl,rfl⟩
 obtain rfl:j=(Dd bs).length:=by omega
 clear hlj hj
 rw [gi] at ho
 have ho:some E=o:=ho
 subst ho
 dsimp only at hres
 obtain ⟨w,hw⟩:∃ w,decide (64≤r)=w:=⟨_,rfl⟩
 rw [hw] at hres
 obtain ⟨o,ho⟩:∃ o,erD ps bs c.F c.R w (Bn bs) E false=o:=⟨_,rfl⟩
 rw [ho] at hres
 repeat' (with_reducible first|refine qq ?_|(refine Tx 7 ?_;refine gO xLt ?_)|(refine Tx 13 ?_;refine gO xM <| gO xN <| gO xM ?_))
 refine AQ (Bu 3 (h:=by rw [←hnl];exact mB rfl rfl)) (Aq (fun n Fr H=>∃ (j:Nat) (E:List Pq) (b:Bool),j≤(Bn bs).length∧n=(Bn bs).length - j∧erD ps bs c.F c.R w ((Bn bs).drop j) E b=o∧Lb bs E∧Fr=ofL [(2,vd (Bd false (BU (Dd bs)))),(3,vd (Bd false (BU (Bn bs)))),(4,vr 0),(5,vr 1),(10,vo 2 bs.length),(11,vi ((r:Nat))),(12,vd (.val (.bool b))),(22,vi ((r:Nat))),(46,vd (Bd false (BU (Bn bs)))),(47,vi ((Bn bs).length)),(48,vi ((j:Nat)))]∧H=[.box 26 [.d (DJ t ps),.d (Dc t bs),.d (Bd t os)],.box 30 [.d (Bd true c.F),.d (.row false 6 c.R.length (Av (dIw false) c.R)),.d xd],.row 43 3 bs.length (cVs (E.map some))]) (n0:=(Bn bs).length) ⟨0,E,false,ad _,rfl,ho,hE,rfl,rfl⟩ ?_)
 clear ho hE
 rintro n Fr H ⟨j,E,b,hj,rfl,ho,hE,rfl,rfl⟩
 by_cases hlj:j<(Bn bs).length
 case pos =>
  obtain ⟨i,hi⟩:∃ i,(Bn bs)[j]?=some i:=⟨_,gE hlj⟩
  have hil:=(Od hi).1
  obtain ⟨y,hy⟩:∃ y,bs[i]?=some y:=⟨_,gE hil⟩
  have B:=UK h0 hy
  have hs2:=hF.sc i hil
  have hsa:y.kind≠0→∀ a∈y.args,0≤sG c.F a∧sG c.F a≤30:=fun k0 a ha=>by have:=B.all k0 a ha;exact hF.sc a.toNat (by omega)
  have BD:=LJ true xd t true os c E hE.len (Abz hE.sm) i hy B hF.len hR sR hn hpn hs2 hsa
  unfold Ael at BD
  rw [hE.len] at BD
  obtain ⟨sb,sx,nx⟩:=WD h0 hy hs2 sR hE
  have UP:=Abv _ (sb.more (by decide) (by decide))
  have hB:erB ps bs c.F c.R E i=upQ (Aw ps c.F c.R E y (scA c.F i)):=by unfold erB;rw [Ij hy]
  rw [←hB] at UP
  rw [UV hi] at ho
  have tl:i<(E.map some).length:=by rw [af,hE.len];exact hil
  obtain ⟨sM,nM⟩:=Aga h0 hy hs2 sR hE
  obtain ⟨sX,nX⟩:=Agb h0 hy hs2 sR hE w
  obtain ⟨se,_⟩:=hE.at_ i
  unfold erD at ho
  have hX:erX ps bs c.F c.R w E i=if w=true then AbC (erM ps bs c.F c.R E i) else erM ps bs c.F c.R E i:=rfl
  have ldV:(E.map some)[i]?=some (some (E[i]?.getD (0,0))):=by rw [ag,gE (by rw [hE.len];exact hil)];rfl
  have MX:=EY (E[i]?.getD (0,0)).1 (E[i]?.getD (0,0)).2 (erB ps bs c.F c.R E i).1 (erB ps bs c.F c.R E i).2 se.ok sx.ok se.lz sx.lz
  rw [show FJ (E[i]?.getD (0,0)).1 (E[i]?.getD (0,0)).2 (erB ps bs c.F c.R E i).1 (erB ps bs c.F c.R E i).2=erM ps bs c.F c.R E i from rfl] at MX
  have CM:=BZ (erM ps bs c.F c.R E i).1 (erM ps bs c.F c.R E i).2 (E[i]?.getD (0,0)).1 (E[i]?.getD (0,0)).2 sM.ok se.ok sM.lz se.lz
  have hq:Ir (erM ps bs c.F c.R E i) (E[i]?.getD (0,0))=BI (erM ps bs c.F c.R E i).1 (erM ps bs c.F c.R E i).2 (E[i]?.getD (0,0)).1 (E[i]?.getD (0,0)).2:=rfl
  rw [hq] at ho
  have FR:=Ww (erX ps bs c.F c.R w E i) (sX.more (by decide) (by decide))
  have stV:(E.map some).set i (some (erX ps bs c.F c.R w E i))=(E.set i (erX ps bs c.F c.R w E i)).map some:=(fo ..).symm
  have PW:=XX (erM ps bs c.F c.R E i) sM
  clear hB hs2 hsa B sb hq
  generalize BI (erM ps bs c.F c.R E i).1 (erM ps bs c.F c.R E i).2 (E[i]?.getD (0,0)).1 (E[i]?.getD (0,0)).2=q at *
  generalize Aw ps c.F c.R E y (scA c.F i)=bb at *
  generalize erX ps bs c.F c.R w E i=X at *
  generalize erM ps bs c.F c.R E i=M at *
  generalize erB ps bs c.F c.R E i=x at *
  generalize hee:E[i]?.getD (0,0)=e at *
  by_cases hc:q=0
  case pos =>
   rw [if_pos hc] at ho
   repeat' (with_reducible first|refine qq ?_|(refine Tx 14 ?_;refine gO xLt ?_)|refine Tw ?_|(refine Tx 24 ?_;refine gO xAd <| gO xM ?_))
   refine ⟨_,_,Bu 3,_,by omega,j+1,_,_,by omega,rfl,ho,hE,rfl,rfl⟩
  rw [if_neg hc] at ho
  cases w
  case false =>
   have hX:X=M:=hX
   subst hX
   have hw:=of_decide_eq_false hw
   cases hf:Acn X
   case true =>
    rw [hf] at FR ho
    rw [if_pos rfl] at ho
    subst ho
    have hres:none=res:=hres
    subst hres
    repeat' (with_reducible first|refine qq ?_|(refine Tx 14 ?_;refine gO xLt ?_)|refine Tw ?_|refine WG ?_|(refine Tx 22 ?_;refine gO xA <| gO xA ?_))
    exact WJ
   rw [hf] at FR ho
   rw [if_neg (by decide)] at ho
   repeat' (with_reducible first|refine qq ?_|(refine Tx 14 ?_;refine gO xLt ?_)|refine Tw ?_|refine WG ?_|(refine Tx 23 ?_;refine gO xM <| gO xM <| gO Rn <| gO (xIo (i:=i) Af) <| gZ Aju ?_)|(refine Tx 24 ?_;refine gO xAd <| gO xM ?_))
   exact Agh
  case true =>
   have hX:X=AbC M:=hX
   subst hX
   have hw:=of_decide_eq_true hw
   cases hf:Acn (AbC M)
   case true =>
    rw [hf] at FR ho
    rw [if_pos rfl] at ho
    subst ho
    have hres:none=res:=hres
    subst hres
    repeat' (with_reducible first|refine qq ?_|(refine Tx 14 ?_;refine gO xLt ?_)|refine Tw ?_|refine WG ?_|(refine Tx 20 ?_;refine gO Rn <| gO (xCl func184 (PW)) <| gZ (xSk Aa) ?_)|(refine Tx 22 ?_;refine gO xA <| gO xA ?_))
    exact WJ
   rw [hf] at FR ho
   rw [if_neg (by decide)] at ho
   repeat' (with_reducible first|refine qq ?_|(refine Tx 14 ?_;refine gO xLt ?_)|refine Tw ?_|refine WG ?_|(refine Tx 20 ?_;refine gO Rn <| gO (xCl func184 (PW)) <| gZ (xSk Aa) ?_)|(refine Tx 23 ?_;refine gO xM <| gO xM <| gO Rn <| gO (xIo (i:=i) Af) <| gZ Aju ?_)|(refine Tx 24 ?_;refine gO xAd <| gO xM ?_))
   exact Agh
 obtain rfl:j=(Bn bs).length:=by omega
 clear hlj hj
 rw [gi] at ho
 have ho:some (E,b)=o:=ho
 subst ho
 dsimp only at hres
 cases b
 case false =>
  rw [if_neg (by decide)] at hres
  subst hres
  repeat' (with_reducible first|refine qq ?_|(refine Tx 14 ?_;refine gO xLt ?_)|(refine Tx 25 ?_;refine gO xM <| gO DX ?_)|(refine Tx 26 ?_;refine gO xM <| gO xA <| gO xA ?_))
  exact ⟨.inl rfl,[2],by decide,.cons_ ⟨congrArg some (congrArg (Ob.row _ 3 _) (He _)),DI _⟩ .nil_,.tup (congrArg Array.toList results87) (.cons_ (.tmp rfl ⟨2,_,rfl,rfl,rfl,rfl⟩) (.cons_ (.tmp rfl ⟨rfl,.val _⟩) .nil_))⟩
 rw [if_pos rfl] at hres
 repeat' (with_reducible first|refine qq ?_|(refine Tx 14 ?_;refine gO xLt ?_)|(refine Tx 25 ?_;refine gO xM <| gO DX ?_)|(refine Tx 27 ?_;refine gO xAd <| gO xM ?_))
 refine ⟨_,_,Bu 3,m,by omega,r+1,E,by omega,hres,hE,rfl,rfl⟩
theorem Aes {xs:List Int} {k:Nat} {z:Int} (h:xs[k]?=some z):xs.set k z=xs:=by
 refine ek fun q=>?_
 rw [cq]
 split
 ·rename_i hq;subst hq;rw [if_pos (gS.1 h).1];exact h.symm
 ·rfl
theorem AbO (h:∀ f∈F,f≤((n+1:Nat):Int) - 1) (hl:AbD F=true):1≤n:=by
 obtain ⟨f,hf,hp⟩:=List.any_eq_true.1 hl
 have:=h f hf
 have:=of_decide_eq_true hp
 omega
theorem AnI (h:∀ f∈F,f≤((n+1:Nat):Int) - 1) (n1:1≤n):∀ f∈XW F,f≤(n:Int) - 1:=fun f hf=>by
 obtain ⟨g,hg,rfl⟩:=List.mem_map.1 hf
 have:=h g hg
 unfold AjQ
 split <;> omega
theorem AbP (k:p') (h:Hd9 p'→p:=by with_reducible first|(intro Z9;refine Tx 0 ?_;refine gN xBo <| gN (xAl Ns) <| gO xA <| gO xA ?_;exact Z9.o)|(intro Z9;refine Tx 1 ?_;refine gO xL <| gO (xCl func60 (OC)) <| gO xMt <| gO xEx <| gO xEx <| gO xA <| gO xA ?_;exact Z9.o)|(intro Z9;refine Tx 2 ?_;refine gO xM <| gO (xNE Al) ?_;exact Z9.o)|(intro Z9;refine Tx 4 ?_;refine gO xL <| gO (xCl func19 (DC)) <| gO xMt <| gO xEx <| gO xEx <| gO xA <| gO xA ?_;exact Z9.o)|(intro Z9;refine Tx 5 ?_;refine gO xM <| gO (xNE Al) ?_;exact Z9.o)|(intro Z9;refine Tx 7 ?_;refine gO xM <| gO xLt <| gO xM ?_;(first|iterate 2 refine Jd ?_|(refine Jy xM1 ?_;refine Jy xGt ?_));refine gO xPk ?_;exact Z9.o)|(intro Z9;refine Tx 9 ?_;refine gO xL <| gO xM <| gO (xCl func84 (RI)) <| gO xMt <| gO xEx <| gO xEx <| gO xA <| gO xA ?_;exact Z9.o)|fail):p:=h ⟨k⟩
theorem Aet (h:p:=by first|exact WE rfl rfl rfl|exact xEx):p:=h
theorem Agi (k:p') (h:Hd9 p'→p:=by with_reducible first|(intro Z9;refine Tx 10 ?_;refine gO xM <| gO (xNE Al) ?_;exact Z9.o)|(intro Z9;refine Tx 12 ?_;refine gN (xAl Ns) ?_;exact Z9.o)|(intro Z9;refine Tx 13 ?_;refine gO xL <| gO xM <| gO (xCl func85 (EV)) <| gO xMt <| gO xEx <| gO xEx <| gO xF <| gZ (by first|exact xS1 BS|exact xSk BS) <| gO xA ?_;exact Z9.o)|(intro Z9;refine Tx 14 ?_;refine gO xM <| gO (xNE Al) ?_;exact Z9.o)|(intro Z9;refine Tx 16 ?_;refine gO xL <| gO xF <| gO xD ?_;refine Jl (by exact Lc rfl func86 (by kernel_rfl) (by with_unfolding_all exact rfl) CH (by with_unfolding_all first|((repeat' first|exact Bh rfl rfl|refine Au rfl rfl ?_ ?_|refine DM rfl rfl ?_|refine BW rfl rfl ?_|exact AX rfl (fun h=>by cases h)|fail) <;> fail)|fail)) ?_;refine gO (by first|exact AbH rfl rfl|exact Vq rfl rfl) <| gO Aet <| gO Aet <| gO xF <| gZ (by first|exact xS1 BJ|exact xSk BJ) <| gO xA ?_;exact Z9.o)|fail):p:=h ⟨k⟩
theorem AbQ (k:p') (h:Hd9 p'→p:=by with_reducible first|(intro Z9;refine Tx 19 ?_;refine gO xL <| gO xL <| gO xM <| gO xM ?_;refine Jl (by exact Lc rfl func87 (by kernel_rfl) (by with_unfolding_all exact rfl) EC (by with_unfolding_all first|((repeat' first|exact Bh rfl rfl|refine Au rfl rfl ?_ ?_|refine DM rfl rfl ?_|refine BW rfl rfl ?_|exact AX rfl (fun h=>by cases h)|exact UU rfl rfl rfl) <;> fail)|fail)) ?_;refine gO (by first|exact AbH rfl rfl|exact Vq rfl rfl) <| gO Aet <| gO Aet <| gO xA <| gO xA ?_;exact Z9.o)|(intro Z9;refine Tx 20 ?_;refine gO xM ?_;exact Z9.o)|fail):p:=h ⟨k⟩
theorem Agj (k:p') (h:Hd9 p'→p:=by with_reducible first|(intro Z9;refine Tx 28 ?_;refine gO xM <| gO (xIo (i:=k) Ad) <| gO (by first|exact xLi hla AE|exact xLd AE) <| gO xA <| gO xA ?_;exact Z9.o)|(intro Z9;refine Tx 29 ?_;refine gO xM <| gO xGt ?_;exact Z9.o)|(intro Z9;refine Tx 32 ?_;refine gO xAd <| gO xM ?_;exact Z9.o)|fail):p:=h ⟨k⟩
theorem AnJ (k:p') (h:Hd9 p'→p:=by with_reducible first|(intro Z9;refine Tx 30 ?_;refine gO xF <| gO xD <| gO xM <| gO (xIo (i:=k) Ad) <| gO (by first|exact xLi hla AE|exact xLd AE) <| gO xSb <| gO (xIo (i:=k) Ad) <| gZ (by first|exact AkT rfl rfl rfl rfl AE (by omega) hls|exact xS1 AE|exact xSk AE) ?_;exact Z9.o)|(intro Z9;refine Tx 31 ?_;refine gO xA ?_;exact Z9.o)|fail):p:=h ⟨k⟩
theorem Ajv (h:p:=by first|assumption|omega):p:=h
theorem Ajw (h:p:=by first|rfl|omega):p:=h
theorem Agk (k:p') (h:Hd9 p'→p:=by with_reducible first|(intro Z9;refine Tx 21 ?_;refine gO xM <| gO xF <| gZ (by first|exact xS1 AK|exact xSk AK) ?_;exact Z9.o)|(intro Z9;refine Tx 23 ?_;refine gO xM <| gO (by first|exact De rfl Al rfl (OP rfl)|exact De rfl Al rfl (OP Ajw)|exact De rfl Al rfl (Si Ajv)|exact De rfl Al rfl rfl) <| gO xM ?_;(first|refine Jd ?_|refine Jy xM1 ?_);refine gO xPk ?_;exact Z9.o)|fail):p:=h ⟨k⟩
theorem Agl (h:p:=by
 refine AQ (Bu 4 (hH:=by rw [←hx2];rfl)) (Aq (fun n Fr H=>∃ k:Nat,k≤bs.length∧n=bs.length - k∧Fr=ofL [(2,vr 0),(4,vr 1),(7,vd (Bd false (BU (Dd bs)))),(9,vd (Bd false (BU (Bn bs)))),(11,vr 2),(17,vd (.val (.bool (AbD (F.take k))))),(101,vo 3 bs.length),(102,vi bs.length),(103,vi ((k:Nat)))]∧H=[.box 26 [.d (DJ t ps),.d (Dc t bs),.d (Bd t os)],.box 30 [.d (.val (.slice none 0 0)),.d (.val (.slice none 0 0)),.d (.val (.slice none 0 0))],.box 30 [.own 3 bs.length,.d (.row false 6 bs.length (Av (dIw false) R)),.d x2],.row 3 1 bs.length (cI (Yi F (k)))]) (n0:=bs.length) ⟨0,ad _,rfl,rfl,rfl⟩ ?_)
 rintro m Fr H ⟨k,hk,rfl,rfl,rfl⟩
 have hFl:=hF.len
 by_cases hlt:k<bs.length
 case pos =>
  obtain ⟨z,hz⟩:∃ z,F[k]?=some z:=⟨_,gE (by omega)⟩
  obtain ⟨hla,hls,hlb2⟩:=Ajt hz
  have hz2:=hF.in_ z (gM hz)
  have hll2:=Aeq F k
  by_cases hzp:0<z
  case pos =>
   rw [show AjQ z=z - 1 from if_pos hzp] at hls
   rw [decide_eq_true hzp,Bool.or_true] at hlb2
   repeat' (with_reducible first|refine qq ?_|(refine Tx 27 ?_;refine gO xLt ?_)|refine Agj ?_|refine AnJ ?_)
   refine ⟨_,_,Bu 4 (h:=by rw [hlb2];exact mB rfl rfl),_,?_,k+1,by omega,rfl,rfl,rfl⟩
   ·omega
  rw [show AjQ z=z from if_neg hzp,show (Yi F k).set k z=Yi F k from Aes hla] at hls
  rw [decide_eq_false hzp,Bool.or_false] at hlb2
  repeat' (with_reducible first|refine qq ?_|(refine Tx 27 ?_;refine gO xLt ?_)|refine Agj ?_)
  refine ⟨_,_,Bu 4 (hH:=by rw [←hls];rfl) (h:=by rw [hlb2];exact mB rfl rfl),_,?_,k+1,by omega,rfl,rfl,rfl⟩
  ·omega
 obtain rfl:k=bs.length:=by omega
 have hle:Yi F bs.length=XW F:=by unfold Yi;rw [al (by omega),List.drop_of_length_le (by omega),az]
 have hlt2:AbD (F.take bs.length)=AbD F:=by rw [al (by omega)]
 rw [hle,hlt2]
 cases hlow:AbD F
 case false =>
  rw [hlow,if_neg (by decide)] at hres
  subst hres
  repeat' (with_reducible first|refine qq ?_|(refine Tx 27 ?_;refine gO xLt ?_)|(refine Tx 33 ?_;refine gO xM <| gO DX ?_)|(refine Tx 34 ?_;refine gO (by exact AO rfl Qr rfl rfl) <| gZ (xSk CA) <| gO xA <| gO xA ?_))
  exact ⟨.inl rfl,[],by decide,.nil_,.tup (congrArg Array.toList results32) (.cons_ (Rm CA rfl rfl rfl (.cons_ ⟨rfl,.val _⟩ (.cons_ ⟨rfl,.val _⟩ (.cons_ ⟨rfl,.val _⟩ .nil_)))) (.cons_ (.tmp rfl ⟨rfl,.val _⟩) (.cons_ (.tmp rfl ⟨rfl,.val _⟩) .nil_)))⟩
 rw [hlow,if_pos rfl] at hres
 repeat' (with_reducible first|refine qq ?_|(refine Tx 27 ?_;refine gO xLt ?_)|(refine Tx 33 ?_;refine gO xM <| gO DX ?_))
 refine ⟨_,_,Ls _ 4 ?_ ?_ ?_,n,by omega,XW F,x2,AbO hFn hlow,AnI hFn (AbO hFn hlow),hres,hF.low,rfl,rfl⟩
 ·rfl
 ·exact mB rfl rfl
 ·exact ⟨CN rfl,CN rfl,CN rfl,Nx,trivial⟩):p:=h
theorem Agm (h:p:=by
 exact ⟨.inl rfl,[],by decide,.nil_,.tup (congrArg Array.toList results32) (.cons_ (Rm CA rfl rfl rfl (.cons_ ⟨rfl,.val _⟩ (.cons_ ⟨rfl,.val _⟩ (.cons_ ⟨rfl,.val _⟩ .nil_)))) (.cons_ (.tmp rfl ⟨rfl,.val _⟩) (.cons_ (.tmp rfl ⟨rfl,.val _⟩) .nil_)))⟩):p:=h
theorem XZ (t:Bool) {ps:List Prt} {bs:List Bk} {os:List Int} (hl:EB ps bs os) (h0:Bc ps bs os=0) (rd:Int) (r0:1≤rd) (r1:rd≤16) {f:Nat} {e:Int} {l:List Iq} (hf:f≤1000000000) (hres:PP ps bs rd f=some (e,l)) (hI:(e=0∧Tk bs l∧DK ps bs l=false∧XP ps bs l=true)∨((e=4∨e=22)∧l=[])):CVN prog Ah 32 [aDg t ps bs os,aI rd] (mkW bs.length (mkC ps bs os e l)) (mkY bs.length (mkC ps bs os e l)):=by
 refine Tv QA func32 rfl ntmps32 (bi rfl) ?_
 have OC:=(VW t hl (ps:=ps) (bs:=bs) (os:=os)).cv
 have DC:=(IP t hl (ps:=ps) (bs:=bs) (os:=os)).cv
 rw [if_pos h0,h0] at OC DC
 have RI:=XR t hl h0 rd r0 r1 (e,l) f hf hres
 dsimp only at RI
 have hn:=hl.l2
 have hdb:=LD bs
 rcases hI with ⟨rfl,hI,hb,_⟩|⟨hne,rfl⟩
 case inr =>
  have hne:e≠0:=by omega
  rw [show mkC ps bs os e []=none from if_neg fun h=>hne h.1]
  repeat' (with_reducible first|refine qq ?_|refine AbP ?_|(refine Tx 10 ?_;refine gO xM <| gO (by first|exact BP rfl Al rfl (Ie hne)|exact BP rfl Al rfl (OQ Ajw)|exact BP rfl Al rfl (Ie Ajv)|exact BP rfl Al rfl rfl) ?_)|(refine Tx 11 ?_;refine gO (by exact AO rfl Qr rfl rfl) <| gZ (xSk CA) <| gO xA <| gO xA ?_))
  exact Agm
 have hlb:=hI.lb hb
 have hll:=hI.len
 have EV:=Th t hl (l.map Hg) (Oz hI.iw (by decide)) (by rw [af];omega)
 rw [AfM h0 hI.iw hll,MP,Oy,if_neg (by rw [hb];decide),Aap rfl] at EV
 unfold AmN at EV RI
 have hR:(rgV ps bs l).length=bs.length:=Ox
 have sR:=Abq h0 hlb hll hb
 have hm:mkC ps bs os 0 l=if (rgV ps bs l).all pkB=true then mkL ps bs os (rgV ps bs l) 31 ((rgV ps bs l).map pkS) else none:=by
  by_cases h:(rgV ps bs l).all pkB=true
  ·rw [if_pos h];exact if_pos ⟨rfl,h⟩
  ·rw [if_neg h];exact if_neg fun hc=>h hc.2
 rw [hm]
 clear hm hres
 generalize rgV ps bs l=R at *
 have CH:=XY t hl h0 R hR sR
 rw [hR] at CH EV
 cases hp:R.all pkB
 case false =>
  rw [hp] at CH
  rw [if_neg (by decide)]
  repeat' (with_reducible first|refine qq ?_|refine AbP ?_|refine Agi ?_|(refine Tx 17 ?_;refine gO xM <| gO (by first|exact BP rfl Al rfl (Ie (by decide))|exact BP rfl Al rfl (OQ Ajw)|exact BP rfl Al rfl (Ie Ajv)|exact BP rfl Al rfl rfl) ?_)|(refine Tx 18 ?_;refine gO (by exact AO rfl Qr rfl rfl) <| gZ (xSk CA) <| gO xA <| gO xA ?_))
  exact Agm
 rw [hp] at CH
 rw [if_pos rfl]
 have hF0:=Anz hR hp
 repeat' (with_reducible first|refine qq ?_|refine AbP ?_|refine Agi ?_|(refine Tx 17 ?_;refine gO xM <| gO (xNE Al) ?_))
 refine AQ (Bu 4 (hH:=by rw [Aog];rfl)) (Aq (fun n Fr H=>∃ (F:List Int) (xd:D),1≤n∧(∀ f∈F,f≤(n:Int) - 1)∧mkL ps bs os R n F=mkL ps bs os R 31 (R.map pkS)∧UT bs F∧Fr=ofL [(2,vr 0),(4,vr 1),(7,vd (Bd false (BU (Dd bs)))),(9,vd (Bd false (BU (Bn bs)))),(11,vr 2)]∧H=[.box 26 [.d (DJ t ps),.d (Dc t bs),.d (Bd t os)],.box 30 [.d (.val (.slice none 0 0)),.d (.val (.slice none 0 0)),.d (.val (.slice none 0 0))],.box 30 [.own 3 bs.length,.d (.row false 6 bs.length (Av (dIw false) R)),.d xd],.row 3 1 bs.length (cI F)]) (n0:=31) ⟨R.map pkS,_,by decide,fun f hf=>by have:=hF0.in_ f hf;omega,rfl,hF0,rfl,rfl⟩ ?_)
 clear CH EV RI OC DC
 rintro n Fr H ⟨F,xd,n1,hFn,hres,hF,rfl,rfl⟩
 cases n
 case zero=>omega
 rename_i n
 generalize mkL ps bs os R 31 (R.map pkS)=res at *
 unfold mkL mkT at hres
 have EC:=fun r (h:erA ps bs F R=r)=>Ty t hl h0 ⟨F,R,[]⟩ xd hF hR sR h
 unfold dCx Bd at EC
 dsimp only at EC
 rw [hF.len,hR] at EC
 rcases hA:erA ps bs F R with _|E
 case none =>
  have EC:=EC _ hA
  rw [hA] at hres
  have hres:(if AbD F=true then mkL ps bs os R n (XW F) else none)=res:=hres
  repeat' (with_reducible first|refine qq ?_|refine AbQ ?_|(refine Tx 25 ?_;refine gO xA ?_)|(refine Tx 26 ?_;refine gO xF <| gO xD <| gO xN <| gO xM ?_))
  obtain ⟨x2,hx2⟩:∃ x2,xd=x2:=⟨_,rfl⟩
  exact Agl
 have EC:=EC _ hA
 rw [hA] at hres
 have hE:=Age h0 hF.sc sR hA
 have VC:=EL t hl F (R.map Hg) (E.map CY) (Oz sR (by decide)) (Apk hE) (by rw [hF.len];exact hn) (by rw [af,hR];exact hn) (by rw [af,hE.len];exact hn)
 rw [AbG h0 hF hR sR hE,Aeo] at VC
 generalize vfP ps bs os F (R.map Hg) (E.map CY)=vp at VC
 unfold dCt Bd at VC
 dsimp only at VC
 rw [hF.len,hE.len,hR] at VC
 have hres:(match (if vfA ps bs os F R E=true then some E else none) with|some E=>some ⟨F,R,E⟩|none=>if AbD F=true then mkL ps bs os R n (XW F) else none)=res:=hres
 have hv2:vfE ps bs os F (R.map Hg) (E.map CY)=vfA ps bs os F R E:=rfl
 rw [hv2] at VC
 cases hv:vfA ps bs os F R E
 case true =>
  rw [hv] at VC hres
  rw [if_pos rfl] at hres
  dsimp only at hres
  subst hres
  repeat' (with_reducible first|refine qq ?_|refine AbQ ?_|refine Agk ?_|(refine Tx 22 ?_;refine gO xL <| gO xL <| gO (by exact Fa rfl func12 (by kernel_rfl) (by with_unfolding_all exact rfl) rfl VC (by with_unfolding_all exact Au rfl rfl ⟨true,BW rfl rfl (Au rfl rfl (AX rfl (fun h=>by cases h)) (Au rfl rfl (AX rfl (fun h=>by cases h)) (Au rfl rfl (AX rfl (fun h=>by cases h)) (Bh rfl rfl))))⟩ (Au rfl rfl ⟨false,BW rfl rfl (Au rfl rfl (UU rfl rfl rfl) (Au rfl rfl (AX rfl (fun _=>.row (Cc (f:=dIw false) EH R))) (Au rfl rfl (Cg rfl rfl rfl (Cn rfl (DI E))) (Bh rfl rfl))))⟩ (Bh rfl rfl)))) <| gO xMt <| gO xEx <| gO (by exact DB rfl rfl rfl) <| gO xEx <| gN (xAl CL) <| gO xA <| gZ (xSk Bb) <| gO xA ?_)|(refine Tx 24 ?_;refine gO xL <| gZ (xSk CA) <| gO xA <| gO xA ?_))
  exact ⟨.inl rfl,[3,4],by decide,.cons_ ⟨congrArg some (congrArg (Ob.row _ 1 _) (Aog _)),Ds _⟩ (.cons_ ⟨rfl,DI _⟩ .nil_),.tup (congrArg Array.toList results32) (.cons_ (Rm CA rfl rfl rfl (.cons_ ⟨3,_,rfl,rfl,rfl,rfl⟩ (.cons_ ⟨rfl,.row (Cc (f:=dIw false) EH _)⟩ (.cons_ ⟨4,_,rfl,rfl,rfl,rfl⟩ .nil_)))) (.cons_ (.tmp rfl ⟨rfl,.val _⟩) (.cons_ (.tmp rfl ⟨rfl,.val _⟩) .nil_)))⟩
 rw [hv] at VC hres
 rw [if_neg (by decide)] at hres
 dsimp only at hres
 repeat' (with_reducible first|refine qq ?_|refine AbQ ?_)
 refine AQ (Fu (ds:=Av dyP E) 12 4 rfl rfl) ?_
 repeat' (with_reducible first|refine qq ?_|refine Agk ?_|(refine Tx 22 ?_;refine gO xL <| gO xL <| gO (by exact Fa rfl func12 (by kernel_rfl) (by with_unfolding_all exact rfl) rfl VC (by with_unfolding_all exact Au rfl rfl ⟨true,BW rfl rfl (Au rfl rfl (AX rfl (fun h=>by cases h)) (Au rfl rfl (AX rfl (fun h=>by cases h)) (Au rfl rfl (AX rfl (fun h=>by cases h)) (Bh rfl rfl))))⟩ (Au rfl rfl ⟨false,BW rfl rfl (Au rfl rfl (UU rfl rfl rfl) (Au rfl rfl (AX rfl (fun _=>.row (Cc (f:=dIw false) EH R))) (Au rfl rfl (AX rfl (fun _=>.row (DI E))) (Bh rfl rfl))))⟩ (Bh rfl rfl)))) <| gO xMt <| gO xEx <| gO (by exact DB rfl rfl rfl) <| gO xEx <| gN (xAl CL) <| gO xA <| gZ (xSk Bb) <| gO xA ?_)|(refine Tx 25 ?_;refine gO xA ?_)|(refine Tx 26 ?_;refine gO xF <| gO xD <| gO xN <| gO xM ?_))
 obtain ⟨x2,hx2⟩:∃ x2,D.row false 3 bs.length (Av dyP E)=x2:=⟨_,rfl⟩
 exact Agl
theorem Ajx (h0:Bc ps bs os=0) {e:Int} {l:List Iq} (hI:(e=0∧Tk bs l∧DK ps bs l=false∧XP ps bs l=true)∨((e=4∨e=22)∧l=[])) {c:Ct} (hm:mkC ps bs os e l=some c):Tq ps bs os c∧UT bs c.F∧c.R.length=bs.length∧(∀ p∈c.R,IwS p LB LB)∧Lb bs c.E∧vfA ps bs os c.F c.R c.E=true:=by
 unfold mkC at hm
 by_cases hc:e=0∧(rgV ps bs l).all pkB=true
 case neg=>rw [if_neg hc] at hm;cases hm
 rw [if_pos hc] at hm
 rcases hI with ⟨_,hI,hb,_⟩|⟨hne,_⟩
 ·have sR:=Abq h0 (hI.lb hb) hI.len hb
  obtain ⟨a,b,d,f,g⟩:=AbF h0 sR _ _ _ (Anz Ox hc.2) hm
  rw [←d] at sR g
  exact ⟨a,b,by rw [d];exact Ox,sR,f,g⟩
 ·omega
theorem Tz (x:Int) (d den:Nat) (hn:Nf x d) (hl:(Ab x.natAbs).length≤40000) (hd:den≤65536):CVF prog Ah 173 [aDy false x d,aI (den:Int)] [aDy false (Bg x d den).1 (Bg x d den).2,aI 0]:=fun w S vs hg hlt ha=>by
 obtain ⟨v,vs',rfl,h1,ha⟩:=ha.uncons
 obtain ⟨u,hu,h2⟩:=BB ha
 subst hu
 cases h2
 exact (ZK (Fq h1 hlt hn) (aa _) (lT hl (by decide)) hd).mono fun r w' ⟨v,he,hd,hb⟩=>⟨_,he,NI (EE hd) (Br.val rfl),hb⟩
theorem Ajy (h:ckE ps bs os F qs rs=0):F.length=bs.length∧qs.length=bs.length∧rs.length=bs.length∧ckL qs rs=0:=by
 unfold ckE at h
 by_cases h0:Bc ps bs os=0
 case neg=>rw [if_pos h0] at h;exact absurd h h0
 rw [if_neg (not_not_intro h0)] at h
 by_cases hl:F.length=bs.length∧qs.length=bs.length∧rs.length=bs.length
 case neg=>rw [if_neg hl] at h;cases h
 rw [if_pos hl] at h
 exact ⟨hl.1,hl.2.1,hl.2.2,h⟩
theorem AnK (h:ckL qs rs=0) {k:Nat} {q:Rv × Rv} {r:Rv} (h1:qs[k]?=some q) (h2:rs[k]?=some r):ivC q=true∧vdB r.rw=true∧¬ sgI (rvP r).1<0∧Dm (rvP r)=false∧Dm (rvP q.1)=false∧Dm (rvP q.2)=false:=by
 have h3:=CU h _ (gM (Wy h1 h2))
 unfold Mj at h3
 by_cases c1:ivC q=false∨vdB r.rw=false∨sgI (rvP r).1<0
 ·rw [if_pos c1] at h3;cases h3
 rw [if_neg c1] at h3
 by_cases c2:Dm (rvP r)=true∨Dm (rvP q.1)=true∨Dm (rvP q.2)=true
 ·rw [if_pos c2] at h3;cases h3
 simp only [not_or,ia,aw] at c1 c2
 exact ⟨c1.1,c1.2.1,c1.2.2,c2.1,c2.2.1,c2.2.2⟩
theorem AnL (h:p:=by first|exact xCl func112 (N1.cv)|exact xCl func112 (N2.cv)):p:=h
theorem Aeu (x:Int) (d den:Nat) (hn:Nf x d) (hl:(Ab x.natAbs).length≤40000) (hd:den≤65536):CV prog Ah 83 [aDy false x d,aI (den:Int)] [aDy false (XF (x,d) den).1 (XF (x,d) den).2,aI 0]:=by
 refine cvz func83 ntmps83 ?_
 have N1:=Aac Ah false x d hn (lT hl (by decide))
 have hn2:Nf (-x) d:=⟨hn.1,fun h0=>by have:=hn.2 h0;omega⟩
 have hl2:(Ab (-x).natAbs).length≤40000:=by rw [ja];exact hl
 have FL:=Tz (-x) d den hn2 hl2 hd
 have hn3:=Wf (x := -x) (d:=d) (den:=den) hn2 hd
 have hl3:=Om (d:=d) (den:=den) hl2
 have N2:=Aac Ah false _ _ hn3 (lT hl3 (by decide))
 repeat' (with_reducible first|refine qq ?_|(refine Tx 0 ?_;refine gN xBo <| gN (xAl Aj) <| gO xA ?_)|(refine Tx 1 ?_;refine gO xL <| gO AnL <| gO xM <| gO (xCl func173 (FL.cv)) <| gO xMt <| gO (by exact DB rfl rfl rfl) <| gO xEx <| gN (xAl Aj) <| gZ (xSk Aa) <| gO xA ?_)|(refine Tx 2 ?_;refine gO xL <| gO AnL <| gO xM <| gZ (xSk Aa) <| gO xA ?_))
 exact Ax rfl (.cons_ (rvW Aa rfl) (.cons_ (Qu rfl rfl) .nil_))
theorem AnM (x:Pq) (sx:Sm x 40064 40000):CV prog Ah 28 [aDy false x.1 x.2] [aDy false (upQ x).1 (upQ x).2]:=by
 refine cvz func28 ntmps28 ?_
 have CE:=Aeu x.1 x.2 62 sx.ok sx.lz (by decide)
 repeat' (with_reducible first|refine qq ?_|(refine Tx 0 ?_;refine gN xBo <| gN (xAl Aj) ?_)|(refine Tx 1 ?_;refine gO xL <| gO (xCl func83 (CE)) <| gO xMt <| gO (by exact DB rfl rfl rfl) <| gO xEx <| gN (xAl Aj) <| gZ (xSk Aa) <| gO xA ?_)|(refine Tx 2 ?_;refine gO xL <| gZ (xSk Aa) ?_))
 exact Cy
theorem Ajz (h:p:=by first|exact xCl func82 (LR)|exact xCl func82 (L1)|exact xCl func82 (L2)):p:=h
theorem Aev (t u:Bool) {ps:List Prt} {bs:List Bk} {os:List Int} (hl:EB ps bs os) (F:List Int) (qs:List (Rv × Rv)) (rs:List Rv) (hwq:∀ q∈qs,RvL q.1∧RvL q.2) (hwr:∀ r∈rs,RvL r) (hFl:F.length≤1000000) (hQl:qs.length≤1000000) (hRl:rs.length≤1000000) (h0:ckE ps bs os F qs rs=0):CV prog Ah 26 [aDg t ps bs os,.agg (dCr u F qs rs)] [aI 0]:=by
 refine cvz func26 ntmps26 ?_
 obtain ⟨l1,l2,l3,hk⟩:=Ajy h0
 repeat' (with_reducible first|refine qq ?_|(refine Tx 0 ?_;refine gN xBo <| gN xBo <| gO xA ?_)|(refine Tx 1 ?_;refine gO xF <| gO xD <| gO xN <| gO xA ?_)|(refine Tx 2 ?_;refine gO xF <| gO xD <| gO xN <| gO xM <| gO xNe <| gO xM ?_;(first|iterate 5 refine Jd ?_|(refine Jy (xFa Qq BS) ?_;refine Jy (xLd BS) ?_;refine Jy (xLn Ag) ?_;refine Jy xM1 ?_;refine Jy xNe ?_));refine gO xPk <| gO xM ?_;(first|iterate 5 refine Jd ?_|(refine Jy (xFa DA AK) ?_;refine Jy (xLd AK) ?_;refine Jy (xLn Af) ?_;refine Jy xM1 ?_;refine Jy xNe ?_));refine gO xPk ?_)|(refine Tx 4 ?_;refine gO xF <| gO xD <| gO xN <| gO xM ?_))
 refine AQ (Bu 2) (Aq (fun n Fr H=>∃ k:Nat,k≤qs.length∧n=qs.length - k∧Fr=ofL [(2,vr 0),(3,vr 1),(31,vd (Wp qs)),(32,vi qs.length),(33,vi ((k:Nat)))]∧H=[.box 26 [.d (DJ t ps),.d (Dc t bs),.d (Bd t os)],.box 30 [.d (Bd u F),.d (Wp qs),.d (AjP rs)]]) (n0:=qs.length) ⟨0,ad _,rfl,rfl,rfl⟩ ?_)
 rintro n Fr H ⟨k,hkq,rfl,rfl,rfl⟩
 by_cases hlt:k<qs.length
 case pos =>
  obtain ⟨q,hq⟩:∃ q,qs[k]?=some q:=⟨_,gE hlt⟩
  obtain ⟨r,hr⟩:∃ r,rs[k]?=some r:=⟨_,gE (by omega)⟩
  have wq:=hwq q (gM hq)
  have wr:=hwr r (gM hr)
  obtain ⟨h1,h2,h3,h4,h5,h6⟩:=AnK hk hq hr
  obtain ⟨sw,hdy,lw1,lw2⟩:=PI wq.1 wq.2 h1
  obtain ⟨d0,n0,m0⟩:=Aen wr h2
  have VI:CV prog Ah 80 [.agg (dIw false (ivQ q))] [aB true]:=by rw [←hdy,←h1];exact PG q.1 q.2 wq.1 wq.2
  have VD:CV prog Ah 81 [.agg (dyP (rvP r))] [aB true]:=by rw [←d0,←h2];exact (NW (G:=Ah) false r wr.1 (by have:=wr.2;omega)).cv
  have SG:=Wj (rvP r).1 (rvP r).2 n0 m0
  have LR:=QS (rvP r).1 (rvP r).2 n0 m0
  have L1:=QS (rvP q.1).1 (rvP q.1).2 sw.s1.ok lw1
  have L2:=QS (rvP q.2).1 (rvP q.2).2 sw.s2.ok lw2
  rw [show SF (rvP r).1.natAbs (rvP r).2=false from h4] at LR
  rw [show SF (rvP q.1).1.natAbs (rvP q.1).2=false from h5] at L1
  rw [show SF (rvP q.2).1.natAbs (rvP q.2).2=false from h6] at L2
  have hia:=Rk hq
  have hra:=Aaq hr
  rw [hdy] at hia
  rw [d0] at hra
  repeat' (with_reducible first|refine qq ?_|(refine Tx 5 ?_;refine gO xLt ?_)|(refine Tx 6 ?_;refine gO xM <| gO Anq <| gO xL <| gN (xAl Ak) <| gO xA <| gZ (xSk Ac) ?_)|(refine Tx 7 ?_;refine gO xL <| gO (xCl func80 (VI)) <| gO DX <| gO xM ?_;(first|iterate 7 refine Jd ?_|(refine Jy (xFa DA AK) ?_;refine Jy (xLd AK) ?_;refine Jy xM1 ?_;refine Jy XU ?_;refine Jy (xLa Aa) ?_;refine Jy (xCl func81 (VD)) ?_;refine Jy DX ?_));refine gO xPk <| gO xM ?_;(first|iterate 7 refine Jd ?_|(refine Jy (xFa DA AK) ?_;refine Jy (xLd AK) ?_;refine Jy xM1 ?_;refine Jy XU ?_;refine Jy (xLa Aa) ?_;refine Jy (xCl func41 (SG)) ?_;refine Jy xLt ?_));refine gO xPk ?_)|(refine Tx 9 ?_;refine gO xF <| gO xD <| gO xM <| gO XU <| gO xL <| gO Ajz <| gO xM ?_;(first|iterate 3 refine Jd ?_|(refine Jy (xFa Ce Aa) ?_;refine Jy (xLa Aa) ?_;refine Jy Ajz ?_));refine gO xPk <| gO xM ?_;(first|iterate 3 refine Jd ?_|(refine Jy (xFa AM Aa) ?_;refine Jy (xLa Aa) ?_;refine Jy Ajz ?_));refine gO xPk ?_)|(refine Tx 11 ?_;refine gO xAd <| gO xM ?_))
  refine ⟨_,_,Bu 2,_,by omega,k+1,by omega,rfl,rfl,rfl⟩
 obtain rfl:k=qs.length:=by omega
 repeat' (with_reducible first|refine qq ?_|(refine Tx 5 ?_;refine gO xLt ?_)|(refine Tx 12 ?_;refine gO xA ?_))
 exact PZ
section
variable {P:Program} {G:World→Prop} {ops:Array Oper}
theorem AN.pre {F:Frm} {H':List Ob} {x:X} (h:AN P G o F H x []) (hp:H <+: H'):AN P G o F H' x []:=fun b0 m a h1 h2 h3 h4 h5 h6 K Q hK=>by
 rw [az] at h1
 refine h b0 m a (by rw [az];exact hp.trans h1) h2 h3 h4 (fun k hk=>absurd hk (gx _)) h6 K Q fun v w' es hn hv=>?_
 have he:es=[]:=cj hn.len
 subst he
 have e:m.plus w' H.length []=m.plus w' H'.length []:=by
  unfold Mm.plus
  congr 1
  funext id
  rw [if_neg (by simp),if_neg (by simp)]
 rw [e] at hv
 exact hK v w' [] ⟨rfl,hn.below,fun k e he=>by simp at he,.nil⟩ hv
structure Aew (b0 N:Nat) (w0:World) (S0:SD) (ops:Array Oper) (Fs:Nat→Frm) (H H1 H2:List Ob) (s:Nat) (listed:Array Bool) (a:Act) (m:Mm):Prop where
 H:m.H=if listed.getD (s+1) true=true then H2 else if listed.getD s true=true then H1 else H
 seq:listed.getD (s+1) true=true→listed.getD s true=true
 cx:Cx b0 m
 tot:Tot m
 frame:∀ t,(∀ (i:Nat) (o:Oper),ops[i]?=some o→listed.getD i true=false→o.dst≠some t)→Fj m (Fs ops.size t) (a.tmps.getD t undef)
 size:a.tmps.size=N
 defers:a.defers=S0.ds
 below:Below b0 w0 m.w
 base:b0≤w0.heap.size
 S:∀ b,m.S false b→S0 false b∨b0≤b
 T:m.S true=S0 true
 ls:listed.size=ops.size
theorem Aex {b0 N:Nat} {w0:World} {S0:SD} (hG:∀ w',Below b0 w0 w'→G w') {md:Region.Mode} {Q:Exit→Act→World→Prop} (hC:TT md ops=true) (hd:Rs N ops.toList=true)
  {Fs:Nat→Frm} {H H1 H2:List Ob} {xs:Nat→X} {s:Nat} (hss:s+1<ops.size) (p1:H <+: H1) (p2:H <+: H2) (hws:∀ o,ops[s+1]?=some o→∃ e∈o.after,Region.binds md e=true∧e.on=s)
  (hs:∀ (i:Nat) (o:Oper),ops[i]?=some o→Fs (i+1)=(Fs i).put o.dst (xs i)∧((Cs ops o (Fs i) false∧xs i=.tup []∧i≠s∧i≠s+1)∨(Cs ops o (Fs i) true∧((i≠s∧i≠s+1∧AN P G o (Fs i) H (xs i) [])∨(i=s∧TOk P G o (Fs i) H (xs i) H1)∨(i=s+1∧TOk P G o (Fs i) H1 (xs i) H2)))))
  (hq:∀ a m,m.H=H2→St b0 N w0 S0 (Fs ops.size) a m→Q .normal a m.w) :
  ∀ (f:Nat) (listed:Array Bool) (a:Act) (m:Mm),Aew b0 N w0 S0 ops Fs H H1 H2 s listed a m→AcA listed≤f→wpAny P md ops Q f listed a m.w:=by
 have opAt:∀ i,i<ops.size→∃ o,ops[i]?=some o:=fun i hi=>⟨_,io hi⟩
 have keep:∀ t d i,i+d≤ops.size→(∀ (k:Nat) (o:Oper),i≤k→k<i+d→ops[k]?=some o→o.dst≠some t)→Fs (i+d) t=Fs i t:=fun t d=>by
  induction d with
  | zero=>intro i _ _;rfl
  | succ d ih =>
   intro i hi hk
   obtain ⟨o,ho⟩:=opAt (i+d) (by omega)
   rw [show i+(d+1)=i+d+1 by omega,(hs _ o ho).1,Hl,if_neg (hk (i+d) o (by omega) (by omega) ho)]
   exact ih i (by omega) fun k o' h1 h2=>hk k o' h1 (by omega)
 have look:∀ i o t,ops[i]?=some o→t∈o.looksAt ops→Fs ops.size t=Fs i t:=fun i o t ho ht=>by
  have hi:=(Array.getElem?_eq_some_iff.1 ho).1
  have:=keep t (ops.size - i) i (by omega) fun k o' h1 _ hk hdst=>by
   have:=((ET hC ho).2 k o' t hk hdst).1 ht
   omega
  rwa [show i+(ops.size - i)=ops.size by omega] at this
 have out:∀ i o t,ops[i]?=some o→o.dst=some t→Fs ops.size t=xs i:=fun i o t ho ht=>by
  have hi:=(Array.getElem?_eq_some_iff.1 ho).1
  have:=keep t (ops.size - (i+1)) (i+1) (by omega) fun k o' h1 _ hk hdst=>((ET hC ho).2 k o' t hk hdst).2 (by omega) ht
  rw [show i+1+(ops.size - (i+1))=ops.size by omega,(hs i o ho).1,Hl,if_pos ht] at this
  exact this
 have fin:∀ (listed:Array Bool) (a:Act) (m:Mm),Aew b0 N w0 S0 ops Fs H H1 H2 s listed a m→Region.ready md ops listed=[]→Q .normal a m.w:=fun listed a m inv hr=>by
  have all:∀ i,i<ops.size→listed.getD i true=true:=by
   intro i
   induction i using Nat.strongRecOn with
   | _ i ih =>
    intro hi
    cases hl:listed.getD i true with
    | true=>rfl
    | false =>
     exfalso
     obtain ⟨o,ho⟩:=opAt i hi
     have:i∈Region.ready md ops listed:=mem_ready.2 ⟨hl,o,ho,fun e he hb=>by
      have hlt:=(ET hC ho).1 e he hb
      have:=ih e.on hlt (by omega)
      have hsz:=inv.ls
      rw [←ES (by omega)]
      exact this⟩
     rw [hr] at this
     cases this
  refine hq a m (by rw [inv.H,if_pos (all (s+1) hss)]) ⟨inv.cx,inv.tot,fun t=>inv.frame t fun i o ho hl=>?_,inv.size,inv.defers,inv.below,inv.base,inv.S,inv.T⟩
  have:=all i (Array.getElem?_eq_some_iff.1 ho).1
  rw [hl] at this
  cases this
 have next:∀ (listed:Array Bool) (i:Nat) (a:Act) (m:Mm),Aew b0 N w0 S0 ops Fs H H1 H2 s listed a m→i∈Region.ready md ops listed→∀ K:Act→World→Prop,
   (∀ a' m',Aew b0 N w0 S0 ops Fs H H1 H2 s (listed.setIfInBounds i true) a' m'→K a' m'.w)→wpOp P ops Q i K a m.w:=fun listed i a m inv hr K hK=>by
  obtain ⟨hun,o,ho,hall⟩:=mem_ready.1 hr
  have hi:=(Array.getElem?_eq_some_iff.1 ho).1
  have hd0:∀ d,o.dst=some d→d<N:=TR hd (by simpa using Array.mem_of_getElem? ho)
  have getSet:∀ j,j≠i→(listed.setIfInBounds i true).getD j true=listed.getD j true:=fun j hj=>getD_set_ne true (Ne.symm hj)
  have getSame:(listed.setIfInBounds i true).getD i true=true:=by simp [Array.getD,inv.ls,hi]
  have hlook:∀ t∈o.looksAt ops,Fj m (Fs i t) (a.tmps.getD t undef):=fun t ht=>by
   rw [←look i o t ho ht]
   refine inv.frame t fun k ok hok hkl hdst=>?_
   obtain ⟨h1,e,he,hb,hon⟩:=((ET hC ho).2 k ok t hok hdst).1 ht
   have h2:=hall e he hb
   rw [hon] at h2
   have hsz:=inv.ls
   rw [←ES (by have:=(Array.getElem?_eq_some_iff.1 hok).1;omega),hkl] at h2
   cases h2
  have reFrame:∀ (m':Mm) (v:Value),Le m m'→Fj m' (xs i) v→∀ t,(∀ (k:Nat) (ok:Oper),ops[k]?=some ok→(listed.setIfInBounds i true).getD k true=false→ok.dst≠some t)→Fj m' (Fs ops.size t) ((a.put o.dst v).tmps.getD t undef):=fun m' v hle hv t ht=>by
   rw [Ql inv.size hd0]
   split
   ·rename_i hdst
    rw [out i o t ho hdst]
    exact hv
   ·rename_i hdst
    refine (inv.frame t fun k ok hok hkl=>?_).le hle
    by_cases hki:k=i
    ·subst hki
     rw [ho] at hok
     cases hok
     exact hdst
    ·exact ht k ok hok (by rw [getSet k hki];exact hkl)
  obtain ⟨hF,hcase⟩:=hs i o ho
  unfold wpOp
  simp only [ho]
  rcases hcase with ⟨hw,hx,his,his2⟩|⟨hw,hok⟩
  ·rw [if_neg (by rw [hw.is (m:=m) (tmps:=a.tmps) hlook];simp)]
   exact hK _ m ⟨by rw [getSet s (fun h=>his h.symm),getSet (s+1) (fun h=>his2 h.symm)];exact inv.H,by rw [getSet s (fun h=>his h.symm),getSet (s+1) (fun h=>his2 h.symm)];exact inv.seq,inv.cx,inv.tot,reFrame m undef (Le.refl m) (by rw [hx];exact ⟨[],rfl,.nil_⟩),by rw [GS];exact inv.size,by rw [DS];exact inv.defers,inv.below,inv.base,inv.S,inv.T,by simp [inv.ls]⟩
  ·rw [if_pos (hw.is (m:=m) (tmps:=a.tmps) hlook)]
   have go:∀ (Ha Hb:List Ob),m.H=Ha→(Hb=if (listed.setIfInBounds i true).getD (s+1) true=true then H2 else if (listed.setIfInBounds i true).getD s true=true then H1 else H)→((listed.setIfInBounds i true).getD (s+1) true=true→(listed.setIfInBounds i true).getD s true=true)→TOk P G o (Fs i) Ha (xs i) Hb→(o.wp P a m.w K Q):=fun Ha Hb e1 e2 e3 ht=>by
    refine ht b0 m a e1 inv.cx inv.tot (hG _ inv.below) (lT inv.base inv.below.size) (fun t ht=>hlook t (RP ht)) _ _ fun v m' hH hx ht' hle hb hS hv=>?_
    exact hK _ m' ⟨by rw [hH,e2],e3,hx,ht',reFrame m' v hle hv,by rw [GS];exact inv.size,by rw [DS];exact inv.defers,inv.below.trans hb,inv.base,fun b hb'=>(hS b hb').elim (inv.S b) .inr,hle.T.trans inv.T,by simp [inv.ls]⟩
   refine .inl ?_
   rcases hok with ⟨his,his2,h1⟩|⟨his,h1⟩|⟨his,h1⟩
   ·have g1:=getSet s (fun h=>his h.symm)
    have g2:=getSet (s+1) (fun h=>his2 h.symm)
    have hp:H <+: m.H:=by
     rw [inv.H]
     split
     ·exact p2
     split
     ·exact p1
     exact kh _
    exact go m.H m.H rfl (by rw [g1,g2];exact inv.H) (by rw [g1,g2];exact inv.seq) (h1.pre hp).tok0
   ·subst his
    have g2:=getSet (i+1) (by omega)
    have h0:listed.getD (i+1) true=false:=by
     cases hl:listed.getD (i+1) true with
     | false=>rfl
     | true=>have:=inv.seq hl;rw [hun] at this;cases this
    exact go H H1 (by rw [inv.H,hun,h0];simp) (by rw [g2,h0,getSame];simp) (fun _=>getSame) h1
   ·subst his
    have g1:=getSet s (by omega)
    obtain ⟨e,he,hbe,hon⟩:=hws o ho
    have h3:=hall e he hbe
    rw [hon] at h3
    have h4:listed.getD s true=true:=by rw [ES (by have:=inv.ls;omega)];exact h3
    exact go H1 H2 (by rw [inv.H,hun,h4];simp) (by rw [getSame];simp) (fun _=>by rw [g1];exact h4) h1
 intro f
 induction f with
 | zero =>
  intro listed a m inv hc
  have hr:Region.ready md ops listed=[]:=by
   cases hr:Region.ready md ops listed with
   | nil=>rfl
   | cons i r =>
    have h1:=(mem_ready.1 (show i∈Region.ready md ops listed by rw [hr];simp)).1
    have:=Mn h1
    omega
  exact ⟨hr,fin listed a m inv hr⟩
 | succ f ih =>
  intro listed a m inv hc
  refine ⟨fun hr=>fin listed a m inv hr,fun i hi=>next listed i a m inv hi _ fun a' m' inv'=>ih _ a' m' inv' ?_⟩
  have:=Mn (mem_ready.1 hi).1
  omega
end
section
variable {P:Program} {G:World→Prop} {N:Nat} {F:Frm} {H:List Ob} {Q:Ye}
theorem Apo (s:Nat) (ob2:Ob) (hm:P.follows .mixedOrders=true) (hB:(Rs N l && TT .any (l.take (s+2)).toArray && Li .any l.toArray (s+2) && (l[s+1]?.any fun o=>o.after.any fun e=>Region.binds .any e && decide (e.on=s)))=true)
  (h:Ch2 P G (l.take (s+2)).toArray (l.take s) F H H fun F1=>∃ o d x o2 ob,l[s]?=some o∧o.dst=some d∧o.guard=none∧AN P G o F1 H x [ob]∧l[s+1]?=some o2∧o2.dst=none∧o2.guard=none∧TOk P G o2 (F1.put (some d) x) (H++[ob]) .any (H++[ob2])∧Ti P G l.toArray (l.drop (s+2)) (F1.put (some d) x) (H++[ob2]) (Q .normal)):CW P G N (.region id l.toArray true) F H Q:=fun b0 w0 S0 a m hG hH hs=>by
 subst hH
 simp only [ai] at hB
 obtain ⟨⟨⟨hd,hC⟩,hp⟩,hwt⟩:=hB
 have hd1:Rs N (l.take (s+2))=true:=List.all_eq_true.2 fun o ho=>List.all_eq_true.1 hd o (en ho)
 have hd2:Rs N (l.drop (s+2))=true:=List.all_eq_true.2 fun o ho=>List.all_eq_true.1 hd o (ke ho)
 have hn:s+2<l.length:=by
  have:=hp
  simp only [Li,ai,decide_eq_true_eq,ki] at this
  exact this.1.1.1.1
 have hsz:(l.take (s+2)).toArray.size=s+2:=by simp;omega
 refine Fc (s+2) hm hp ?_
 obtain ⟨Fs,xs,h1,⟨o,d,x,o2,ob,ho,hdst,hgd,hT,ho2,hdst2,hgd2,hT2,hTi⟩,h4⟩:=h.seq
 have hls:(l.take s).length=s:=by simp;omega
 rw [hls] at hT hT2 hTi
 have hs':=hs.drew
 let Fs':Nat→Frm:=fun i=>if i≤s then Fs i else (Fs s).put (some d) x
 let xs':Nat→X:=fun i=>if i<s then xs i else if i=s then x else .any
 have hget:∀ i o',(l.take (s+2)).toArray[i]?=some o'→(i<s∧(l.take s)[i]?=some o')∨(i=s∧o'=o)∨(i=s+1∧o'=o2):=fun i o' hi=>by
  rw [ko] at hi
  have hlt:=(gS.1 hi).1
  have hlt:i<s+2:=by simp at hlt;omega
  rw [ky hlt] at hi
  rcases Nat.lt_trichotomy i s with h|h|h
  ·exact .inl ⟨h,by rw [ky h];exact hi⟩
  ·subst h
   rw [ho] at hi
   cases hi
   exact .inr (.inl ⟨rfl,rfl⟩)
  ·obtain rfl:i=s+1:=by omega
   rw [ho2] at hi
   cases hi
   exact .inr (.inr ⟨rfl,rfl⟩)
 refine Aex (G:=G) (w0:=w0) (S0:=S0) (b0:=b0) hG hC (N:=N) (by simpa using hd1) (Fs:=Fs') (xs:=xs') (H:=m.H) (H1:=m.H++[ob]) (H2:=m.H++[ob2]) (s:=s) (by rw [hsz];omega) (jj _ _) (jj _ _) (fun o' ho'=>?_) (fun i o' hi=>?_) (fun a' m' hH' hst=>?_) (s+2) (Array.replicate (s+2) false) a { m with w:=m.w.drew } ?_ (by simp [AcA])
 ·rcases hget _ _ ho' with ⟨h,_⟩|⟨h,_⟩|⟨_,rfl⟩
  ·omega
  ·omega
  rw [ho2] at hwt
  simp only [Option.any_some,Array.any_eq_true',ai,decide_eq_true_eq] at hwt
  obtain ⟨e,e1,e2,e3⟩:=hwt
  exact ⟨e,e1,e2,e3⟩
 ·rcases hget i o' hi with ⟨hlt,hg⟩|⟨rfl,rfl⟩|⟨rfl,rfl⟩
  ·obtain ⟨h5,h6⟩:=h4 i o' hg
   have e1:Fs' (i+1)=Fs (i+1):=if_pos (by omega)
   have e2:Fs' i=Fs i:=if_pos (by omega)
   have e3:xs' i=xs i:=if_pos hlt
   rw [e1,e2,e3]
   refine ⟨h5,?_⟩
   rcases h6 with ⟨h7,h8⟩|⟨h7,h8,h9⟩
   ·exact .inl ⟨h7,h8,by omega,by omega⟩
   ·exact .inr ⟨h7,.inl ⟨by omega,by omega,h8⟩⟩
  ·have e1:Fs' (i+1)=(Fs i).put (some d) x:=if_neg (by omega)
   have e2:Fs' i=Fs i:=if_pos (aa _)
   have e3:xs' i=x:=by
    show (if i<i then _ else if i=i then x else _)=x
    rw [if_neg (by omega),if_pos rfl]
   rw [e1,e2,e3,hdst]
   exact ⟨rfl,.inr ⟨by unfold Cs;rw [hgd],.inr (.inl ⟨rfl,hT.tok⟩)⟩⟩
  ·have e1:Fs' (s+1+1)=(Fs s).put (some d) x:=if_neg (by omega)
   have e2:Fs' (s+1)=(Fs s).put (some d) x:=if_neg (by omega)
   have e3:xs' (s+1)=.any:=by
    show (if s+1<s then _ else if s+1=s then x else _)=_
    rw [if_neg (by omega),if_neg (by omega)]
   rw [e1,e2,e3,hdst2]
   exact ⟨rfl,.inr ⟨by unfold Cs;rw [hgd2],.inr (.inr ⟨rfl,hT2⟩)⟩⟩
 ·rw [hsz] at hst
  have e1:Fs' (s+2)=(Fs s).put (some d) x:=if_neg (by omega)
  rw [e1] at hst
  rw [←hH'] at hTi
  exact Xb hG (l.drop (s+2)) _ a' m' (Q .normal) hd2 hst hTi fun F'' a'' m'' k1 k2=>⟨F'',m'',rfl,k1,k2⟩
 ·refine ⟨?_,?_,hs'.cx,hs'.tot,fun t ht=>?_,hs'.size,hs'.defers,hs'.below,hs'.base,hs'.S,hs'.T,by simp;omega⟩
  ·have e0:(Array.replicate (s+2) false).getD s true=false:=by simp [Array.getD]
   have e1:(Array.replicate (s+2) false).getD (s+1) true=false:=by simp [Array.getD]
   rw [e0,e1]
   rfl
  ·intro h
   have e1:(Array.replicate (s+2) false).getD (s+1) true=false:=by simp [Array.getD]
   rw [e1] at h
   cases h
  ·rw [hsz]
   have hno:∀ (i:Nat) (o':Oper),i<s+2→l[i]?=some o'→o'.dst≠some t:=fun i o' hlt hi=>by
    refine ht i o' ?_ (by simp [Array.getD];omega)
    rw [ko,ky hlt]
    exact hi
   have ka:∀ k,k≤s→Fs k t=F t:=fun k hk=>by
    induction k with
    | zero=>rw [h1]
    | succ k ih =>
     have hk2:(l.take s)[k]?=some ((l.take s)[k]'(by simp;omega)):=gE _
     have hk3:=hk2
     rw [ky (by omega)] at hk3
     rw [(h4 k _ hk2).1,Hl,if_neg (hno k _ (by omega) hk3)]
     exact ih (by omega)
   have e1:Fs' (s+2) t=F t:=by
    show (if s+2≤s then Fs (s+2) else (Fs s).put (some d) x) t=F t
    rw [if_neg (by omega),Hl,if_neg (by rw [←hdst];exact hno s o (by omega) ho)]
    exact ka s (aa _)
   rw [e1]
   exact hs'.frame t
theorem Ya {G:World→Prop} {F:Frm} {H H2:List Ob} {t:TypeId} {x y:Operand} {off k:Nat} {kk:Option Nat} {ob:Ob} {cy:List C} {b:Bool} (ho:o.op=.store t x y) (hx:F.ev x=.one (.ref id off kk)) (hH:H[id]?=some ob) (hk:ob.k=some kk) (hy:Ek (F.ev y)=some cy) (hty:TyK P t b k) (hlen:Nat.beq cy.length k=true) (hoff:off+cy.length≤ob.cs.length) (h2:H.set id (ob.setC (ob.cs.take off++cy++ob.cs.drop (off+cy.length)))=H2) :
  TOk P G o F H .any H2:=h2 ▸ IG ho hx hH hk hy hty hlen hoff
theorem App {o2:Oper} {d:Tmp} {x:X} {F:Frm} {H:List Ob} {ob ob2:Ob} {K:Frm→List Ob→Prop} {ops:Array Oper} {l2:List Oper} (ho:l[s]?=some o) (hd:o.dst=some d) (hg:o.guard=none) (ht:AN P G o F H x [ob]) (ho2:l[s+1]?=some o2) (hd2:o2.dst=none) (hg2:o2.guard=none) (ht2:TOk P G o2 (F.put (some d) x) (H++[ob]) .any (H++[ob2])) (hk:Ti P G ops l2 (F.put (some d) x) (H++[ob2]) K) :
  ∃ o d x o2 ob,l[s]?=some o∧o.dst=some d∧o.guard=none∧AN P G o F H x [ob]∧l[s+1]?=some o2∧o2.dst=none∧o2.guard=none∧TOk P G o2 (F.put (some d) x) (H++[ob]) .any (H++[ob2])∧Ti P G ops l2 (F.put (some d) x) (H++[ob2]) K   := ⟨o,d,x,o2,ob,ho,hd,hg,ht,ho2,hd2,hg2,ht2,hk⟩
end
theorem AbR {q:Pq} (hq:Nf q.1 q.2):decide (q=Bg q.1 q.2 0)=decide (q.2=0):=by
 by_cases h:q.2=0
 ·rw [decide_eq_true h]
  refine decide_eq_true ?_
  unfold Bg
  rw [if_pos (gp h)]
 ·rw [decide_eq_false h]
  refine decide_eq_false fun he=>h ?_
  have h2:(Bg q.1 q.2 0).2≤0:=by
   unfold Bg
   rw [if_neg (by omega)]
   exact Acr _ _
  rw [←he] at h2
  omega
theorem Apq {s a:Int} (hE:∀ p∈E,Sm p LB LB):mvP F E s a=Dn (eG E a) (ixP (decide (s<sG F a)) s):=by
 unfold mvP ixP
 by_cases h:sG F a≤s
 ·rw [if_pos h,decide_eq_false (by omega),if_neg (by decide)]
  exact (Fh (ER hE a).ok.2).symm
 ·rw [if_neg h,decide_eq_true (by omega),if_pos rfl]
theorem AbS (s:Int) (s0 : -30≤s) (s1:s≤30):CV prog Ah 197 [aI s] [aDy false (pw s).1 (pw s).2]:=by
 refine cvz func197 ntmps197 ?_
 have OF:=(QE (G:=Ah) 1 (by decide) (by decide)).cv
 have SH:=(EF (G:=Ah) false 1 0 s ⟨by decide,fun h=>absurd rfl h⟩ (lT (AC (k:=2) (by decide)) (by decide)) (by omega)).cv
 repeat' (with_reducible first|refine qq ?_|(refine Tx 0 ?_;refine gN (xAl Aj) ?_)|(refine Tx 1 ?_;refine gO (xCl func39 (OF)) <| gO xM <| gO (xCl func38 (SH)) <| gZ (xSk Aa) ?_))
 exact Cy
theorem DY (s:Int) (s0:0≤s) (s1:s≤30) (b:Bool):CV prog Ah 98 [aI s,aB b] [aDy false (ixP b s).1 (ixP b s).2]:=by
 refine cvz func98 ntmps98 ?_
 have OF:=(QE (G:=Ah) 0 (by decide) (by decide)).cv
 have PW:=AbS (-s) (by omega) (by omega)
 cases b
 case true =>
  rw [show ixP true s=pw (-s) from rfl]
  repeat' (with_reducible first|refine qq ?_|(refine Tx 0 ?_;refine gN (xAl Aj) ?_)|(refine Tx 1 ?_;refine gO xM <| gO DX ?_)|(refine Tx 3 ?_;refine gO xM <| gO DX <| gO (xCl func197 (PW)) <| gZ (xSk Aa) ?_))
  exact Cy
 case false =>
  rw [show ixP false s=(0,0) from rfl]
  repeat' (with_reducible first|refine qq ?_|(refine Tx 0 ?_;refine gN (xAl Aj) ?_)|(refine Tx 1 ?_;refine gO xM <| gO DX ?_)|(refine Tx 2 ?_;refine gO (xCl func39 (OF)) <| gZ (xSk Aa) ?_))
  exact Cy
theorem Gb (n e f:Int) (hs:DE n e) (f0:0≤f) (f1:f≤30):CV prog Ah 99 [.agg [dI n,dI e],aI f] [aB (Bf n e f)]:=by
 refine cvz func99 ntmps99 ?_
 have hs2:=hs
 unfold DE at hs2
 have RV:=(Sz (G:=Ah) n e (by omega) (by omega)).cv
 have sm:=FB hs
 have SH:=(EF (G:=Ah) false (Ae n 0 e).1 (Ae n 0 e).2 f sm.ok sm.lz (by have:=sm.ok.1;omega)).cv
 have sq:=FE sm f0 f1
 obtain ⟨q,hq⟩:∃ q,DP (Ae n 0 e) f=q:=⟨_,rfl⟩
 rw [show Ae (Ae n 0 e).1 (Ae n 0 e).2 f=q from hq] at SH
 rw [hq] at sq
 have FL:=(Tz q.1 q.2 0 sq.ok sq.lz (by decide)).cv
 have lf:=Om (d:=q.2) (den:=0) (k:=700) (sq.lenN 700 (by decide))
 have SM:=AdW false false q (Bg q.1 q.2 0) sq.lz (lT lf (by decide))
 rw [AbR sq.ok] at SM
 rw [show Bf n e f=decide (q.2=0) by unfold Bf;rw [hq]]
 generalize Bg q.1 q.2 0=w at *
 repeat' (with_reducible first|refine qq ?_|(refine Tx 0 ?_;refine gN xBo <| gO xA ?_)|(refine Tx 1 ?_;refine gO xL <| gO (xCl func102 (RV)) <| gO xM <| gO (xCl func38 (SH)) <| gN (xAl Aj) <| gZ (xSk Aa) ?_)|(refine Tx 2 ?_;refine gO xL <| gO (xCl func173 (FL)) <| gO xMt <| gO (by exact DB rfl rfl rfl) <| gO xEx <| gN (xAl Aj) <| gZ (xSk Aa) <| gO xA ?_)|(refine Tx 3 ?_;refine gO xL <| gO xL <| gO (xCl func27 (SM)) <| gO xA ?_))
 exact LZ
theorem DZ (p q:Pq) {n d n2 d2:Nat} (h:Sm p n d) (h2:Sm q n2 d2) (l1:n≤640000) (l2:n2≤640000):CV prog Ah 97 [aDy false p.1 p.2,aDy false q.1 q.2] [aDy false (Dn p q).1 (Dn p q).2]:=by
 refine cvz func97 ntmps97 ?_
 have AD:=(QR Ah false false p.1 p.2 q.1 q.2 h.ok h2.ok (lT (h.lenN 20000 (by omega)) (by decide)) (lT (h2.lenN 20000 (by omega)) (by decide))).cv
 repeat' (with_reducible first|refine qq ?_|(refine Tx 0 ?_;refine gN xBo <| gN xBo <| gN (xAl Aj) ?_)|(refine Tx 1 ?_;refine gO xL <| gO xL <| gO (xCl func37 (AD)) <| gZ (xSk Aa) ?_))
 exact Cy
theorem Gc (p q:Pq) {n d n2 d2:Nat} (h:Sm p n d) (h2:Sm q n2 d2) (l1:n≤640000) (l2:n2≤640000) (hd:d+d2≤65536):CV prog Ah 103 [aDy false p.1 p.2,aDy false q.1 q.2] [aDy false (CB p q).1 (CB p q).2]:=by
 refine cvz func103 ntmps103 ?_
 have AD:=AhZ p.1 p.2 q.1 q.2 h.ok h2.ok (lT (h.lenN 20000 (by omega)) (by decide)) (lT (h2.lenN 20000 (by omega)) (by decide)) (by have:=h.d;have:=h2.d;omega)
 repeat' (with_reducible first|refine qq ?_|(refine Tx 0 ?_;refine gN xBo <| gN xBo <| gN (xAl Aj) ?_)|(refine Tx 1 ?_;refine gO xL <| gO xL <| gO (xCl func204 (AD)) <| gZ (xSk Aa) ?_))
 exact Cy
theorem OG (x:Pq) (f:Int) (sx:Sm x 20000 20000) (f0:0≤f) (f1:f≤30):CV prog Ah 111 [aDy false x.1 x.2,aI f] [aB (Gd x f)]:=by
 refine cvz func111 ntmps111 ?_
 have SH:=(EF (G:=Ah) false x.1 x.2 f sx.ok sx.lz (by have:=sx.ok.1;omega)).cv
 have st:=FE sx f0 f1
 obtain ⟨T,hT⟩:∃ T,DP x f=T:=⟨_,rfl⟩
 rw [show Ae x.1 x.2 f=T from hT] at SH
 rw [hT] at st
 have OF:=(QE (G:=Ah) 2147483647 (by decide) (by decide)).cv
 have CM:=(QF (G:=Ah) false false T.1 T.2 2147483647 0 st.ok ⟨by decide,fun h=>absurd rfl h⟩ st.lz (lT (AC (k:=2) (by decide)) (by decide))).cv
 have hb:Gd x f=decide (BI T.1 T.2 2147483647 0≤0):=by unfold Gd;rw [hT]
 rw [hb]
 generalize BI T.1 T.2 2147483647 0=q at *
 repeat' (with_reducible first|refine qq ?_|(refine Tx 0 ?_;refine gN xBo <| gO xA ?_)|(refine Tx 1 ?_;refine gO xL <| gO xM <| gO (xCl func38 (SH)) <| gO (xCl func39 (OF)) <| gO (xCl func29 (CM)) <| gO xLe <| gO xA ?_))
 exact LZ
theorem Ro (a:Iq) (h:IwS a 20000 20000):CV prog Ah 104 [aIw false a] [aDy false (FX a).1 (FX a).2]:=by
 refine cvz func104 ntmps104 ?_
 have AB:=Aea a h
 repeat' (with_reducible first|refine qq ?_|(refine Tx 0 ?_;refine gN xBo <| gN (xAl Aj) ?_)|(refine Tx 1 ?_;refine gO xL <| gO (xCl func205 (AB)) <| gO (by exact RT rfl rfl AM Aa rfl) <| gZ (xSk Aa) ?_))
 exact Cy
end Go.Proofs.YtmdfjbpggbhgnaaGreatDoor
