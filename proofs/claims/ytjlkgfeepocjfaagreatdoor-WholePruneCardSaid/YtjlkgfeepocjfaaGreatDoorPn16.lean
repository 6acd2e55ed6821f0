/- What the proofs of this claim share, part 16. No conditions. -/
import Derived.Test.YtjlkgfeepocjfaaGreatDoorPn15
import Derived.Test.YtjlkgfeepocjfaaGreatDoorPn14
import Derived.Test.YtjlkgfeepocjfaaGreatDoorPn11
import Derived.Test.YtjlkgfeepocjfaaGreatDoorPn7
import Derived.Test.YtjlkgfeepocjfaaGreatDoorPn8
import Derived.Test.YtjlkgfeepocjfaaGreatDoorPn9
set_option maxRecDepth 100000
set_option maxHeartbeats 8000000
set_option linter.all false
open Go.Proofs.Tryz
namespace Go.Proofs.YtjlkgfeepocjfaaGreatDoor
open Go.RowKit
variable {p p':Prop} {id n ty:Nat} {E:List Pq} {qs:List (Rv × Rv)} {rs:List Rv} {r:Rv} {ps:List Prt} {bs:List Bk} {F:List Int} {w:World} {S:Dm} {P:Program} {fn:Func} {H:List Ob}
def Ajl (mk:Bool) (E:List Pq):D:=.row mk 3 E.length (Ar dyP E)
def dCx (u:Bool) (c:Ct) (xd:D):List D:=[AM u c.F,.row false 6 c.R.length (Ar (dIw false) c.R),xd]
theorem AsJ (h:p:=by first|exact xIr Aa (AF hk)|exact xIr Aa (AF hFr)|exact xIr Aa (hEr)):p:=h
theorem AkW (k:p') (h:Hd9 p'→p:=by with_reducible first|(intro Z9;refine qq ?_;exact Z9.o)|(intro Z9;refine Tx 0 ?_;refine gN (xAl Ak) ?_;exact Z9.o)|(intro Z9;refine Tx 1 ?_;refine gO xF <| gO xD <| gO xM <| gO AsJ <| gO xD <| gO xA ?_;exact Z9.o)|(intro Z9;refine BB (id:=2) AJ (by kernel_rfl) ?_;refine gP xD <| gP xF <| gP xD <| gP xM <| gP AsJ <| gP xD <| gP xGe ?_;refine Ke ?_;exact Z9.o)|(intro Z9;refine Tx 3 ?_;refine gO xD <| gO xM <| gO (xIr Af (hEr)) <| gO xL <| gZ (xSk Ab) ?_;exact Z9.o)|(intro Z9;refine AE (id:=4) 6 AJ (by kernel_rfl) ?_;dsimp only [List.take,List.drop];refine gP xD <| gP xM <| gP (xIr Af (hEr)) <| gP xL <| gP xL <| gP (xCl func146 (AD)) ?_;refine Ke ?_;refine gZ (xSk Ab) ?_;exact Z9.o)|fail):p:=h ⟨k⟩
theorem DT (h:p:=by
 exact AN rfl (.cons_ (rvW Ab rfl) .nil_)):p:=h
theorem EG (mk:Bool) (xd:D) (t u:Bool) (c:Ct) (E:List Pq) (y:Bk) (s:Int) (s0:0≤s) (s1:s≤30) (sE:∀ p∈E,Sm p LB LB) (k:Nat) {r:Nat} (hk:y.args[k]?=some (r:Int)) (hr:r<c.F.length) (hr2:r<E.length) (ha:y.args.length≤1000000) (hv:c.F.length≤1000000) (hv2:E.length≤1000000):CV prog An 145 [aI (k:Int),.one (.ptr true (dBk t y)),.one (.ptr true [dI s]),.one (.ptr true (dCx u c xd)),.one (.ptr true [Ajl mk E]),.one (.ptr true (dDy false (pw (-s)).1 (pw (-s)).2))] [aDy false (mvP c.F E s (r:Int)).1 (mvP c.F E s (r:Int)).2]:=by
 refine cvz func145 ntmps145 ?_
 have l1:=(gS.1 hk).1
 have hFr:=YX (F:=c.F) (k:=r) (by omega)
 have hEr:=AoI (E:=E) (k:=r) (by omega)
 have sm:=Ec sE r
 obtain ⟨e,he⟩:∃ e,E[r]?.getD (0,0)=e:=⟨_,rfl⟩
 rw [he] at sm hEr
 have um:=YW s0 s1
 have AD:=CY e.1 e.2 (pw (-s)).1 (pw (-s)).2 sm.ok um.ok sm.lz um.lz
 by_cases h:scA c.F r≤s
 case pos =>
  rw [show mvP c.F E s (r:Int)=e by unfold mvP;rw [OG,if_pos h,Tn,he]]
  repeat' (with_reducible first|refine AkW ?_)
  exact DT
 rw [show mvP c.F E s (r:Int)=GJ e (pw (-s)) by unfold mvP;rw [OG,if_neg h,Tn,he]]
 repeat' (with_reducible first|refine AkW ?_)
 exact DT
theorem Oj (b:Bool) (s:Int):CV prog An 147 [aB b,.one (.ptr true (dDy false (pw (-s)).1 (pw (-s)).2))] [aDy false (ixP b s).1 (ixP b s).2]:=by
 refine cvz func147 ntmps147 ?_
 cases b
 case true =>
  rw [show ixP true s=pw (-s) from rfl]
  repeat' (with_reducible first|refine qq ?_|(refine Tx 0 ?_;refine gN (xAl Ak) ?_)|(refine Tx 1 ?_;refine gO xM ?_)|(refine Tx 2 ?_;refine gO xL <| gZ (xSk Ab) ?_))
  exact DT
 case false =>
  rw [show ixP false s=(0,0) from rfl,LO]
  repeat' (with_reducible first|refine qq ?_|(refine Tx 0 ?_;refine gN (xAl Ak) ?_)|(refine Tx 1 ?_;refine gO xM ?_)|(refine Tx 3 ?_;refine gO (by exact AH rfl Mq rfl rfl) <| gZ (xSk Ab) ?_))
  exact AN rfl (.cons_ (AuT Ab rfl) .nil_)
theorem GH (k:p') (h:Hd9 p'→p:=by with_reducible first|(intro Z9;refine qq ?_;exact Z9.o)|(intro Z9;refine Tx 0 ?_;refine gN xBo <| gN xBo <| gN xBo <| gN (xAl Ak) ?_;exact Z9.o)|(intro Z9;refine Tx 3 ?_;refine gO xD <| gO (xCl func134 (UN)) <| gN (xAl Ak) <| gZ (xSk Ab) ?_;exact Z9.o)|(intro Z9;refine Tx 4 ?_;refine gO (by first|exact xMf [(4,0,none),(5,0,none),(1,0,none),(2,0,none),(6,0,none)]|exact CD rfl (by repeat' first|exact BM rfl rfl|refine AX rfl rfl rfl ?_)) <| gO xA ?_;exact Z9.o)|(intro Z9;refine Tx 5 ?_;refine gO (by first|exact xMf [(6,0,none)]|exact CD rfl (by repeat' first|exact BM rfl rfl|refine AX rfl rfl rfl ?_)) <| gO xA ?_;exact Z9.o)|(intro Z9;refine Tx 6 ?_;refine gO xF <| gO xD ?_;exact Z9.o)|(intro Z9;refine Tx 7 ?_;refine gO xEq <| gO xA ?_;exact Z9.o)|fail):p:=h ⟨k⟩
theorem AoK (h:p:=by first|exact xS1 Al|exact xSk Al):p:=h
theorem Iu (k:p') (h:Hd9 p'→p:=by with_reducible first|(intro Z9;refine Tx 1 ?_;refine gO xF <| gO xD <| gO xM <| gO (xIr Ap (Gc hy)) <| gO xL <| gN (xAl Cw) <| gZ (xSk BZ) ?_;exact Z9.o)|(intro Z9;refine Tx 2 ?_;refine gO xF <| gO xD <| gO xM <| gO (xIr Aa (AF hFi)) <| gO xD <| gN (xAl BK) <| gZ AoK ?_;exact Z9.o)|fail):p:=h ⟨k⟩
theorem Hj (k:p') (h:Hd9 p'→p:=by with_reducible first|(intro Z9;refine Tx 9 ?_;refine gO xEq <| gO xA ?_;exact Z9.o)|fail):p:=h ⟨k⟩
theorem Iw (k:p') (h:Hd9 p'→p:=by with_reducible first|(intro Z9;refine Tx 11 ?_;refine gO xEq <| gO xA ?_;exact Z9.o)|fail):p:=h ⟨k⟩
theorem Lr (k:p') (h:Hd9 p'→p:=by with_reducible first|(intro Z9;refine Tx 12 ?_;refine gO xEq <| gO xA ?_;exact Z9.o)|fail):p:=h ⟨k⟩
theorem AsK (h:p:=by first|exact xCl func148 (WH)|exact xCl func148 (WU)):p:=h
theorem Fy (h:p:=by first|exact xNt|exact xNg):p:=h
theorem AkX (k:p') (h:Hd9 p'→p:=by with_reducible first|(intro Z9;refine AE (id:=27) 17 AJ (by kernel_rfl) ?_;dsimp only [List.take,List.drop];refine gP xM <| gP (xCc func145 M0 (args:=[_]) rfl) <| gP xM <| gP xF <| gP xL <| gP xD <| gP AsK <| gP Fy <| gP xM ?_;(first|iterate 5 refine Kd ?_|(refine Ky (xFa Hz BE) ?_;refine Ky (xLa BE) ?_;refine Ky (xLd Al) ?_;refine Ky AsK ?_;refine Ky Fy ?_));refine gP xPk <| gP (xCc func147 IX (args:=[_]) rfl) <| gP (xCl func91 (C)) ?_;refine Ke ?_;refine gZ (xSk Ab) ?_;exact Z9.o)|fail):p:=h ⟨k⟩
theorem AoL (h:p:=by first|exact xIr Aa (AF hFi)|exact xIr Aa (AF hF0)|exact xIr Aa (AF hF1)|exact xIr Aa (hE0)|exact xIr Aa (hE1)|exact xIr Aa (hI0)|exact xIr Aa (hI1)):p:=h
theorem AsL (h:p:=by first|exact xIr Ah (hE0)|exact xIr Ah (hE1)|exact xIr Ah (hI0)|exact xIr Ah (hI1)):p:=h
theorem Ajm (h:p:=by first|exact xIr Af (hE0)|exact xIr Af (hE1)|exact xIr Af (hI0)|exact xIr Af (hI1)):p:=h
theorem AsM (h:p:=by first|exact xIr Aa (AF hFi)|exact xIr Aa (AF hF0)|exact xIr Aa (hEa)):p:=h
theorem AoM (h:p:=by first|exact xCl func149 (MA)|exact xCl func149 (MB)|exact xCl func149 (MC)):p:=h
theorem AoN (h:p:=by first|exact xCl func146 (D1)|exact xCl func146 (D2)|exact xCl func146 (D3)):p:=h
theorem AsN (h:p:=by first|exact xCl func151 (MG0)|exact xCl func151 (MG1)):p:=h
theorem AsO (h:p:=by first|exact xIr Aa (AF hA0)|exact xIr Aa (hEa)):p:=h
theorem AoO (h:p:=by first|exact Aki rfl rfl rfl|exact xLt):p:=h
theorem Ok (mk:Bool) (xd:D) (t u:Bool) {ps:List Prt} {bs:List Bk} (os:List Int) (c:Ct) (E:List Pq) (hE:E.length=bs.length) (sE:∀ p∈E,Sm p LB LB) (i:Nat) {y:Bk} (hy:bs[i]?=some y) (B:AaC ps bs.length y) (hF:c.F.length=bs.length) (hR:c.R.length=bs.length) (sR:∀ p∈c.R,IwS p LB LB) (hn:bs.length≤1000000) (hpn:ps.length≤1000000) (hs2:0≤scA c.F i∧scA c.F i≤30) (hsa:y.kind≠0→∀ a∈y.args,0≤sG c.F a∧sG c.F a≤30):CV prog An 62 [aDg t ps bs os,.agg (dCx u c xd),.one (Ajl mk E),aI (i:Int)] [aDy false (Bu ps c.F c.R E y (scA c.F i)).1 (Bu ps c.F c.R E y (scA c.F i)).2]:=by
 refine cvz func62 ntmps62 ?_
 have hil:=(gS.1 hy).1
 have hFi:=YX (F:=c.F) (k:=i) (by omega)
 obtain ⟨s,hs⟩:∃ s,scA c.F i=s:=⟨_,rfl⟩
 rw [hs] at hFi
 have hBl:=B.len
 obtain ⟨s0,s1⟩:=hs2
 rw [hs] at s0 s1
 have UN:=Rl s (by omega) (by omega)
 have um:=YW s0 s1
 rw [hs]
 rcases B.hk with h|h|h|h|h|h|h|h|h|h|h|h
 ·
  obtain ⟨j,pp,hA0,ha0,hp,PS⟩:=B.port h
  have l3:=(gS.1 hp).1
  have hL0:=(gS.1 hA0).1
  rw [show Bu ps c.F c.R E y s=ixP (decide (s<pp.fr)) s by unfold Bu;rw [if_pos h,ha0,AfT hp]]
  have IX:=Oj (decide (s<pp.fr)) s
  repeat' (with_reducible first|refine GH ?_|refine Iu ?_|(refine AE (id:=8) 13 AJ (by kernel_rfl) ?_;dsimp only [List.take,List.drop];refine gP xM <| gP xD <| gP xF <| gP xD <| gP xF <| gP xD <| gP (xIr Aa (AF hA0)) <| gP xD <| gP (xIr BG (Gz hp)) <| gP xF <| gP xD <| gP AoO <| gP (xCc func147 IX (args:=[_]) rfl) ?_;refine Ke ?_;refine gZ (xSk Ab) ?_))
  exact DT
 ·
  have WH:=La y.vn y.ve s (B.sv (by omega)) s0 s1
  have IX:=Oj (!Cs y.vn y.ve s) s
  rw [show Bu ps c.F c.R E y s=ixP (!Cs y.vn y.ve s) s by unfold Bu;rw [if_neg (by omega),if_pos h]]
  repeat' (with_reducible first|refine GH ?_|refine Iu ?_|refine Hj ?_|(refine Tx 10 ?_;refine gO xM <| gO xF <| gO xL <| gO xD <| gO (xCl func148 (WH)) <| gO Fy <| gO (xCc func147 IX (args:=[_]) rfl) <| gZ (xSk Ab) ?_))
  exact DT
 ·
  obtain ⟨a,hA0,ha0,hl0⟩:=B.a0 (by omega)
  have hl0:=hl0 (by omega)
  have hL0:=(gS.1 hA0).1
  have M0:=EG mk xd t u c E y s s0 s1 sE 0 hA0 (by omega) (by omega) (by omega) (by omega) (by omega)
  obtain ⟨m0,hm0⟩:∃ m,mvP c.F E s (a:Int)=m:=⟨_,rfl⟩
  have t0:=Ma (F:=c.F) s0 s1 sE (a:Int)
  rw [hm0] at M0 t0
  have WH:=La y.vn y.ve s (B.sv (by omega)) s0 s1
  have ib:=UT (b:=(!Cs y.vn y.ve s)) s0 s1
  have IX:=Oj (!Cs y.vn y.ve s) s
  have C:=Ek m0.1 m0.2 (ixP (!Cs y.vn y.ve s) s).1 (ixP (!Cs y.vn y.ve s) s).2 t0.ok ib.ok t0.lz ib.lz
  rw [show Bu ps c.F c.R E y s=Md m0 (ixP (!Cs y.vn y.ve s) s) by unfold Bu;rw [if_neg (by omega),if_neg (by omega),if_neg (by omega),if_neg (by omega),if_neg (by omega),if_neg (by omega),if_neg (by omega),if_neg (by omega),ha0,hm0]]
  repeat' (with_reducible first|refine GH ?_|refine Iu ?_|refine Hj ?_|refine Iw ?_|refine Lr ?_|(refine Tx 14 ?_;refine gO xEq <| gO xA ?_)|(refine Tx 15 ?_;refine gO xEq <| gO xA ?_)|(refine Tx 17 ?_;refine gO xEq <| gO xA ?_)|(refine Tx 18 ?_;refine gO xEq <| gO xA ?_)|(refine Tx 20 ?_;refine gO xEq <| gO xA ?_)|(refine Tx 22 ?_;refine gO xEq <| gO xA ?_)|(refine Tx 26 ?_;refine gO xEq <| gO xA ?_)|(refine AE (id:=28) 10 AJ (by kernel_rfl) ?_;dsimp only [List.take,List.drop];refine gP xM <| gP (xCc func145 M0 (args:=[_]) rfl) <| gP xM <| gP xF <| gP xL <| gP xD <| gP (xCl func148 (WH)) <| gP Fy <| gP (xCc func147 IX (args:=[_]) rfl) <| gP (xCl func91 (C)) ?_;refine Ke ?_;refine gZ (xSk Ab) ?_))
  exact DT
 ·
  obtain ⟨a,hA0,ha0,hl0⟩:=B.a0 (by omega)
  have hl0:=hl0 (by omega)
  have hL0:=(gS.1 hA0).1
  obtain ⟨b,hA1,ha1,hl1⟩:=B.a1 (by omega)
  have hL1:=(gS.1 hA1).1
  have M0:=EG mk xd t u c E y s s0 s1 sE 0 hA0 (by omega) (by omega) (by omega) (by omega) (by omega)
  obtain ⟨m0,hm0⟩:∃ m,mvP c.F E s (a:Int)=m:=⟨_,rfl⟩
  have t0:=Ma (F:=c.F) s0 s1 sE (a:Int)
  rw [hm0] at M0 t0
  have M1:=EG mk xd t u c E y s s0 s1 sE 1 hA1 (by omega) (by omega) (by omega) (by omega) (by omega)
  obtain ⟨m1,hm1⟩:∃ m,mvP c.F E s (b:Int)=m:=⟨_,rfl⟩
  have t1:=Ma (F:=c.F) s0 s1 sE (b:Int)
  rw [hm1] at M1 t1
  have C:=CY m0.1 m0.2 m1.1 m1.2 t0.ok t1.ok t0.lz t1.lz
  rw [show Bu ps c.F c.R E y s=GJ m0 m1 by unfold Bu;rw [if_neg (by omega),if_neg (by omega),if_pos (by omega),ha0,ha1,hm0,hm1]]
  repeat' (with_reducible first|refine GH ?_|refine Iu ?_|refine Hj ?_|refine Iw ?_|(refine Tx 13 ?_;refine gO xM <| gO (xCc func145 M0 (args:=[_]) rfl) <| gO xM <| gO (xCc func145 M1 (args:=[_]) rfl) <| gO (xCl func146 (C)) <| gZ (xSk Ab) ?_))
  exact DT
 ·
  obtain ⟨a,hA0,ha0,hl0⟩:=B.a0 (by omega)
  have hl0:=hl0 (by omega)
  have hL0:=(gS.1 hA0).1
  obtain ⟨b,hA1,ha1,hl1⟩:=B.a1 (by omega)
  have hL1:=(gS.1 hA1).1
  have M0:=EG mk xd t u c E y s s0 s1 sE 0 hA0 (by omega) (by omega) (by omega) (by omega) (by omega)
  obtain ⟨m0,hm0⟩:∃ m,mvP c.F E s (a:Int)=m:=⟨_,rfl⟩
  have t0:=Ma (F:=c.F) s0 s1 sE (a:Int)
  rw [hm0] at M0 t0
  have M1:=EG mk xd t u c E y s s0 s1 sE 1 hA1 (by omega) (by omega) (by omega) (by omega) (by omega)
  obtain ⟨m1,hm1⟩:∃ m,mvP c.F E s (b:Int)=m:=⟨_,rfl⟩
  have t1:=Ma (F:=c.F) s0 s1 sE (b:Int)
  rw [hm1] at M1 t1
  have C:=CY m0.1 m0.2 m1.1 m1.2 t0.ok t1.ok t0.lz t1.lz
  rw [show Bu ps c.F c.R E y s=GJ m0 m1 by unfold Bu;rw [if_neg (by omega),if_neg (by omega),if_pos (by omega),ha0,ha1,hm0,hm1]]
  repeat' (with_reducible first|refine GH ?_|refine Iu ?_|refine Hj ?_|refine Iw ?_|refine Lr ?_|(refine Tx 13 ?_;refine gO xM <| gO (xCc func145 M0 (args:=[_]) rfl) <| gO xM <| gO (xCc func145 M1 (args:=[_]) rfl) <| gO (xCl func146 (C)) <| gZ (xSk Ab) ?_))
  exact DT
 ·
  obtain ⟨a,hA0,ha0,hl0⟩:=B.a0 (by omega)
  have hl0:=hl0 (by omega)
  have hL0:=(gS.1 hA0).1
  have M0:=EG mk xd t u c E y s s0 s1 sE 0 hA0 (by omega) (by omega) (by omega) (by omega) (by omega)
  obtain ⟨m0,hm0⟩:∃ m,mvP c.F E s (a:Int)=m:=⟨_,rfl⟩
  have t0:=Ma (F:=c.F) s0 s1 sE (a:Int)
  rw [hm0] at M0 t0
  rw [show Bu ps c.F c.R E y s=m0 by unfold Bu;rw [if_neg (by omega),if_neg (by omega),if_neg (by omega),if_pos (by omega),ha0,hm0]]
  repeat' (with_reducible first|refine GH ?_|refine Iu ?_|refine Hj ?_|refine Iw ?_|refine Lr ?_|(refine Tx 14 ?_;refine gO xEq <| gO xA ?_)|(refine Tx 16 ?_;refine gO xM <| gO (xCc func145 M0 (args:=[_]) rfl) <| gZ (xSk Ab) ?_))
  exact DT
 ·
  obtain ⟨a,hA0,ha0,hl0⟩:=B.a0 (by omega)
  have hl0:=hl0 (by omega)
  have hL0:=(gS.1 hA0).1
  have hF0:=YX (F:=c.F) (k:=a) (by omega)
  have hr0:=hsa (by omega) a (gM hA0)
  rw [OG] at hr0
  have hv:=B.sv (by omega)
  have sv:=Ho hv
  have hv2:=hv
  unfold DA at hv2
  have RV:=Hb y.vn y.ve hv
  have hEa:=AoI (E:=E) (k:=a) (by omega)
  have se:=Ec sE a
  obtain ⟨e,he⟩:∃ e,E[a]?.getD (0,0)=e:=⟨_,rfl⟩
  rw [he] at se hEa
  obtain ⟨r,hr⟩:∃ r,scA c.F a=r:=⟨_,rfl⟩
  rw [hr] at hF0 hr0
  obtain ⟨v,hvv⟩:∃ v,Ac y.vn 0 y.ve=v:=⟨_,rfl⟩
  rw [hvv] at RV sv
  have AB:=PA v.1 v.2 sv.ok sv.lz
  have sa:=sv.abs
  have MU:=Gd (Nc v).1 (Nc v).2 e.1 e.2 sa.ok se.ok sa.lz se.lz (lT (fa sa.d se.d) (by decide))
  have sm:=Sm.mul sa se (by decide)
  have ib:=UT (b:=decide (s - r+y.ve<0)) s0 s1
  have IX:=Oj (decide (s - r+y.ve<0)) s
  have AD:=CY (Dj (Nc v) e).1 (Dj (Nc v) e).2 (ixP (decide (s - r+y.ve<0)) s).1 (ixP (decide (s - r+y.ve<0)) s).2 sm.ok ib.ok sm.lz ib.lz
  rw [show Bu ps c.F c.R E y s=GJ (Dj (Nc v) e) (ixP (decide (s - r+y.ve<0)) s) by unfold Bu;rw [if_neg (by omega),if_neg (by omega),if_neg (by omega),if_neg (by omega),if_neg (by omega),if_pos h,ha0,OG,Tn,he,hr,hvv]]
  repeat' (with_reducible first|refine GH ?_|(refine Tx 1 ?_;refine gO xF <| gO xD <| gO xM <| gO (by first|exact xIr Ap (Gc hy)|exact xIr Ap (hEa)) <| gO xL <| gN (xAl Cw) <| gZ (xSk BZ) ?_)|(refine Tx 2 ?_;refine gO xF <| gO xD <| gO xM <| gO AsM <| gO xD <| gN (xAl BK) <| gZ AoK ?_)|refine Hj ?_|refine Iw ?_|refine Lr ?_|(refine Tx 14 ?_;refine gO xEq <| gO xA ?_)|(refine Tx 15 ?_;refine gO xEq <| gO xA ?_)|(refine Tx 17 ?_;refine gO xEq <| gO xA ?_)|(refine Tx 18 ?_;refine gO xEq <| gO xA ?_)|(refine Tx 20 ?_;refine gO xEq <| gO xA ?_)|(refine AE (id:=21) 30 AJ (by kernel_rfl) ?_;dsimp only [List.take,List.drop];refine gP xF <| gP xL <| gP (xCl func135 (RV)) <| gP (xCl func150 (AB)) <| gP xD <| gP xF <| gP xD <| gP AsO <| gP xD <| gP (xIr Af (hEa)) <| gP xL <| gP (xCl func149 (MU)) <| gP xM <| gP xD <| gP xF <| gP xD <| gP xF <| gP xD <| gP AsO <| gP xD <| gP AsM <| gP xD <| gP xSb <| gP xF <| gP xF <| gP xD <| gP xAd <| gP AoO <| gP (xCc func147 IX (args:=[_]) rfl) <| gP (xCl func146 (AD)) ?_;refine Ke ?_;refine gZ (xSk Ab) ?_))
  exact DT
 ·
  obtain ⟨a,hA0,ha0,hl0⟩:=B.a0 (by omega)
  have hl0:=hl0 (by omega)
  have hL0:=(gS.1 hA0).1
  obtain ⟨b,hA1,ha1,hl1⟩:=B.a1 (by omega)
  have hL1:=(gS.1 hA1).1
  have hF0:=YX (F:=c.F) (k:=a) (by omega)
  have hr0:=hsa (by omega) a (gM hA0)
  rw [OG] at hr0
  have hE0:=AoI (E:=E) (k:=a) (by omega)
  have se0:=Ec sE a
  obtain ⟨e0,he0⟩:∃ e,E[a]?.getD (0,0)=e:=⟨_,rfl⟩
  rw [he0] at se0 hE0
  obtain ⟨r0,hq0⟩:∃ r,scA c.F a=r:=⟨_,rfl⟩
  rw [hq0] at hF0 hr0
  have hI0:=AoJ (R:=c.R) (k:=a) (by omega)
  have si0:=BP sR a
  obtain ⟨P0,hP0⟩:∃ P,c.R[a]?.getD iZ=P:=⟨_,rfl⟩
  rw [hP0] at si0 hI0
  have MG0:=MP P0 (si0.more LBx LBx)
  have sg0:=Tm si0
  generalize hG0:Lo P0=G0 at MG0 sg0
  have hF1:=YX (F:=c.F) (k:=b) (by omega)
  have hr1:=hsa (by omega) b (gM hA1)
  rw [OG] at hr1
  have hE1:=AoI (E:=E) (k:=b) (by omega)
  have se1:=Ec sE b
  obtain ⟨e1,he1⟩:∃ e,E[b]?.getD (0,0)=e:=⟨_,rfl⟩
  rw [he1] at se1 hE1
  obtain ⟨r1,hq1⟩:∃ r,scA c.F b=r:=⟨_,rfl⟩
  rw [hq1] at hF1 hr1
  have hI1:=AoJ (R:=c.R) (k:=b) (by omega)
  have si1:=BP sR b
  obtain ⟨P1,hP1⟩:∃ P,c.R[b]?.getD iZ=P:=⟨_,rfl⟩
  rw [hP1] at si1 hI1
  have MG1:=MP P1 (si1.more LBx LBx)
  have sg1:=Tm si1
  generalize hG1:Lo P1=G1 at MG1 sg1
  have MA:=Gd G0.1 G0.2 e1.1 e1.2 sg0.ok se1.ok sg0.lz se1.lz (lT (fa sg0.d se1.d) (by decide))
  have sMA:=Sm.mul sg0 se1 (by decide)
  have MB:=Gd G1.1 G1.2 e0.1 e0.2 sg1.ok se0.ok sg1.lz se0.lz (lT (fa sg1.d se0.d) (by decide))
  have sMB:=Sm.mul sg1 se0 (by decide)
  have MC:=Gd e0.1 e0.2 e1.1 e1.2 se0.ok se1.ok se0.lz se1.lz (lT (fa se0.d se1.d) (by decide))
  have sMC:=Sm.mul se0 se1 (by decide)
  generalize hA:Dj G0 e1=A at *
  generalize hB:Dj G1 e0=Bq at *
  generalize hC:Dj e0 e1=Cq at *
  have hAe:NN G0.1 G0.2 e1.1 e1.2=A:=hA
  have hBe:NN G1.1 G1.2 e0.1 e0.2=Bq:=hB
  have hCe:NN e0.1 e0.2 e1.1 e1.2=Cq:=hC
  rw [hAe] at MA sMA
  rw [hBe] at MB sMB
  rw [hCe] at MC sMC
  have D1:=CY A.1 A.2 Bq.1 Bq.2 sMA.ok sMB.ok sMA.lz sMB.lz
  have t1:Sm (GJ A Bq) 16385 8192:=Sm.sum sMA sMB (by decide)
  generalize hS:GJ A Bq=S1 at *
  have hSe:DV A.1 A.2 Bq.1 Bq.2=S1:=hS
  rw [hSe] at D1
  have D2:=CY S1.1 S1.2 Cq.1 Cq.2 t1.ok sMC.ok t1.lz sMC.lz
  have t2:Sm (GJ S1 Cq) 24578 8192:=Sm.sum t1 (sMC.more (by decide) (by decide)) (by decide)
  generalize hT:GJ S1 Cq=S2 at *
  have hTe:DV S1.1 S1.2 Cq.1 Cq.2=S2:=hT
  rw [hTe] at D2
  have ib:=UT (b:=decide (s - r0 - r1<0)) s0 s1
  have IX:=Oj (decide (s - r0 - r1<0)) s
  have D3:=CY S2.1 S2.2 (ixP (decide (s - r0 - r1<0)) s).1 (ixP (decide (s - r0 - r1<0)) s).2 t2.ok ib.ok t2.lz ib.lz
  rw [show Bu ps c.F c.R E y s=GJ S2 (ixP (decide (s - r0 - r1<0)) s) by unfold Bu;rw [if_neg (by omega),if_neg (by omega),if_neg (by omega),if_neg (by omega),if_neg (by omega),if_neg (by omega),if_pos h,ha0,ha1,OG,OG,Tn,Tn,AaD,AaD,he0,he1,hq0,hq1,hP0,hP1,hG0,hG1,hA,hB,hC,hS,hT]]
  repeat' (with_reducible first|refine GH ?_|(refine Tx 1 ?_;refine gO xF <| gO xD <| gO xM <| gO (by first|exact xIr Ap (Gc hy)|exact xIr Ap (hE0)|exact xIr Ap (hE1)|exact xIr Ap (hI0)|exact xIr Ap (hI1)) <| gO xL <| gN (xAl Cw) <| gZ (xSk BZ) ?_)|(refine Tx 2 ?_;refine gO xF <| gO xD <| gO xM <| gO AoL <| gO xD <| gN (xAl BK) <| gZ AoK ?_)|refine Hj ?_|refine Iw ?_|refine Lr ?_|(refine Tx 14 ?_;refine gO xEq <| gO xA ?_)|(refine Tx 15 ?_;refine gO xEq <| gO xA ?_)|(refine Tx 17 ?_;refine gO xEq <| gO xA ?_)|(refine Tx 18 ?_;refine gO xEq <| gO xA ?_)|(refine Tx 20 ?_;refine gO xEq <| gO xA ?_)|(refine Tx 22 ?_;refine gO xEq <| gO xA ?_)|(refine BB (id:=23) AJ (by kernel_rfl) ?_;refine gP xF <| gP xD <| gP (by first|exact xIr Aa (AF hA0)|exact xIr Aa (hE0)|exact xIr Aa (hE1)|exact xIr Aa (hI0)|exact xIr Aa (hI1)) <| gP xD <| gP xF <| gP xD <| gP (by first|exact xIr Aa (AF hA1)|exact xIr Aa (hE0)|exact xIr Aa (hE1)|exact xIr Aa (hI0)|exact xIr Aa (hI1)) <| gP xD <| gP xA <| gP xA ?_;refine Ke ?_)|(refine AE (id:=24) 24 AJ (by kernel_rfl) ?_;dsimp only [List.take,List.drop];refine gP xF <| gP xD <| gP xM <| gP AsL <| gP xL <| gP AsN <| gP xD <| gP xM <| gP Ajm <| gP xL <| gP AoM <| gP xF <| gP xD <| gP xM <| gP AsL <| gP xL <| gP AsN <| gP xD <| gP xM <| gP Ajm <| gP xL <| gP AoM <| gP AoN <| gQ (xAl Ak) ?_;refine Ke ?_;refine gZ (xSk Ab) ?_)|(refine AE (id:=25) 28 AJ (by kernel_rfl) ?_;dsimp only [List.take,List.drop];refine gP xL <| gP xD <| gP xM <| gP Ajm <| gP xL <| gP xD <| gP xM <| gP Ajm <| gP xL <| gP AoM <| gP AoN <| gP xM <| gP xD <| gP xF <| gP xD <| gP xM <| gP AoL <| gP xD <| gP xSb <| gP xF <| gP xD <| gP xM <| gP AoL <| gP xD <| gP xSb <| gP AoO <| gP (xCc func147 IX (args:=[_]) rfl) <| gP AoN ?_;refine Ke ?_;refine gZ (xSk Ab) ?_))
  exact DT
 ·
  obtain ⟨a,hA0,ha0,hl0⟩:=B.a0 (by omega)
  have hl0:=hl0 (by omega)
  have hL0:=(gS.1 hA0).1
  obtain ⟨b,hA1,ha1,hl1⟩:=B.a1 (by omega)
  have hL1:=(gS.1 hA1).1
  have M0:=EG mk xd t u c E y s s0 s1 sE 0 hA0 (by omega) (by omega) (by omega) (by omega) (by omega)
  obtain ⟨m0,hm0⟩:∃ m,mvP c.F E s (a:Int)=m:=⟨_,rfl⟩
  have t0:=Ma (F:=c.F) s0 s1 sE (a:Int)
  rw [hm0] at M0 t0
  have M1:=EG mk xd t u c E y s s0 s1 sE 1 hA1 (by omega) (by omega) (by omega) (by omega) (by omega)
  obtain ⟨m1,hm1⟩:∃ m,mvP c.F E s (b:Int)=m:=⟨_,rfl⟩
  have t1:=Ma (F:=c.F) s0 s1 sE (b:Int)
  rw [hm1] at M1 t1
  have C:=Ek m0.1 m0.2 m1.1 m1.2 t0.ok t1.ok t0.lz t1.lz
  rw [show Bu ps c.F c.R E y s=Md m0 m1 by unfold Bu;rw [if_neg (by omega),if_neg (by omega),if_neg (by omega),if_neg (by omega),if_pos (by omega),ha0,ha1,hm0,hm1]]
  repeat' (with_reducible first|refine GH ?_|refine Iu ?_|refine Hj ?_|refine Iw ?_|refine Lr ?_|(refine Tx 14 ?_;refine gO xEq <| gO xA ?_)|(refine Tx 15 ?_;refine gO xEq <| gO xA ?_)|(refine Tx 17 ?_;refine gO xEq <| gO xA ?_)|(refine Tx 19 ?_;refine gO xM <| gO (xCc func145 M0 (args:=[_]) rfl) <| gO xM <| gO (xCc func145 M1 (args:=[_]) rfl) <| gO (xCl func91 (C)) <| gZ (xSk Ab) ?_))
  exact DT
 ·
  obtain ⟨a,hA0,ha0,hl0⟩:=B.a0 (by omega)
  have hl0:=hl0 (by omega)
  have hL0:=(gS.1 hA0).1
  obtain ⟨b,hA1,ha1,hl1⟩:=B.a1 (by omega)
  have hL1:=(gS.1 hA1).1
  have M0:=EG mk xd t u c E y s s0 s1 sE 0 hA0 (by omega) (by omega) (by omega) (by omega) (by omega)
  obtain ⟨m0,hm0⟩:∃ m,mvP c.F E s (a:Int)=m:=⟨_,rfl⟩
  have t0:=Ma (F:=c.F) s0 s1 sE (a:Int)
  rw [hm0] at M0 t0
  have M1:=EG mk xd t u c E y s s0 s1 sE 1 hA1 (by omega) (by omega) (by omega) (by omega) (by omega)
  obtain ⟨m1,hm1⟩:∃ m,mvP c.F E s (b:Int)=m:=⟨_,rfl⟩
  have t1:=Ma (F:=c.F) s0 s1 sE (b:Int)
  rw [hm1] at M1 t1
  have C:=Ek m0.1 m0.2 m1.1 m1.2 t0.ok t1.ok t0.lz t1.lz
  rw [show Bu ps c.F c.R E y s=Md m0 m1 by unfold Bu;rw [if_neg (by omega),if_neg (by omega),if_neg (by omega),if_neg (by omega),if_pos (by omega),ha0,ha1,hm0,hm1]]
  repeat' (with_reducible first|refine GH ?_|refine Iu ?_|refine Hj ?_|refine Iw ?_|refine Lr ?_|(refine Tx 14 ?_;refine gO xEq <| gO xA ?_)|(refine Tx 15 ?_;refine gO xEq <| gO xA ?_)|(refine Tx 17 ?_;refine gO xEq <| gO xA ?_)|(refine Tx 18 ?_;refine gO xEq <| gO xA ?_)|(refine Tx 19 ?_;refine gO xM <| gO (xCc func145 M0 (args:=[_]) rfl) <| gO xM <| gO (xCc func145 M1 (args:=[_]) rfl) <| gO (xCl func91 (C)) <| gZ (xSk Ab) ?_))
  exact DT
 ·
  obtain ⟨a,hA0,ha0,hl0⟩:=B.a0 (by omega)
  have hl0:=hl0 (by omega)
  have hL0:=(gS.1 hA0).1
  have M0:=EG mk xd t u c E y s s0 s1 sE 0 hA0 (by omega) (by omega) (by omega) (by omega) (by omega)
  obtain ⟨m0,hm0⟩:∃ m,mvP c.F E s (a:Int)=m:=⟨_,rfl⟩
  have t0:=Ma (F:=c.F) s0 s1 sE (a:Int)
  rw [hm0] at M0 t0
  rw [show Bu ps c.F c.R E y s=m0 by unfold Bu;rw [if_neg (by omega),if_neg (by omega),if_neg (by omega),if_pos (by omega),ha0,hm0]]
  repeat' (with_reducible first|refine GH ?_|refine Iu ?_|refine Hj ?_|refine Iw ?_|refine Lr ?_|(refine Tx 14 ?_;refine gO xEq <| gO xA ?_)|(refine Tx 15 ?_;refine gO xEq <| gO xA ?_)|(refine Tx 16 ?_;refine gO xM <| gO (xCc func145 M0 (args:=[_]) rfl) <| gZ (xSk Ab) ?_))
  exact DT
 ·
  obtain ⟨a,hA0,ha0,hl0⟩:=B.a0 (by omega)
  have hl0:=hl0 (by omega)
  have hL0:=(gS.1 hA0).1
  have M0:=EG mk xd t u c E y s s0 s1 sE 0 hA0 (by omega) (by omega) (by omega) (by omega) (by omega)
  obtain ⟨m0,hm0⟩:∃ m,mvP c.F E s (a:Int)=m:=⟨_,rfl⟩
  have t0:=Ma (F:=c.F) s0 s1 sE (a:Int)
  rw [hm0] at M0 t0
  have WH:=La y.vn y.ve s (B.sv (by omega)) s0 s1
  have WU:=La y.un y.ue s (B.su h) s0 s1
  have ib:=UT (b:=(!Cs y.vn y.ve s || !Cs y.un y.ue s)) s0 s1
  have IX:=Oj (!Cs y.vn y.ve s || !Cs y.un y.ue s) s
  have C:=Ek m0.1 m0.2 (ixP (!Cs y.vn y.ve s || !Cs y.un y.ue s) s).1 (ixP (!Cs y.vn y.ve s || !Cs y.un y.ue s) s).2 t0.ok ib.ok t0.lz ib.lz
  rw [show Bu ps c.F c.R E y s=Md m0 (ixP (!Cs y.vn y.ve s || !Cs y.un y.ue s) s) by unfold Bu;rw [if_neg (by omega),if_neg (by omega),if_neg (by omega),if_neg (by omega),if_neg (by omega),if_neg (by omega),if_neg (by omega),if_pos h,ha0,hm0]]
  cases hw:Cs y.vn y.ve s
  case false =>
   rw [hw] at WH IX C
   simp only [fp,ee,ir,fj] at IX C
   simp only [fp,ee,ir,fj]
   repeat' (with_reducible first|refine GH ?_|refine Iu ?_|refine Hj ?_|refine Iw ?_|refine Lr ?_|(refine Tx 14 ?_;refine gO xEq <| gO xA ?_)|(refine Tx 15 ?_;refine gO xEq <| gO xA ?_)|(refine Tx 17 ?_;refine gO xEq <| gO xA ?_)|(refine Tx 18 ?_;refine gO xEq <| gO xA ?_)|(refine Tx 20 ?_;refine gO xEq <| gO xA ?_)|(refine Tx 22 ?_;refine gO xEq <| gO xA ?_)|(refine Tx 26 ?_;refine gO xEq <| gO xA ?_)|refine AkX ?_)
   exact DT
  case true =>
   rw [hw] at WH IX C
   simp only [fp,ee,ir,fj] at IX C
   simp only [fp,ee,ir,fj]
   repeat' (with_reducible first|refine GH ?_|refine Iu ?_|refine Hj ?_|refine Iw ?_|refine Lr ?_|(refine Tx 14 ?_;refine gO xEq <| gO xA ?_)|(refine Tx 15 ?_;refine gO xEq <| gO xA ?_)|(refine Tx 17 ?_;refine gO xEq <| gO xA ?_)|(refine Tx 18 ?_;refine gO xEq <| gO xA ?_)|(refine Tx 20 ?_;refine gO xEq <| gO xA ?_)|(refine Tx 22 ?_;refine gO xEq <| gO xA ?_)|(refine Tx 26 ?_;refine gO xEq <| gO xA ?_)|refine AkX ?_)
   exact DT
theorem vfit {M E:Pq} {f:Int}:Tl (GJ M E) f=decide (Cf (Ac (DV M.1 M.2 E.1 E.2).1 (DV M.1 M.2 E.1 E.2).2 f).1 (Ac (DV M.1 M.2 E.1 E.2).1 (DV M.1 M.2 E.1 E.2).2 f).2 2147483647 0≤0):=rfl
theorem AfU (x:Pq) (sx:Sm x 40064 40000):CV prog An 89 [aDy false x.1 x.2] [aDy false (upQ x).1 (upQ x).2]:=by
 refine cvz func89 ntmps89 ?_
 have CE:=WW x.1 x.2 62 sx.ok sx.lz (by decide)
 repeat' (with_reducible first|refine qq ?_|(refine Tx 0 ?_;refine gN xBo <| gN (xAl Ak) ?_)|(refine Tx 1 ?_;refine gO xL <| gO (xCl func169 (CE)) <| gO xMt <| gO (by exact Es rfl rfl rfl) <| gO xEx <| gN (xAl Ak) <| gZ (xSk Ab) <| gO xA ?_)|(refine Tx 2 ?_;refine gO xL <| gZ (xSk Ab) ?_))
 exact DT
theorem Tp (h:p:=by
 exact AN rfl (.cons_ (GI rfl (rfl)) .nil_)):p:=h
theorem AaE (x:Pq) (sx:Sm x 41000 40000):CV prog An 90 [aDy false x.1 x.2] [aB (Ahj x)]:=by
 refine cvz func90 ntmps90 ?_
 have OF:=Fg 1099511627776 (by decide) (by decide)
 have CM:=Ck x.1 x.2 1099511627776 0 sx.ok ⟨by decide,fun h=>absurd rfl h⟩ sx.lz (lT (AC (k:=2) (by decide)) (by decide))
 rw [show Ahj x=decide (0<Cf x.1 x.2 1099511627776 0) from rfl]
 generalize Cf x.1 x.2 1099511627776 0=q at *
 repeat' (with_reducible first|refine qq ?_|(refine Tx 0 ?_;refine gN xBo <| gO xA ?_)|(refine BB (id:=1) AJ (by kernel_rfl) ?_;refine gP xL <| gP (xCl func123 (OF)) <| gP (xCl func9 (CM)) <| gP (by first|exact Akj rfl rfl rfl|exact xGt) <| gP xA ?_;refine Ke ?_))
 exact Tp
theorem AfV (k:p') (h:Hd9 p'→p:=by with_reducible first|(intro Z9;refine qq ?_;exact Z9.o)|(intro Z9;refine Tx 0 ?_;refine gN xBo <| gN xBo <| gO xA ?_;exact Z9.o)|(intro Z9;refine Tx 1 ?_;refine gO (xCl func123 (OF)) <| gN (xAl Ak) <| gZ (xSk Ab) ?_;exact Z9.o)|fail):p:=h ⟨k⟩
theorem AkY (k:p') (h:Hd9 p'→p:=by with_reducible first|(intro Z9;refine Tx 2 ?_;refine gO xF <| gO xD <| gO xM <| gO (by first|exact xIr Aa (AF hFi)|exact xIr Aa (hIi)|exact xIr Aa (hEi)) <| gO xD <| gO xA ?_;exact Z9.o)|(intro Z9;refine BB (id:=3) AJ (by kernel_rfl) ?_;refine gP xF <| gP xD <| gP xM <| gP (by first|exact xIr Ah (hIi)|exact xIr Ah (hEi)) <| gP xL <| gP (xCl func151 (MG)) <| gP xM <| gP xM <| gP (by first|exact xIr Af (hIi)|exact xIr Af (hEi)) <| gP xL <| gP (xCl func146 (AD1)) <| gP xM <| gP (xCl func27 (SH1)) <| gP xL <| gP (xCl func9 (CM1)) <| gP xGt ?_;refine Ke ?_;exact Z9.o)|fail):p:=h ⟨k⟩
theorem AsP (h:p:=by first|exact xIr Ah (hIi)|exact xIr Ah (hEi)|exact xIr Ah (hIa)|exact xIr Ah (hEa)):p:=h
theorem AsQ (h:p:=by first|exact xIr Af (hIi)|exact xIr Af (hEi)|exact xIr Af (hIa)|exact xIr Af (hEa)):p:=h
theorem AsR (h:p:=by first|exact xCl func146 (AD1)|exact xCl func146 (AD2)):p:=h
theorem AsS (h:p:=by first|exact xCl func27 (SH1)|exact xCl func27 (SH2)):p:=h
theorem AsT (h:p:=by first|exact xCl func9 (CM1)|exact xCl func9 (CM2)):p:=h
theorem AfW (t u:Bool) {ps:List Prt} {bs:List Bk} (os:List Int) (c:Ct) (E:List Pq) (hE:E.length=bs.length) (sE:∀ p∈E,Sm p LB LB) (i:Nat) {y:Bk} (hy:bs[i]?=some y) (B:AaC ps bs.length y) (hF:c.F.length=bs.length) (hR:c.R.length=bs.length) (sR:∀ p∈c.R,IwS p LB LB) (hn:bs.length≤1000000) (hs2:0≤scA c.F i∧scA c.F i≤30):CV prog An 63 [aDg t ps bs os,.agg (dCt u c),.one (rowE E),aI (i:Int)] [aB (AkV c.F c.R E y i)]:=by
 refine cvz func63 ntmps63 ?_
 have hil:=(gS.1 hy).1
 have hFi:=YX (F:=c.F) (k:=i) (by omega)
 obtain ⟨s,hs⟩:∃ s,scA c.F i=s:=⟨_,rfl⟩
 rw [hs] at hFi
 have hBl:=B.len
 rw [hs] at hs2
 have hil2:i<c.R.length:=by omega
 have hIi:=AoJ hil2
 have hEi:=AoI (E:=E) (k:=i) (by omega)
 have si:=BP sR i
 have se:=Ec sE i
 obtain ⟨P,hP⟩:∃ P,c.R[i]?.getD iZ=P:=⟨_,rfl⟩
 obtain ⟨e,he⟩:∃ e,E[i]?.getD (0,0)=e:=⟨_,rfl⟩
 rw [hP] at si hIi
 rw [he] at se hEi
 have MG:=MP P (si.more LBx LBx)
 have sg:=Tm si
 obtain ⟨M,hM⟩:∃ M,Lo P=M:=⟨_,rfl⟩
 rw [hM] at MG sg
 have OF:=Fg 2147483647 (by decide) (by decide)
 have AD1:=CY M.1 M.2 e.1 e.2 sg.ok se.ok sg.lz se.lz
 have ss1:=Sm.sum sg se (by decide)
 obtain ⟨S1,hS1⟩:∃ S,DV M.1 M.2 e.1 e.2=S:=⟨_,rfl⟩
 rw [hS1] at AD1 ss1
 have SH1:=Bj S1.1 S1.2 s ss1.ok ss1.lz (by have:=ss1.ok.1;omega)
 have st1:=MR ss1 hs2.1 hs2.2
 obtain ⟨T1,hT1⟩:∃ T,Ac S1.1 S1.2 s=T:=⟨_,rfl⟩
 rw [show MJ S1 s=T1 from hT1] at st1
 rw [hT1] at SH1
 have CM1:=Ck T1.1 T1.2 2147483647 0 st1.ok ⟨by decide,fun h=>absurd rfl h⟩ st1.lz (lT (AC (k:=2) (by decide)) (by decide))
 have sb1:Tl (GJ M e) s=decide (Cf T1.1 T1.2 2147483647 0≤0):=by rw [vfit,hS1,hT1]
 generalize Cf T1.1 T1.2 2147483647 0=q1 at *
 have hb:AkV c.F c.R E y i=(decide (q1≤0) && (!decide (y.kind=11) || Tl (GJ (rG c.R (BJ y)).2 (eG E (BJ y))) s)):=by unfold AkV;rw [hs,hP,he,hM,sb1]
 rw [hb]
 by_cases c1:q1≤0
 case neg =>
  rw [decide_eq_false c1,im]
  repeat' (with_reducible first|refine AfV ?_|refine AkY ?_|(refine Tx 4 ?_;refine gO xA ?_))
  exact Tp
 rw [decide_eq_true c1,eg]
 by_cases k11:y.kind=11
 case neg =>
  rw [decide_eq_false k11,fp,ir]
  repeat' (with_reducible first|refine AfV ?_|refine AkY ?_|(refine Tx 5 ?_;refine gO xF <| gO xD <| gO xM <| gO (by first|exact xIr Ap (Gc hy)|exact xIr Ap (hIi)|exact xIr Ap (hEi)) <| gO xL <| gN (xAl Cw) <| gZ (xSk BZ) ?_)|(refine Tx 6 ?_;refine gO xF <| gO xD <| gO xNe ?_)|(refine Tx 7 ?_;refine gO xA ?_))
  exact Tp
 rw [decide_eq_true k11,ee,fj]
 obtain ⟨a,hA0,ha0,hl0⟩:=B.a0 (by omega)
 have hl0:=hl0 (by omega)
 have hL0:=(gS.1 hA0).1
 rw [ha0,AaD,Tn]
 have hIa:=AoJ (R:=c.R) (k:=a) (by omega)
 have hEa:=AoI (E:=E) (k:=a) (by omega)
 have sj:=BP sR a
 have sf:=Ec sE a
 obtain ⟨Q,hQ⟩:∃ Q,c.R[a]?.getD iZ=Q:=⟨_,rfl⟩
 obtain ⟨f,hf⟩:∃ f,E[a]?.getD (0,0)=f:=⟨_,rfl⟩
 rw [hQ] at sj hIa
 rw [hf] at sf hEa
 rw [hQ,hf]
 have sq:=sj.s2
 have AD2:=CY Q.2.1 Q.2.2 f.1 f.2 sq.ok sf.ok sq.lz sf.lz
 have ss2:=Sm.sum sq sf (by decide)
 obtain ⟨S2,hS2⟩:∃ S,DV Q.2.1 Q.2.2 f.1 f.2=S:=⟨_,rfl⟩
 rw [hS2] at AD2 ss2
 have SH2:=Bj S2.1 S2.2 s ss2.ok ss2.lz (by have:=ss2.ok.1;omega)
 have st2:=MR ss2 hs2.1 hs2.2
 obtain ⟨T2,hT2⟩:∃ T,Ac S2.1 S2.2 s=T:=⟨_,rfl⟩
 rw [show MJ S2 s=T2 from hT2] at st2
 rw [hT2] at SH2
 have CM2:=Ck T2.1 T2.2 2147483647 0 st2.ok ⟨by decide,fun h=>absurd rfl h⟩ st2.lz (lT (AC (k:=2) (by decide)) (by decide))
 have sb2:Tl (GJ Q.2 f) s=decide (Cf T2.1 T2.2 2147483647 0≤0):=by rw [vfit,hS2,hT2]
 generalize Cf T2.1 T2.2 2147483647 0=q2 at *
 rw [sb2]
 repeat' (with_reducible first|refine AfV ?_|(refine Tx 2 ?_;refine gO xF <| gO xD <| gO xM <| gO (by first|exact xIr Aa (AF hFi)|exact xIr Aa (hIi)|exact xIr Aa (hEi)|exact xIr Aa (hIa)|exact xIr Aa (hEa)) <| gO xD <| gO xA ?_)|(refine BB (id:=3) AJ (by kernel_rfl) ?_;refine gP xF <| gP xD <| gP xM <| gP AsP <| gP xL <| gP (xCl func151 (MG)) <| gP xM <| gP xM <| gP AsQ <| gP xL <| gP AsR <| gP xM <| gP AsS <| gP xL <| gP AsT <| gP xGt ?_;refine Ke ?_)|(refine Tx 5 ?_;refine gO xF <| gO xD <| gO xM <| gO (by first|exact xIr Ap (Gc hy)|exact xIr Ap (hIi)|exact xIr Ap (hEi)|exact xIr Ap (hIa)|exact xIr Ap (hEa)) <| gO xL <| gN (xAl Cw) <| gZ (xSk BZ) ?_)|(refine Tx 6 ?_;refine gO xF <| gO xD <| gO xNe ?_)|(refine Tx 8 ?_;refine gO xF <| gO xD <| gO (by first|exact xIr Aa (hIi)|exact xIr Aa (hEi)|exact xIr Aa (AF hA0)|exact xIr Aa (hIa)|exact xIr Aa (hEa)) <| gO xD <| gO xA ?_)|(refine BB (id:=9) AJ (by kernel_rfl) ?_;refine gP xF <| gP xD <| gP xM <| gP AsP <| gP xF <| gP xL <| gP xM <| gP xM <| gP AsQ <| gP xL <| gP AsR <| gP xM <| gP AsS <| gP xL <| gP AsT <| gP xLe <| gP xA ?_;refine Ke ?_))
 exact Tp
theorem Xm (k:p') (h:Hd9 p'→p:=by with_reducible first|(intro Z9;refine qq ?_;exact Z9.o)|(intro Z9;refine Tx 0 ?_;refine gN xBo <| gN xBo <| gO xA ?_;exact Z9.o)|(intro Z9;refine Tx 1 ?_;refine gO xL <| gO xL <| gO xM <| gO (xCl func60 (S1)) <| gO Fy <| gO xA ?_;exact Z9.o)|fail):p:=h ⟨k⟩
theorem AaF (k:p') (h:Hd9 p'→p:=by with_reducible first|(intro Z9;refine Tx 3 ?_;refine gO xL <| gO xL <| gO xM <| gO (xCl func61 (S2)) <| gO Fy <| gO xA ?_;exact Z9.o)|fail):p:=h ⟨k⟩
theorem AfX (k:p') (h:Hd9 p'→p:=by with_reducible first|(intro Z9;refine BB (id:=5) AJ (by kernel_rfl) ?_;refine gP xF <| gP xD <| gP xM <| gP (xIr Af (hEi)) <| gP xL <| gP xL <| gP xL <| gP xF <| gP xD <| gP xM <| gP (xCl func62 (BD)) <| gP (xCl func9 (CM)) <| gP xLt <| gP xA ?_;refine Ke ?_;exact Z9.o)|fail):p:=h ⟨k⟩
theorem Xn (h:p:=by
 exact AN rfl (.cons_ (AhG rfl rfl) .nil_)):p:=h
theorem Acj (t u:Bool) {ps:List Prt} {bs:List Bk} (os:List Int) (c:Ct) (i:Nat) {y:Bk} (hy:bs[i]?=some y) (B:AaC ps bs.length y) (ok:Aji bs c) (hn:bs.length≤1000000) (hpn:ps.length≤1000000):CV prog An 21 [aDg t ps bs os,.agg (dCt u c),aI (i:Int)] [aI (LZ ps bs c i)]:=by
 refine cvz func21 ntmps21 ?_
 have hA:=Gf hy
 have hil:=(gS.1 hy).1
 have S1:=YY t u os c i hy B ok.lF hn hpn
 have S2:=YZ t u os c i hy B ok.lR ok.sR hn hpn
 unfold LZ
 rw [hA]
 dsimp only
 cases h1:Ex ps c.F y i
 case false =>
  rw [h1] at S1
  rw [if_pos rfl]
  repeat' (with_reducible first|refine Xm ?_|(refine Tx 2 ?_;refine gO xA ?_))
  exact Xn
 rw [h1] at S1
 rw [if_neg (by decide)]
 have h1s:=h1
 unfold Ex at h1s
 rw [aj,aj] at h1s
 have hs2:0≤scA c.F i∧scA c.F i≤30:=of_decide_eq_true h1s.1
 have hsa:y.kind≠0→∀ a∈y.args,0≤sG c.F a∧sG c.F a≤30:=fun k0 a ha=>by
   have h2:=h1s.2.1
   rw [decide_eq_false k0,fj] at h2
   exact of_decide_eq_true (List.all_eq_true.1 h2 a ha)
 cases h2:Di ps c.R y i
 case false =>
  rw [h2] at S2
  rw [if_pos rfl]
  repeat' (with_reducible first|refine Xm ?_|refine AaF ?_|(refine Tx 4 ?_;refine gO xA ?_))
  exact Xn
 rw [h2] at S2
 rw [if_neg (by decide)]
 have BD:=Ok false (rowE c.E) t u os c c.E ok.lE ok.sE i hy B ok.lF ok.lR ok.sR hn hpn hs2 hsa
 have sb:=AaB (ps:=ps) (F:=c.F) (y:=y) hs2.1 hs2.2 ok.sR ok.sE (fun h6=>B.sv (by omega))
 have se:=Ec ok.sE i
 have hEi:=AoI (E:=c.E) (k:=i) (by have:=ok.lE;omega)
 have hlE:=ok.lE
 obtain ⟨e,he⟩:∃ e,c.E[i]?.getD (0,0)=e:=⟨_,rfl⟩
 rw [he] at se hEi
 rw [he]
 generalize Bu ps c.F c.R c.E y (scA c.F i)=b at *
 have CM:=Ck e.1 e.2 b.1 b.2 se.ok sb.ok se.lz sb.lz
 rw [show Oz e b=Cf e.1 e.2 b.1 b.2 from rfl]
 generalize Cf e.1 e.2 b.1 b.2=q at *
 have FT:=AfW t u os c c.E ok.lE ok.sE i hy B ok.lF ok.lR ok.sR hn hs2
 by_cases h3:q<0
 case pos =>
  rw [if_pos h3]
  repeat' (with_reducible first|refine Xm ?_|refine AaF ?_|refine AfX ?_|(refine Tx 6 ?_;refine gO xA ?_))
  exact Xn
 rw [if_neg h3]
 cases h4:AkV c.F c.R c.E y i
 case false =>
  rw [h4] at FT
  rw [if_pos rfl]
  repeat' (with_reducible first|refine Xm ?_|refine AaF ?_|refine AfX ?_|(refine Tx 7 ?_;refine gO xL <| gO xL <| gO xF <| gO xD <| gO xM <| gO (xCl func63 (FT)) <| gO Fy <| gO xA ?_)|(refine Tx 8 ?_;refine gO xA ?_))
  exact Xn
 rw [h4] at FT
 rw [if_neg (by decide)]
 repeat' (with_reducible first|refine Xm ?_|refine AaF ?_|refine AfX ?_|(refine Tx 7 ?_;refine gO xL <| gO xL <| gO xF <| gO xD <| gO xM <| gO (xCl func63 (FT)) <| gO Fy <| gO xA ?_)|(refine Tx 9 ?_;refine gO xA ?_))
 exact Xn
section
variable {a b c e:Iq} {n d:Nat}
theorem Xo {x y:Int} (h:x*2 ^ GQ≤y*2 ^ GQ):x≤y:=Int.le_of_mul_le_mul_right h (Bv GQ)
end
theorem AsU {x:Pq} (hx:x.2≤GQ) (h:0≤gv x):0≤gv (upQ x):=Int.le_trans h (AsC hx).1
theorem AsV {b:Bool} {s:Int}:0≤gv (ixP b s):=by
 unfold ixP
 split
 ·rename_i h
  by_cases hs : -65536 ≤ -s ∧ -s≤65536
  ·rw [Rj hs.1 hs.2];exact ck (Bv _)
  ·unfold pw Ac
   unfold gv
   refine jd ?_ (ck (Bv _))
   have key:∀ (d:Nat) (m:Int),0≤m→0≤(nf m d).1:=fun d=>by
    induction d with
    | zero=>exact fun m h=>h
    | succ d ih =>
     intro m h
     unfold nf
     split
     ·exact ih _ (by omega)
     ·exact h
   split
   ·exact key _ _ (by decide)
   ·exact key _ _ (by have:=Bv (max (-65536) (min (-s) 65536)).toNat;omega)
 ·exact Int.le_of_eq LS.symm
section
variable {ps:List Prt} {bs:List Bk} {os:List Int} {F:List Int} {R:List Iq} {E E':List Pq} {y:Bk} {s:Int}
structure InE (E' E:List Pq):Prop where
 lo:∀ k:Nat,0≤gv (E'[k]?.getD (0,0))
 le:∀ k:Nat,gv (E'[k]?.getD (0,0))≤gv (E[k]?.getD (0,0))
theorem AoP (h0:0≤s) (h1:s≤30) (hE:∀ p∈E,Sm p LB LB) (hE':∀ p∈E',Sm p LB LB) (h:InE E' E) (a:Int):0≤gv (mvP F E' s a)∧gv (mvP F E' s a)≤gv (mvP F E s a):=by
 have l:=h.lo a.toNat
 have g:=h.le a.toNat
 unfold mvP
 split
 ·exact ⟨l,g⟩
 ·rw [show gv (GJ (eG E' a) (pw (-s)))=_ from Ik (Gh hE' a).le (YW h0 h1).le,show gv (GJ (eG E a) (pw (-s)))=_ from Ik (Gh hE a).le (YW h0 h1).le]
  have:=Avb h0 h1
  have:=Bv (65536 - s.toNat)
  unfold eG
  omega
theorem Mb {p q p' q':Pq} (h:p.2+q.2≤GQ) (h':p'.2+q'.2≤GQ) (p0:0≤gv p') (q0:0≤gv q') (hp:gv p'≤gv p) (hq:gv q'≤gv q):0≤gv (Dj p' q')∧gv (Dj p' q')≤gv (Dj p q):=by
 have e:=Aff h
 have e':=Aff h'
 have m1:gv p'*gv q'≤gv p*gv q:=Int.mul_le_mul hp hq q0 (Int.le_trans p0 hp)
 have m0:0≤gv p'*gv q':=jd p0 q0
 refine ⟨?_,Xo (by rw [show gv (Dj p' q')*2 ^ GQ=_ from e',show gv (Dj p q)*2 ^ GQ=_ from e];exact m1)⟩
 refine Xo ?_
 rw [Int.zero_mul,show gv (Dj p' q')*2 ^ GQ=_ from e']
 exact m0
theorem AoQ {a:Iq} {d:Nat} (h:IwS a n d):0≤gv (Lo a):=by
 unfold Lo
 rw [(AnW h).2]
 omega
theorem Ack (h0:0≤s) (h1:s≤30) (hR:∀ p∈R,IwS p LB LB) (hE:∀ p∈E,Sm p LB LB) (hE':∀ p∈E',Sm p LB LB) (hv:y.kind=6→DA y.vn y.ve) (h:InE E' E):0≤gv (Bu ps F R E' y s)∧gv (Bu ps F R E' y s)≤gv (Bu ps F R E y s):=by
 have mv:=fun a=>AoP (F:=F) h0 h1 hE hE' h a
 have sE:=fun a=>Ma (F:=F) h0 h1 hE a
 have sE':=fun a=>Ma (F:=F) h0 h1 hE' a
 have ix:∀ b,(ixP b s).2≤GQ:=fun b=>(UT h0 h1).le
 have ip:∀ b,0≤gv (ixP b s):=fun b=>AsV
 unfold Bu
 split
 ·exact ⟨ip _,dh _⟩
 split
 ·exact ⟨ip _,dh _⟩
 split
 ·rw [show gv (GJ (mvP F E' s (BJ y)) (mvP F E' s (DS y)))=_ from Ik (sE' _).le (sE' _).le,show gv (GJ (mvP F E s (BJ y)) (mvP F E s (DS y)))=_ from Ik (sE _).le (sE _).le]
  have:=mv (BJ y);have:=mv (DS y)
  omega
 split
 ·exact mv _
 split
 ·rw [show gv (Md (mvP F E' s (BJ y)) (mvP F E' s (DS y)))=_ from Hg (sE' _).le (sE' _).le,show gv (Md (mvP F E s (BJ y)) (mvP F E s (DS y)))=_ from Hg (sE _).le (sE _).le]
  have:=mv (BJ y);have:=mv (DS y)
  omega
 split
 ·next h6 =>
  have sv:=(Ho (hv h6)).abs
  have m:=Mb (p:=Nc (Ac y.vn 0 y.ve)) (p':=Nc (Ac y.vn 0 y.ve)) (q:=eG E (BJ y)) (q':=eG E' (BJ y)) (lT (fa sv.d (Gh hE _).d) (by decide)) (lT (fa sv.d (Gh hE' _).d) (by decide)) (by rw [WJ];omega) (h.lo _) (dh _) (h.le _)
  have q1:(Dj (Nc (Ac y.vn 0 y.ve)) (eG E (BJ y))).2≤GQ:=(Sm.mul sv (Gh hE _) (by decide)).le
  have q2:(Dj (Nc (Ac y.vn 0 y.ve)) (eG E' (BJ y))).2≤GQ:=(Sm.mul sv (Gh hE' _) (by decide)).le
  rw [show gv (GJ (Dj (Nc (Ac y.vn 0 y.ve)) (eG E' (BJ y))) _)=_ from Ik q2 (ix _),show gv (GJ (Dj (Nc (Ac y.vn 0 y.ve)) (eG E (BJ y))) _)=_ from Ik q1 (ix _)]
  have:=ip (decide (s - sG F (BJ y)+y.ve<0))
  omega
 split
 ·have sM:=fun a=>Tm (AoC hR a)
  have pM:=fun a=>AoQ (AoC hR a)
  have m1:∀ a b,0≤gv (Dj (Lo (rG R a)) (eG E' b))∧gv (Dj (Lo (rG R a)) (eG E' b))≤gv (Dj (Lo (rG R a)) (eG E b)):=fun a b=>Mb (lT (fa (sM a).d (Gh hE b).d) (by decide)) (lT (fa (sM a).d (Gh hE' b).d) (by decide)) (pM a) (h.lo _) (dh _) (h.le _)
  have m2:∀ a b,0≤gv (Dj (eG E' a) (eG E' b))∧gv (Dj (eG E' a) (eG E' b))≤gv (Dj (eG E a) (eG E b)):=fun a b=>Mb (lT (fa (Gh hE a).d (Gh hE b).d) (by decide)) (lT (fa (Gh hE' a).d (Gh hE' b).d) (by decide)) (h.lo _) (h.lo _) (h.le _) (h.le _)
  have key:∀ E0:List Pq,(∀ p∈E0,Sm p LB LB)→gv (GJ (GJ (GJ (Dj (Lo (rG R (BJ y))) (eG E0 (DS y))) (Dj (Lo (rG R (DS y))) (eG E0 (BJ y)))) (Dj (eG E0 (BJ y)) (eG E0 (DS y)))) (ixP (decide (s - sG F (BJ y) - sG F (DS y)<0)) s))=gv (Dj (Lo (rG R (BJ y))) (eG E0 (DS y)))+gv (Dj (Lo (rG R (DS y))) (eG E0 (BJ y)))+gv (Dj (eG E0 (BJ y)) (eG E0 (DS y)))+gv (ixP (decide (s - sG F (BJ y) - sG F (DS y)<0)) s):=fun E0 h0=>by
   have a1:∀ a b,Sm (Dj (Lo (rG R a)) (eG E0 b)) 8192 8192:=fun a b=>Sm.mul (sM a) (Gh h0 b) (by decide)
   have a2:∀ a b,Sm (Dj (eG E0 a) (eG E0 b)) 8192 8192:=fun a b=>Sm.mul (Gh h0 a) (Gh h0 b) (by decide)
   have s1:=Sm.sum (a1 (BJ y) (DS y)) (a1 (DS y) (BJ y)) (by decide)
   have s2:=Sm.sum s1 ((a2 (BJ y) (DS y)).more (n':=16385) (d':=8192) (by decide) (by decide)) (by decide)
   rw [show gv (GJ (GJ (GJ (Dj (Lo (rG R (BJ y))) (eG E0 (DS y))) (Dj (Lo (rG R (DS y))) (eG E0 (BJ y)))) (Dj (eG E0 (BJ y)) (eG E0 (DS y)))) _)=_ from Ik s2.le (ix _),show gv (GJ (GJ (Dj (Lo (rG R (BJ y))) (eG E0 (DS y))) (Dj (Lo (rG R (DS y))) (eG E0 (BJ y)))) (Dj (eG E0 (BJ y)) (eG E0 (DS y))))=_ from Ik s1.le (a2 _ _).le,show gv (GJ (Dj (Lo (rG R (BJ y))) (eG E0 (DS y))) (Dj (Lo (rG R (DS y))) (eG E0 (BJ y))))=_ from Ik (a1 _ _).le (a1 _ _).le]
  rw [key E hE,key E' hE']
  have:=m1 (BJ y) (DS y);have:=m1 (DS y) (BJ y);have:=m2 (BJ y) (DS y);have:=ip (decide (s - sG F (BJ y) - sG F (DS y)<0))
  omega
 have mx:∀ b,gv (Md (mvP F E' s (BJ y)) (ixP b s))=max (gv (mvP F E' s (BJ y))) (gv (ixP b s))∧gv (Md (mvP F E s (BJ y)) (ixP b s))=max (gv (mvP F E s (BJ y))) (gv (ixP b s)):=fun b=>⟨Hg (sE' _).le (ix _),Hg (sE _).le (ix _)⟩
 split
 ·rw [(mx _).1,(mx _).2]
  have:=mv (BJ y);have:=ip (!Cs y.vn y.ve s || !Cs y.un y.ue s)
  omega
 ·rw [(mx _).1,(mx _).2]
  have:=mv (BJ y);have:=ip (!Cs y.vn y.ve s)
  omega
end
section
variable {ps:List Prt} {bs:List Bk} {os:List Int} {c:Ct}
theorem AoR (h:∀ p∈E,Sm p 128 62):∀ p∈E,Sm p LB LB:=fun p hp=>(h p hp).more (by decide) (by decide)
end
theorem Hc:∀ {l:List Int},(∀ x∈l,x=0)→Ai l=0
 | [],_=>rfl
 | x::l,h=>by
  unfold Ai
  rw [if_pos (h x (gp ..))]
  exact Hc fun y hy=>h y (gq _ hy)
section
variable {P:Program} {F:Frm} {H:List Ob}
theorem Avc {t:Tmp} {ty' k:Nat} {x y:Int} (hk:TyK P ty true k) (hi:2=k:=by rfl) (hF:F t=.one (.ref id 0 none):=by with_unfolding_all exact rfl) (hH:H[id]?=some (.box ty' [.d (.val (.int .i64 x)),.d (.val (.int .i64 y))]):=by with_unfolding_all exact rfl):RV P F H (.cell t ty) (.agg [dI x,dI y]):=by
 obtain ⟨⟨dd,hu,hd⟩,hz⟩:=hk
 exact .cellA hF hH hu hd (by rw [hz,←hi];rfl) (.cons_ (.d fun _=>.val _) (.cons_ (.d fun _=>.val _) .nil_))
end
def dCr (u:Bool) (F:List Int) (qs:List (Rv × Rv)) (rs:List Rv):List D:=[AM u F,AcQ qs,AcP rs]
def PL (q:Rv × Rv) (r:Rv):Int:=if ivC q=false∨vdB r.rw=false∨sgI (rvP r).1<0 then 2 else if Cp (rvP r)=true∨Cp (rvP q.1)=true∨Cp (rvP q.2)=true then 4 else 0
def ckL (qs:List (Rv × Rv)) (rs:List Rv):Int:=Ai (List.zipWith PL qs rs)
def ckE (ps:List Prt) (bs:List Bk) (os:List Int) (F:List Int) (qs:List (Rv × Rv)) (rs:List Rv):Int :=
 if Av ps bs os≠0 then Av ps bs os else if F.length=bs.length∧qs.length=bs.length∧rs.length=bs.length then ckL qs rs else 11
def AcR (F:List Int) (qs:List (Rv × Rv)) (rs:List Rv):Ct:=⟨F,qs.map ivQ,rs.map rvP⟩
theorem AfY {k:Nat} {q:Rv × Rv} (h1:qs[k]?=some q) (h2:rs[k]?=some r):(List.zipWith PL qs rs)[k]?=some (PL q r):=by rw [List.getElem?_zipWith,h1,h2]
theorem AsW {k:Nat} {q:Rv × Rv} (h:∀ j x,j<k→(List.zipWith PL qs rs)[j]?=some x→x=0) (h1:qs[k]?=some q) (h2:rs[k]?=some r) (h0:PL q r≠0):ckL qs rs=PL q r:=QR h (AfY h1 h2) h0
theorem AfZ (hr:RvB r) (hv:vdB r.rw=true):dRv false r=dyP (rvP r)∧Nf (rvP r).1 (rvP r).2∧(Ad (rvP r).1.natAbs).length≤35184372087808:=by
 obtain ⟨a,b,c⟩:=Yx (t:=false) hr.1 hv
 exact ⟨a,b,by rw [show (rvP r).1=r.rw.x from rfl,c];exact hr.2⟩
theorem AkZ {os:List Int} (hq:∀ q∈qs,RvB q.1∧RvB q.2) (hr:∀ r∈rs,RvB r) (h:ckE ps bs os F qs rs=0):Av ps bs os=0∧Aji bs (AcR F qs rs)∧dCr false F qs rs=dCt false (AcR F qs rs)∧(∀ q∈qs,ivC q=true)∧(∀ r∈rs,vdB r.rw=true):=by
 unfold ckE at h
 by_cases h0:Av ps bs os=0
 case neg=>rw [if_pos h0] at h;exact absurd h h0
 rw [if_neg (not_not_intro h0)] at h
 by_cases hl:F.length=bs.length∧qs.length=bs.length∧rs.length=bs.length
 case neg=>rw [if_neg hl] at h;cases h
 rw [if_pos hl] at h
 obtain ⟨l1,l2,l3⟩:=hl
 have hz:=BH h
 have key:∀ (k:Nat) (q:Rv × Rv) (r:Rv),qs[k]?=some q→rs[k]?=some r→ivC q=true∧vdB r.rw=true∧0≤sgI (rvP r).1∧Cp (rvP r)=false∧Cp (rvP q.1)=false∧Cp (rvP q.2)=false:=fun k q r h1 h2=>by
  have h3:=hz _ (gM (AfY h1 h2))
  unfold PL at h3
  by_cases c1:ivC q=false∨vdB r.rw=false∨sgI (rvP r).1<0
  ·rw [if_pos c1] at h3;cases h3
  rw [if_neg c1] at h3
  by_cases c2:Cp (rvP r)=true∨Cp (rvP q.1)=true∨Cp (rvP q.2)=true
  ·rw [if_pos c2] at h3;cases h3
  simp only [not_or,jm,ci,Int.not_lt] at c1 c2
  exact ⟨c1.1,c1.2.1,c1.2.2,c2.1,c2.2.1,c2.2.2⟩
 have kq:∀ q∈qs,∃r,r∈rs∧ivC q=true∧Cp (rvP q.1)=false∧Cp (rvP q.2)=false:=fun q hm=>by
  obtain ⟨k,hk⟩:=dq hm
  obtain ⟨r,hr⟩:∃ r,rs[k]?=some r:=⟨_,gE (by have:=(gS.1 hk).1;omega)⟩
  have:=key k q r hk hr
  exact ⟨r,gM hr,this.1,this.2.2.2.2.1,this.2.2.2.2.2⟩
 have kr:∀ r∈rs,vdB r.rw=true∧0≤sgI (rvP r).1∧Cp (rvP r)=false:=fun r hm=>by
  obtain ⟨k,hk⟩:=dq hm
  obtain ⟨q,hq⟩:∃ q,qs[k]?=some q:=⟨_,gE (by have:=(gS.1 hk).1;omega)⟩
  have:=key k q r hq hk
  exact ⟨this.2.1,this.2.2.1,this.2.2.2.1⟩
 refine ⟨h0,⟨l1,by show (qs.map ivQ).length=_;rw [ad];exact l2,by show (rs.map rvP).length=_;rw [ad];exact l3,fun p hp=>?_,fun p hp=>?_,fun p hp=>?_⟩,?_,fun q hm=>(kq q hm).choose_spec.2.1,fun r hm=>(kr r hm).1⟩
 ·obtain ⟨q,hm,rfl⟩:=List.mem_map.1 hp
  obtain ⟨_,_,v,g1,g2⟩:=kq q hm
  exact Tg (YO (hq q hm).1 (hq q hm).2 v).1.choose_spec (by unfold Hn;rw [show Cp (ivQ q).1=false from g1,show Cp (ivQ q).2=false from g2];rfl)
 ·obtain ⟨r,hm,rfl⟩:=List.mem_map.1 hp
  obtain ⟨v,_,g⟩:=kr r hm
  exact AbN (AfZ (hr r hm) v).2.1 g
 ·obtain ⟨r,hm,rfl⟩:=List.mem_map.1 hp
  obtain ⟨_,g,_⟩:=kr r hm
  have hx:0≤(rvP r).1:=bz fun hn=>by rw [show sgI (rvP r).1 = -1 by unfold sgI;(repeat' split) <;> omega] at g;omega
  exact jd hx (ck (Bv _))
 ·unfold dCr dCt AcR AcQ AcP
  have e1:Ar (dIr false) qs=Ar (dIw false) (qs.map ivQ):=by
   unfold Ar
   rw [bw]
   congr 1
   exact cw fun q hm=>by
    obtain ⟨_,_,v,_⟩:=kq q hm
    exact (YO (hq q hm).1 (hq q hm).2 v).2.1
  have e2:Ar (dRv false) rs=Ar dyP (rs.map rvP):=by
   unfold Ar
   rw [bw]
   congr 1
   exact cw fun r hm=>(AfZ (hr r hm) (kr r hm).1).1
  rw [e1,e2]
  simp only [ad]
def vfK (ps:List Prt) (bs:List Bk) (c:Ct):Option Nat:=(List.range bs.length).find? fun i=>decide (LZ ps bs c i≠0)
def vfF (ps:List Prt) (bs:List Bk) (c:Ct):Int × Int:=match vfK ps bs c with
 | none=>(0,0)
 | some i=>(LZ ps bs c i,(i:Int))
theorem Za {c:Ct}:vfK ps bs c=none ↔ ∀ i,i<bs.length→LZ ps bs c i=0:=by
 unfold vfK
 rw [List.find?_eq_none]
 simp
theorem AoS {c:Ct} {k:Nat} (hk:k<bs.length) (h:∀ i,i<k→LZ ps bs c i=0) (h0:LZ ps bs c k≠0):vfK ps bs c=some k:=by
 unfold vfK
 rw [List.find?_range_eq_some]
 exact ⟨by simpa using h0,List.mem_range.2 hk,fun j hj=>by simp [h j hj]⟩
def vfE (ps:List Prt) (bs:List Bk) (os F:List Int) (qs:List (Rv × Rv)) (rs:List Rv):Bool:=decide (ckE ps bs os F qs rs=0) && (vfK ps bs (AcR F qs rs)).isNone
def vfP (ps:List Prt) (bs:List Bk) (os F:List Int) (qs:List (Rv × Rv)) (rs:List Rv):Int × Int:=if ckE ps bs os F qs rs=0 then vfF ps bs (AcR F qs rs) else (0,0)
theorem Ro (x:Pq) (n1:Nf x.1 x.2) (l1:(Ad x.1.natAbs).length≤35184372087808):CV prog An 59 [aDy false x.1 x.2] [aB (Cp x)]:=by
 refine cvz func59 ntmps59 ?_
 have B1:=IR x.1 x.2 n1 l1
 have hm:decide ((4096:Int)<max ((Bl x.1.natAbs:Nat):Int) (x.2:Int))=Cp x:=by unfold Cp AnI;rw [Bool.eq_iff_iff,decide_eq_true_eq,decide_eq_true_eq];omega
 repeat' (with_reducible first|refine qq ?_|(refine Tx 0 ?_;refine gN xBo <| gO xA ?_)|(refine BB (id:=1) AJ (by kernel_rfl) ?_;refine gP xL <| gP (xCl func126 (B1)) <| gP xF <| gP xD <| gP (by exact FZ rfl rfl rfl) <| gP (by first|exact TM rfl rfl rfl hm|exact xGt) <| gP xA ?_;refine Ke ?_))
 exact Tp
theorem Xp (k:p') (h:Hd9 p'→p:=by with_reducible first|(intro Z9;refine Tx 0 ?_;refine gN xBo <| gN xBo <| gO xA ?_;exact Z9.o)|(intro Z9;refine Tx 1 ?_;refine gO xL <| gO (xCl func22 (CK)) <| gO xA ?_;exact Z9.o)|fail):p:=h ⟨k⟩
theorem AaG (k:p') (h:Hd9 p'→p:=by with_reducible first|(intro Z9;refine Tx 2 ?_;refine gO xM <| gO (xNE Ag) ?_;exact Z9.o)|(intro Z9;refine Tx 4 ?_;refine gO xF <| gO xD <| gO xN <| gO xA ?_;exact Z9.o)|(intro Z9;refine Tx 5 ?_;refine gO xF <| gO xD <| gO xN <| gO xM <| gO xNe <| gO xM ?_;(first|iterate 5 refine Jd ?_|(refine Jy (xFa Ph Bh) ?_;refine Jy (xLd Bh) ?_;refine Jy (xLn Ah) ?_;refine Jy xM1 ?_;refine Jy xNe ?_));refine gO xPk <| gO xM ?_;(first|iterate 5 refine Jd ?_|(refine Jy (xFa Ej Ao) ?_;refine Jy (xLd Ao) ?_;refine Jy (xLn Af) ?_;refine Jy xM1 ?_;refine Jy xNe ?_));refine gO xPk ?_;exact Z9.o)|fail):p:=h ⟨k⟩
theorem AsX (h:p:=by first|exact xIr Af (Xe hq)|exact xIr Af (YF hr)):p:=h
theorem Ala (k:p') (h:Hd9 p'→p:=by with_reducible first|(intro Z9;refine Tx 9 ?_;refine gO xM <| gO (by first|exact xIr Ah (Xe hq)|exact xIr Ah (YF hr)) <| gO xL <| gN (xAl Am) <| gO xA <| gZ (xSk Ae) ?_;exact Z9.o)|(intro Z9;refine Tx 10 ?_;refine gO xL <| gO (xCl func57 (VI)) <| gO Fy <| gO xM ?_;(first|iterate 7 refine Jd ?_|(refine Jy (xFa Ej Ao) ?_;refine Jy (xLd Ao) ?_;refine Jy xM1 ?_;refine Jy AsX ?_;refine Jy (xLa Ab) ?_;refine Jy (xCl func58 (VD)) ?_;refine Jy Fy ?_));refine gO xPk <| gO xM ?_;(first|iterate 5 refine Jd ?_|(refine Jy (xFa Ej Ao) ?_;refine Jy (xLd Ao) ?_;refine Jy xM1 ?_;refine Jy AsX ?_;refine Jy (xLa Ab) ?_));refine Jd ?_;(first|refine Jd ?_|refine Jy xLt ?_);refine gO xPk ?_;exact Z9.o)|fail):p:=h ⟨k⟩
theorem AoT (h:p:=by first|exact xCl func59 (LR)|exact xCl func59 (L1)|exact xCl func59 (L2)):p:=h
theorem AoU (h:p:=by first|exact xIr Af (hia)|exact xIr Af (hra)):p:=h
theorem AaH (k:p') (h:Hd9 p'→p:=by with_reducible first|(intro Z9;refine Tx 9 ?_;refine gO xM <| gO (by first|exact xIr Ah (hia)|exact xIr Ah (hra)) <| gO xL <| gN (xAl Am) <| gO xA <| gZ (xSk Ae) ?_;exact Z9.o)|(intro Z9;refine Tx 10 ?_;refine gO xL <| gO (xCl func57 (VI2)) <| gO Fy <| gO xM ?_;(first|iterate 7 refine Jd ?_|(refine Jy (xFa Ej Ao) ?_;refine Jy (xLd Ao) ?_;refine Jy xM1 ?_;refine Jy AoU ?_;refine Jy (xLa Ab) ?_;refine Jy (xCl func58 (VD2)) ?_;refine Jy Fy ?_));refine gO xPk <| gO xM ?_;(first|iterate 7 refine Jd ?_|(refine Jy (xFa Ej Ao) ?_;refine Jy (xLd Ao) ?_;refine Jy xM1 ?_;refine Jy AoU ?_;refine Jy (xLa Ab) ?_;refine Jy (xCl func28 (SG)) ?_;refine Jy xLt ?_));refine gO xPk ?_;exact Z9.o)|(intro Z9;refine Tx 12 ?_;refine gO xF <| gO xD <| gO xM <| gO AoU <| gO xL <| gO AoT <| gO xM ?_;(first|iterate 3 refine Jd ?_|(refine Jy (xFa Er Ab) ?_;refine Jy (xLa Ab) ?_;refine Jy AoT ?_));refine gO xPk <| gO xM ?_;(first|iterate 3 refine Jd ?_|(refine Jy (xFa BI Ab) ?_;refine Jy (xLa Ab) ?_;refine Jy AoT ?_));refine gO xPk ?_;exact Z9.o)|fail):p:=h ⟨k⟩
theorem MS (h:p:=by
 exact AN rfl (.cons_ (AbC rfl (by decide) rfl) .nil_)):p:=h
theorem AsY (h:p:=by first|exact Bn rfl Ag rfl (GM h0)|exact Bn rfl Ag rfl (OS (by first|rfl|omega))|exact Bn rfl Ag rfl (GM (by first|assumption|omega))|exact Bn rfl Ag rfl rfl):p:=h
theorem AsZ (h:p:=by first|exact xIr Af (Xe hq)|exact xIr Af (hra)):p:=h
theorem Zb (t u:Bool) {ps:List Prt} {bs:List Bk} {os:List Int} (hl:Uh ps bs os) (F:List Int) (qs:List (Rv × Rv)) (rs:List Rv) (hwq:∀ q∈qs,RvB q.1∧RvB q.2) (hwr:∀ r∈rs,RvB r) (hFl:F.length≤17592186044416) (hQl:qs.length≤17592186044416) (hRl:rs.length≤17592186044416):CV prog An 20 [aDg t ps bs os,.agg (dCr u F qs rs)] [aE (ckE ps bs os F qs rs)]:=by
 refine cvz func20 ntmps20 ?_
 have CK:=SR t hl
 have hl1:=hl.l1
 have hl2:=hl.l2
 by_cases h0:Av ps bs os=0
 case neg =>
  have hb:ckE ps bs os F qs rs=Av ps bs os:=by unfold ckE;rw [if_pos h0]
  rw [hb]
  repeat' (with_reducible first|refine qq ?_|refine Xp ?_|(refine Tx 2 ?_;refine gO xM <| gO AsY ?_)|(refine Tx 3 ?_;refine gO xM <| gO xA ?_))
  exact AN rfl (.cons_ (AcN rfl rfl) .nil_)
 rw [h0] at CK
 by_cases hF:F.length=bs.length
 case neg =>
  have hb:ckE ps bs os F qs rs=11:=by unfold ckE;rw [if_neg (not_not_intro h0),if_neg (fun h=>hF h.1)]
  rw [hb]
  repeat' (with_reducible first|refine qq ?_|refine Xp ?_|refine AaG ?_|(refine Tx 6 ?_;refine gO (xMi underlying85) <| gO xA ?_))
  exact MS
 by_cases hQ:qs.length=bs.length
 case neg =>
  have hb:ckE ps bs os F qs rs=11:=by unfold ckE;rw [if_neg (not_not_intro h0),if_neg (fun h=>hQ h.2.1)]
  rw [hb]
  repeat' (with_reducible first|refine qq ?_|refine Xp ?_|refine AaG ?_|(refine Tx 6 ?_;refine gO (xMi underlying85) <| gO xA ?_))
  exact MS
 by_cases hR:rs.length=bs.length
 case neg =>
  have hb:ckE ps bs os F qs rs=11:=by unfold ckE;rw [if_neg (not_not_intro h0),if_neg (fun h=>hR h.2.2)]
  rw [hb]
  repeat' (with_reducible first|refine qq ?_|refine Xp ?_|refine AaG ?_|(refine Tx 6 ?_;refine gO (xMi underlying85) <| gO xA ?_))
  exact MS
 have hb:ckE ps bs os F qs rs=ckL qs rs:=by unfold ckE;rw [if_neg (not_not_intro h0),if_pos ⟨hF,hQ,hR⟩]
 rw [hb]
 repeat' (with_reducible first|refine qq ?_|refine Xp ?_|refine AaG ?_|(refine Tx 7 ?_;refine gO xF <| gO xD <| gO xN <| gO xM ?_))
 refine AY (Bz 2) (Aq (fun n Fr H=>∃ k:Nat,k≤qs.length∧n=qs.length - k∧(∀ (j:Nat) (x:Int),j<k→(List.zipWith PL qs rs)[j]?=some x→x=0)∧Fr=ofL [(3,vr 1),(38,vd (AcQ qs)),(39,vi qs.length),(40,vi ((k:Nat)))]∧H=[.box 26 [.d (CU t ps),.d (Dw t bs),.d (AM t os)],.box 30 [.d (AM u F),.d (AcQ qs),.d (AcP rs)]]) (n0:=qs.length) ⟨0,af _,rfl,(fun j x hj=>absurd hj (fm _)),rfl,rfl⟩ ?_)
 rintro n Fr H ⟨k,hk,rfl,hz,rfl,rfl⟩
 by_cases hlt:k<qs.length
 case pos =>
  obtain ⟨q,hq⟩:∃ q,qs[k]?=some q:=⟨_,gE hlt⟩
  obtain ⟨r,hr⟩:∃ r,rs[k]?=some r:=⟨_,gE (by omega)⟩
  have wq:=hwq q (gM hq)
  have wr:=hwr r (gM hr)
  have VI:CV prog An 57 [.agg (dIr false q)] [aB (ivC q)]:=Rb q.1 q.2 wq.1 wq.2
  have VD:=(MD (G:=An) false r wr.1 (by have:=wr.2;omega)).cv
  have hit:=AsW hz hq hr
  cases h1:ivC q
  case false =>
   have hc:PL q r=2:=by unfold PL;rw [if_pos (.inl h1)]
   rw [hit (by rw [hc];decide),hc]
   rw [h1] at VI
   repeat' (with_reducible first|refine qq ?_|(refine Tx 8 ?_;refine gO xLt ?_)|refine Ala ?_|(refine Tx 11 ?_;refine gO (xMi underlying85) <| gO xA ?_))
   exact MS
  rw [h1] at VI
  cases h2:vdB r.rw
  case false =>
   have hc:PL q r=2:=by unfold PL;rw [if_pos (.inr (.inl h2))]
   rw [hit (by rw [hc];decide),hc]
   rw [h2] at VD
   repeat' (with_reducible first|refine qq ?_|(refine Tx 8 ?_;refine gO xLt ?_)|refine Ala ?_|(refine Tx 11 ?_;refine gO (xMi underlying85) <| gO xA ?_))
   exact MS
  rw [h2] at VD
  obtain ⟨d0,n0,m0⟩:=AfZ wr h2
  have SG:=GF (rvP r).1 (rvP r).2 n0 m0
  have hra:=YF hr
  have hra:=YF hr
  have VD2:CV prog An 58 [.agg (dyP (rvP r))] [aB true]:=by rw [←d0];exact VD
  rw [d0] at hra
  by_cases h3:sgI (rvP r).1<0
  case pos =>
   have hc:PL q r=2:=by unfold PL;rw [if_pos (.inr (.inr h3))]
   rw [hit (by rw [hc];decide),hc]
   repeat' (with_reducible first|refine qq ?_|(refine Tx 8 ?_;refine gO xLt ?_)|(refine Tx 9 ?_;refine gO xM <| gO (by first|exact xIr Ah (Xe hq)|exact xIr Ah (hra)) <| gO xL <| gN (xAl Am) <| gO xA <| gZ (xSk Ae) ?_)|(refine Tx 10 ?_;refine gO xL <| gO (xCl func57 (VI)) <| gO Fy <| gO xM ?_;(first|iterate 7 refine Jd ?_|(refine Jy (xFa Ej Ao) ?_;refine Jy (xLd Ao) ?_;refine Jy xM1 ?_;refine Jy AsZ ?_;refine Jy (xLa Ab) ?_;refine Jy (xCl func58 (VD2)) ?_;refine Jy Fy ?_));refine gO xPk <| gO xM ?_;(first|iterate 7 refine Jd ?_|(refine Jy (xFa Ej Ao) ?_;refine Jy (xLd Ao) ?_;refine Jy xM1 ?_;refine Jy AsZ ?_;refine Jy (xLa Ab) ?_;refine Jy (xCl func28 (SG)) ?_;refine Jy xLt ?_));refine gO xPk ?_)|(refine Tx 11 ?_;refine gO (xMi underlying85) <| gO xA ?_))
   exact MS
  obtain ⟨⟨_,sw⟩,hdy,lw1,lw2⟩:=YO wq.1 wq.2 h1
  have hia:=Xe hq
  have VI2:CV prog An 57 [.agg (dIw false (ivQ q))] [aB true]:=by rw [←hdy];exact VI
  rw [hdy] at hia
  have LR:=Ro (rvP r) n0 m0
  have L1:=Ro (rvP q.1) sw.s1.ok lw1
  have L2:=Ro (rvP q.2) sw.s2.ok lw2
  have hn2:¬ (ivC q=false∨vdB r.rw=false∨sgI (rvP r).1<0):=by rw [h1,h2];simpa using h3
  cases h4:Cp (rvP r)
  case true =>
   have hc:PL q r=4:=by unfold PL;rw [if_neg hn2,if_pos (.inl h4)]
   rw [hit (by rw [hc];decide),hc]
   rw [h4] at LR
   repeat' (with_reducible first|refine qq ?_|(refine Tx 8 ?_;refine gO xLt ?_)|refine AaH ?_|(refine Tx 13 ?_;refine gO (xMi underlying85) <| gO xA ?_))
   exact MS
  rw [h4] at LR
  cases h5:Cp (rvP q.1)
  case true =>
   have hc:PL q r=4:=by unfold PL;rw [if_neg hn2,if_pos (.inr (.inl h5))]
   rw [hit (by rw [hc];decide),hc]
   rw [h5] at L1
   repeat' (with_reducible first|refine qq ?_|(refine Tx 8 ?_;refine gO xLt ?_)|refine AaH ?_|(refine Tx 13 ?_;refine gO (xMi underlying85) <| gO xA ?_))
   exact MS
  rw [h5] at L1
  cases h6:Cp (rvP q.2)
  case true =>
   have hc:PL q r=4:=by unfold PL;rw [if_neg hn2,if_pos (.inr (.inr h6))]
   rw [hit (by rw [hc];decide),hc]
   rw [h6] at L2
   repeat' (with_reducible first|refine qq ?_|(refine Tx 8 ?_;refine gO xLt ?_)|refine AaH ?_|(refine Tx 13 ?_;refine gO (xMi underlying85) <| gO xA ?_))
   exact MS
  rw [h6] at L2
  have hc:PL q r=0:=by unfold PL;rw [if_neg hn2,if_neg (by simp [h4,h5,h6])]
  repeat' (with_reducible first|refine qq ?_|(refine Tx 8 ?_;refine gO xLt ?_)|refine AaH ?_|(refine Tx 14 ?_;refine gO xAd <| gO xM ?_))
  exact ⟨_,_,TN [(3,vr 1),(38,vd (AcQ qs)),(39,vi qs.length),(40,vi (((k+1):Nat)))] 2 rfl (mB rfl rfl) ⟨DG rfl,DG rfl,trivial⟩,_,by omega,k+1,by omega,rfl,(fun j x hj hx=>by
    rcases bf j k with h|h
    ·exact hz j x h hx
    ·obtain rfl:j=k:=by omega
     rw [AfY hq hr] at hx
     cases hx
     exact hc),rfl,rfl⟩
 obtain rfl:k=qs.length:=by omega
 have he:ckL qs rs=0:=Hc fun x hx=>by
  obtain ⟨j,hj⟩:=dq hx
  exact hz j x (by have:=(gS.1 hj).1;rw [List.length_zipWith] at this;omega) hj
 rw [he]
 repeat' (with_reducible first|refine qq ?_|(refine Tx 8 ?_;refine gO xLt ?_)|(refine Tx 15 ?_;refine gO xA ?_))
 exact AN rfl (.cons_ (Fv rfl rfl) .nil_)
theorem OH (t:Bool) {ps:List Prt} {bs:List Bk} {os:List Int} (hl:Uh ps bs os) (F:List Int) (qs:List (Rv × Rv)) (rs:List Rv) (hwq:∀ q∈qs,RvB q.1∧RvB q.2) (hwr:∀ r∈rs,RvB r) (hFl:F.length≤17592186044416) (hQl:qs.length≤17592186044416) (hRl:rs.length≤17592186044416):CV prog An 6 [aDg t ps bs os,.agg (dCr false F qs rs)] [aB (vfE ps bs os F qs rs),.agg [dI (vfP ps bs os F qs rs).1,dI (vfP ps bs os F qs rs).2],aE (ckE ps bs os F qs rs)]:=by
 refine cvz func6 ntmps6 ?_
 have CK:=Zb t false hl F qs rs hwq hwr hFl hQl hRl
 have hl1:=hl.l1
 have hl2:=hl.l2
 by_cases h0:ckE ps bs os F qs rs=0
 case neg =>
  have e1:vfE ps bs os F qs rs=false:=by unfold vfE;rw [decide_eq_false h0];rfl
  have e2:vfP ps bs os F qs rs=(0,0):=if_neg h0
  rw [e1,e2]
  repeat' (with_reducible first|refine qq ?_|(refine Tx 0 ?_;refine gN xBo <| gN xBo <| gO xA <| gN (xAl Ds) <| gO xA ?_)|(refine Tx 1 ?_;refine gO xL <| gO xL <| gO (xCl func20 (CK)) <| gO xA ?_)|(refine Tx 2 ?_;refine gO xM <| gO AsY ?_)|(refine Tx 3 ?_;refine gO (by exact AH rfl Hx rfl rfl) <| gO xM <| gO xA <| gZ (xSk Bw) <| gO xA ?_))
  exact AN rfl (.cons_ (GI rfl rfl) (.cons_ (Avc Bw) (.cons_ (AcN rfl rfl) .nil_)))
 obtain ⟨hd,ok,hdc,_,_⟩:=AkZ hwq hwr h0
 rw [h0] at CK
 rw [h0]
 have e2:vfP ps bs os F qs rs=vfF ps bs (AcR F qs rs):=if_pos h0
 have e1:vfE ps bs os F qs rs=(vfK ps bs (AcR F qs rs)).isNone:=by unfold vfE;rw [decide_eq_true h0,eg]
 rw [e1,e2]
 rw [hdc] at CK
 rw [hdc]
 generalize AcR F qs rs=c at *
 clear e1 e2 h0
 repeat' (with_reducible first|refine qq ?_|(refine Tx 0 ?_;refine gN xBo <| gN xBo <| gO xA <| gN (xAl Ds) <| gO xA ?_)|(refine Tx 1 ?_;refine gO xL <| gO xL <| gO (xCl func20 (CK)) <| gO xA ?_)|(refine Tx 2 ?_;refine gO xM <| gO (xNE Ag) ?_)|(refine Tx 4 ?_;refine gO xF <| gO xD <| gO xN <| gO xM ?_))
 refine AY (Bz 3) (Aq (fun n Fr H=>∃ k:Nat,k≤bs.length∧n=bs.length - k∧(∀ i,i<k→LZ ps bs c i=0)∧Fr=ofL [(2,vr 0),(3,vr 1),(5,vr 2),(18,vd (Dw t bs)),(19,vi bs.length),(20,vi ((k:Nat)))]∧H=[.box 26 [.d (CU t ps),.d (Dw t bs),.d (AM t os)],.box 30 [.d (AM false c.F),.d (.row false 6 c.R.length (Ar (dIw false) c.R)),.d (.row false 3 c.E.length (Ar dyP c.E))],.box 34 [.d (.val (.int .i64 0)),.d (.val (.int .i64 0))]]) (n0:=bs.length) ⟨0,af _,rfl,(fun i hi=>absurd hi (fm _)),rfl,rfl⟩ ?_)
 rintro n Fr H ⟨k,hk,rfl,hz,rfl,rfl⟩
 by_cases hlt:k<bs.length
 case pos =>
  obtain ⟨y,hy⟩:∃ y,bs[k]?=some y:=⟨_,gE hlt⟩
  have LK:=Acj t false os c k hy (AfS hd hy) ok (lT (IY hd).2.1 (by decide)) (lT (IY hd).1 (by decide))
  have vs:=AoS hlt hz
  generalize hq:LZ ps bs c k=q at *
  by_cases h1:q=0
  case neg =>
   have vs:=vs h1
   have e1:(vfK ps bs c).isNone=false:=by rw [vs];rfl
   have e2:vfF ps bs c=(q,(k:Int)):=by unfold vfF;rw [vs];show (LZ ps bs c k,_)=_;rw [hq]
   rw [e1,e2]
   repeat' (with_reducible first|refine qq ?_|(refine Tx 5 ?_;refine gO xLt ?_)|(refine Tx 6 ?_;refine gO xM <| gO xA ?_)|(refine Tx 7 ?_;refine gO xL <| gO xL <| gO xM <| gO (xCl func21 (LK)) <| gO xA ?_)|(refine Tx 8 ?_;refine gO xM <| gO xNe ?_)|(refine Tx 9 ?_;refine gO xM <| gO xM <| gO (by exact AH rfl Hx rfl rfl) <| gO xA <| gZ (xSk Bw) <| gO xA ?_))
   exact AN rfl (.cons_ (GI rfl rfl) (.cons_ (Avc Bw) (.cons_ (Fv rfl rfl) .nil_)))
  subst h1
  repeat' (with_reducible first|refine qq ?_|(refine Tx 5 ?_;refine gO xLt ?_)|(refine Tx 6 ?_;refine gO xM <| gO xA ?_)|(refine Tx 7 ?_;refine gO xL <| gO xL <| gO xM <| gO (xCl func21 (LK)) <| gO xA ?_)|(refine Tx 8 ?_;refine gO xM <| gO xNe ?_)|(refine Tx 10 ?_;refine gO xAd <| gO xM ?_))
  refine ⟨_,_,Bz 3,_,by omega,k+1,by omega,rfl,Ut hz hq,rfl,rfl⟩
 obtain rfl:k=bs.length:=by omega
 have vn:=Za.2 hz
 have e1:(vfK ps bs c).isNone=true:=by rw [vn];rfl
 have e2:vfF ps bs c=(0,0):=by unfold vfF;rw [vn]
 rw [e1,e2]
 repeat' (with_reducible first|refine qq ?_|(refine Tx 5 ?_;refine gO xLt ?_)|(refine Tx 11 ?_;refine gO (by exact AH rfl Hx rfl rfl) <| gO xA <| gZ (xSk Bw) <| gO xA ?_))
 exact AN rfl (.cons_ (GI rfl rfl) (.cons_ (Avc Bw) (.cons_ (Fv rfl rfl) .nil_)))
theorem Rp (t:Bool) {ps:List Prt} {bs:List Bk} {os:List Int} (hl:EF ps bs os) (F:List Int) (qs:List (Rv × Rv)) (rs:List Rv) (hwq:∀ q∈qs,RvL q.1∧RvL q.2) (hwr:∀ r∈rs,RvL r) (hFl:F.length≤1000000) (hQl:qs.length≤1000000) (hRl:rs.length≤1000000):CV prog An 6 [aDg t ps bs os,.agg (dCr false F qs rs)] [aB (vfE ps bs os F qs rs),.agg [dI (vfP ps bs os F qs rs).1,dI (vfP ps bs os F qs rs).2],aE (ckE ps bs os F qs rs)]:=OH t hl.big F qs rs (fun q h=>⟨Ra (hwq q h).1,Ra (hwq q h).2⟩) (fun r h=>Ra (hwr r h)) (lT hFl (by decide)) (lT hQl (by decide)) (lT hRl (by decide))
def wiB (a:Iq) (f m:Int):Bool:=decide (Oz (MJ (Lo a) f) (m,0)≤0)
def pkF (a:Iq):Nat→Int
 | 0 => -1
 | n+1=>if wiB a (n:Int) 1073741824=true then (n:Int) else pkF a n
def pkS (a:Iq):Int:=pkF a 31
def pkB (a:Iq):Bool:=decide (0≤pkS a)
theorem Alb (a:Iq):∀ n:Nat,-1≤pkF a n∧pkF a n≤(n:Int) - 1
 | 0=>⟨dh _,dh _⟩
 | n+1=>by
  have:=Alb a n
  unfold pkF
  split <;> omega
theorem Ata (a:Iq) : -1≤pkS a∧pkS a≤30:=Alb a 31
def AcS:Nat→Int→Pq→Int
 | 0,k,_=>k
 | n+1,k,x=>if Oz (pw k) x<0 then AcS n (k+1) x else k
def Aga (x:Pq):Pq:=pw (AcS 50000 (-62) x)
section
variable (ps:List Prt) (bs:List Bk) (os:List Int) (F:List Int) (R:List Iq)
def erB (E:List Pq) (i:Nat):Pq:=upQ (Bu ps F R E (Yy bs i) (scA F i))
def erO:List Nat→List Pq→Option (List Pq)
 | [],E=>some E
 | i::l,E=>if Ahj (erB ps bs F R E i)=true then none else erO l (E.set i (erB ps bs F R E i))
def erM (E:List Pq) (i:Nat):Pq:=Md (E[i]?.getD (0,0)) (erB ps bs F R E i)
def erX (w:Bool) (E:List Pq) (i:Nat):Pq:=if w=true then Aga (erM ps bs F R E i) else erM ps bs F R E i
def erD (w:Bool):List Nat→List Pq→Bool→Option (List Pq × Bool)
 | [],E,b=>some (E,b)
 | i::l,E,b=>if Oz (erM ps bs F R E i) (E[i]?.getD (0,0))=0 then erD w l E b
  else if Ahj (erX ps bs F R w E i)=true then none else erD w l (E.set i (erX ps bs F R w E i)) true
def erR:Nat→Nat→List Pq→Option (List Pq)
 | 0,_,_=>none
 | n+1,r,E=>match erO ps bs F R (Bb bs) E with
  | none=>none
  | some E1=>match erD ps bs F R (decide (64≤r)) (AW bs) E1 false with
   | none=>none
   | some (E2,b)=>if b=true then erR n (r+1) E2 else some E2
def erA:Option (List Pq):=erR ps bs F R 128 0 (List.replicate bs.length (0,0))
def vfA (E:List Pq):Bool:=vfE ps bs os F (R.map Od) (E.map Ew)
def mkT:Option (List Pq):=match erA ps bs F R with
 | none=>none
 | some E=>if vfA ps bs os F R E=true then some E else none
end
def Agb (F:List Int):Bool:=F.any fun f=>decide (0<f)
def ApT (f:Int):Int:=if 0<f then f - 1 else f
def Acl (F:List Int):List Int:=F.map ApT
def mkL (ps:List Prt) (bs:List Bk) (os:List Int) (R:List Iq):Nat→List Int→Option Ct
 | 0,_=>none
 | n+1,F=>match mkT ps bs os F R with
  | some E=>some ⟨F,R,E⟩
  | none=>if Agb F=true then mkL ps bs os R n (Acl F) else none
def mkC (ps:List Prt) (bs:List Bk) (os:List Int) (e:Int) (l:List Iq):Option Ct :=
 if e=0∧(rgV ps bs l).all pkB=true then mkL ps bs os (rgV ps bs l) 31 ((rgV ps bs l).map pkS) else none
structure PN (bs:List Bk) (E:List Pq):Prop where
 len:E.length=bs.length
 sm:∀ p∈E,Sm p 128 62
 nn:∀ p∈E,0≤gv p
theorem PN.zero (bs:List Bk):PN bs (List.replicate bs.length (0,0)):=⟨dz ..,fun p hp=>by rw [List.eq_of_mem_replicate hp];exact Sm.zero _ _,fun p hp=>by rw [List.eq_of_mem_replicate hp,LS];exact dh _⟩
theorem PN.set (h:PN bs E) {p:Pq} (hs:Sm p 128 62) (h0:0≤gv p) (i:Nat):PN bs (E.set i p):=⟨by rw [dw];exact h.len,fun q hq=>by
 rcases kt hq with hq|rfl
 ·exact h.sm q hq
 ·exact hs,fun q hq=>by
 rcases kt hq with hq|rfl
 ·exact h.nn q hq
 ·exact h0⟩
theorem PN.at_ (h:PN bs E) (i:Nat):Sm (E[i]?.getD (0,0)) 128 62∧0≤gv (E[i]?.getD (0,0)):=by
 rcases he:E[i]? with _|p
 ·exact ⟨Sm.zero _ _,Int.le_of_eq LS.symm⟩
 ·exact ⟨h.sm p (gM he),h.nn p (gM he)⟩
theorem PN.inE (h:PN bs E):InE E E:=⟨fun k=>(h.at_ k).2,fun _=>dh _⟩
theorem AaI {p:Pq} (h:Sm p n 62) (h0:0≤gv p) (hf:Ahj p=false):Sm p 128 62:=by
 have h1:gv p≤1099511627776*2 ^ GQ:=by
  have h2:=of_decide_eq_false hf
  have h3:=(WK (p:=p) (q:=(1099511627776,0)) h.le (by decide)).1 (Int.not_lt.1 h2)
  rwa [Tc] at h3
 refine ⟨h.ok,?_,h.d⟩
 have hp:=Bv (GQ - p.2)
 have hd:=h.d
 have e:(2:Int) ^ GQ=2 ^ p.2*2 ^ (GQ - p.2):=by rw [←bi];congr 1;have:=h.le;omega
 unfold gv at h0 h1
 rw [e,←bc] at h1
 have h2:p.1≤1099511627776*2 ^ p.2:=Int.le_of_mul_le_mul_right h1 hp
 have h3:0≤p.1:=bz fun hn=>by
  have:=kp (show p.1<0 by omega) hp
  omega
 have h4:(2:Int) ^ p.2≤2 ^ 62:=by
  have h5:=ba (n:=2) (by decide) hd
  exact_mod_cast h5
 have h6:p.1<2 ^ 128:=by
  have:(1099511627776:Int)*2 ^ p.2≤1099511627776*2 ^ 62:=mh h4 (by decide)
  have h7:(1099511627776:Int)*2 ^ 62<2 ^ 128:=by decide
  omega
 have h8:((p.1.natAbs:Nat):Int)<((2 ^ 128:Nat):Int):=by
  rw [Int.natAbs_of_nonneg h3]
  exact_mod_cast h6
 exact_mod_cast h8
theorem Atb {k:Int} (h0 : -62≤k) (h1:k<n) (hn:n≤65536) (h2:0<n):Sm (pw k) n 62:=by
 unfold pw Ac
 split
 ·exact (Sm.mk_nf (m:=1) (n:=n) (d:=62) (p:=0+(-(max (-65536) (min k 65536))).toNat) (by omega) (by omega) (Nat.one_lt_two_pow (by omega)))
 ·refine (Sm.mk_nf (n:=n) (d:=62) (p:=0) (by omega) (by omega) ?_)
  rw [Int.one_mul,fx]
  exact Nat.pow_lt_pow_right (by decide) (by omega)
theorem Xq {k:Int} (h0 : -62≤k) (h1:k≤40064):Sm (pw k) 40065 62:=Atb h0 (by omega) (by decide) (by decide)
theorem AoV {a b:Nat} (h:a≤b):(2:Int) ^ a≤2 ^ b:=by
 have:=ba (n:=2) (by decide) h
 exact_mod_cast this
theorem Avd {x:Pq} {d:Nat} (h:Sm x n d):gv x<2 ^ (n+GQ):=by
 have h1:x.1<2 ^ n:=by
  have h2:=h.n
  have h3:((x.1.natAbs:Nat):Int)<((2 ^ n:Nat):Int):=by exact_mod_cast h2
  have h4:((2 ^ n:Nat):Int)=2 ^ n:=by push_cast;rfl
  omega
 have hp:=Bv (GQ - x.2)
 have hq:(2:Int) ^ (GQ - x.2)≤2 ^ GQ:=AoV (Nat.sub_le GQ x.2)
 unfold gv
 rw [bi]
 exact Int.lt_of_lt_of_le (mf h1 hp) (mh hq (ck (Bv n)))
theorem AoW {a b:Nat} (h:(2:Int) ^ a<2 ^ b):a<b:=bz fun hn=>by
 have h1:=ba (n:=2) (by decide) (show b≤a by omega)
 have h2:(2:Int) ^ b≤2 ^ a:=by exact_mod_cast h1
 omega
theorem AaJ {x:Pq} (hx:Sm x 40064 62) {k:Int} (h0 : -62≤k) (h1:k≤40064) (h:Oz (pw k) x<0):k+1≤40064:=by
 have h2:¬ gv x≤gv (pw k):=fun hc=>absurd h (Int.not_lt.2 ((Aah (p:=pw k) (q:=x) (Xq h0 h1).le hx.le).2 hc))
 have h3:=Avd hx
 rw [Rj (by omega) (by omega)] at h2
 have h4:=AoW (Int.lt_trans (Int.not_le.1 h2) h3)
 have h5:GQ=65536:=rfl
 omega
theorem Alc {x:Pq} (hx:Sm x 40064 62):∀ (n:Nat) (k:Int),-62≤k→k≤40064 → -62≤AcS n k x∧AcS n k x≤40064
 | 0,k,h0,h1=>⟨h0,h1⟩
 | n+1,k,h0,h1=>by
  unfold AcS
  split
  ·rename_i h
   exact Alc hx n (k+1) (by omega) (AaJ hx h0 h1 h)
  ·exact ⟨h0,h1⟩
theorem AoX {x:Pq} (hx:Sm x 40064 62):Sm (Aga x) 40065 62∧0≤gv (Aga x):=by
 obtain ⟨h0,h1⟩:=Alc hx 50000 (-62) (by decide) (by decide)
 unfold Aga
 exact ⟨Xq h0 h1,by rw [Rj (by omega) (by omega)];exact ck (Bv _)⟩
theorem AoY {k:Int} (h0 : -62≤k) (h1:k≤40063):MJ (pw k) 1=pw (k+1):=by
 have s1:=Xq h0 (by omega)
 have s2:=Xq (k:=k+1) (by omega) (by omega)
 refine Tb (MR s1 (by decide) (by decide)).ok s2.ok ?_
 have:=WL (p:=pw k) (n:=1) s1.le (by decide)
 rw [show gv (MJ (pw k) 1)=_ from this,Rj (by omega) (by omega),Rj (by omega) (by omega),←bi]
 congr 1
 omega
section
variable {ps:List Prt} {bs:List Bk} {os:List Int} {F:List Int} {R:List Iq} {E:List Pq}
theorem AaK (he:Av ps bs os=0) {i:Nat} {y:Bk} (hy:bs[i]?=some y) (hs:0≤scA F i∧scA F i≤30) (sR:∀ p∈R,IwS p LB LB) (h:PN bs E):Sm (Bu ps F R E y (scA F i)) 40064 9000∧Sm (erB ps bs F R E i) 40064 62∧0≤gv (erB ps bs F R E i):=by
 have hv:y.kind=6→DA y.vn y.ve:=fun h6=>Oy he hy (by rw [h6];rfl)
 have lb:∀ p∈E,Sm p LB LB:=AoR h.sm
 have sb:=AaB (ps:=ps) (F:=F) (y:=y) hs.1 hs.2 sR lb hv
 have nn:=(Ack (ps:=ps) (F:=F) (y:=y) hs.1 hs.2 sR lb lb hv h.inE).1
 unfold erB
 rw [Gf hy]
 exact ⟨sb,(UR (den:=62) sb.neg (by decide)).neg,AsU sb.le nn⟩
theorem Ald (he:Av ps bs os=0) {i:Nat} {y:Bk} (hy:bs[i]?=some y) (hs:0≤scA F i∧scA F i≤30) (sR:∀ p∈R,IwS p LB LB) (h:PN bs E):Sm (erM ps bs F R E i) 40064 62∧0≤gv (erM ps bs F R E i):=by
 obtain ⟨_,s,n⟩:=AaK he hy hs sR h
 obtain ⟨s',n'⟩:=h.at_ i
 unfold erM
 refine ⟨Sm.max (s'.more (by decide) (aa _)) s,?_⟩
 rw [show gv (Md (E[i]?.getD (0,0)) (erB ps bs F R E i))=_ from Hg s'.le s.le]
 omega
theorem Ale (he:Av ps bs os=0) {i:Nat} {y:Bk} (hy:bs[i]?=some y) (hs:0≤scA F i∧scA F i≤30) (sR:∀ p∈R,IwS p LB LB) (h:PN bs E) (w:Bool):Sm (erX ps bs F R w E i) 40065 62∧0≤gv (erX ps bs F R w E i):=by
 obtain ⟨s,n⟩:=Ald he hy hs sR h
 unfold erX
 split
 ·exact AoX s
 ·exact ⟨s.more (by decide) (aa _),n⟩
theorem Alf (he:Av ps bs os=0) (hF:∀ i,i<bs.length→0≤scA F i∧scA F i≤30) (sR:∀ p∈R,IwS p LB LB):∀ (l:List Nat) (E E':List Pq),(∀ i∈l,i<bs.length)→PN bs E→erO ps bs F R l E=some E'→PN bs E'
 | [],E,E',_,h,hr=>by cases hr;exact h
 | i::l,E,E',hl,h,hr=>by
  have hi:=hl i (gp ..)
  obtain ⟨y,hy⟩:∃ y,bs[i]?=some y:=⟨_,gE hi⟩
  obtain ⟨_,s,n⟩:=AaK he hy (hF i hi) sR h
  unfold erO at hr
  by_cases hf:Ahj (erB ps bs F R E i)=true
  ·rw [if_pos hf] at hr;cases hr
  ·rw [if_neg hf] at hr
   rw [ci] at hf
   exact Alf he hF sR l _ E' (fun j hj=>hl j (gq _ hj)) (h.set (AaI s n hf) n i) hr
theorem Agc (he:Av ps bs os=0) (hF:∀ i,i<bs.length→0≤scA F i∧scA F i≤30) (sR:∀ p∈R,IwS p LB LB) (w:Bool):∀ (l:List Nat) (E:List Pq) (b:Bool) (x:List Pq × Bool),(∀ i∈l,i<bs.length)→PN bs E→erD ps bs F R w l E b=some x→PN bs x.1
 | [],E,b,x,_,h,hr=>by cases hr;exact h
 | i::l,E,b,x,hl,h,hr=>by
  have hi:=hl i (gp ..)
  have hl':∀ j∈l,j<bs.length:=fun j hj=>hl j (gq _ hj)
  obtain ⟨y,hy⟩:∃ y,bs[i]?=some y:=⟨_,gE hi⟩
  obtain ⟨s,n⟩:=Ale he hy (hF i hi) sR h w
  unfold erD at hr
  by_cases hc:Oz (erM ps bs F R E i) (E[i]?.getD (0,0))=0
  ·rw [if_pos hc] at hr
   exact Agc he hF sR w l E b x hl' h hr
  rw [if_neg hc] at hr
  by_cases hf:Ahj (erX ps bs F R w E i)=true
  ·rw [if_pos hf] at hr;cases hr
  ·rw [if_neg hf] at hr
   rw [ci] at hf
   exact Agc he hF sR w l _ true x hl' (h.set (AaI s n hf) n i) hr
theorem Atc:∀ i∈Bb bs,i<bs.length:=fun i hi=>by
 obtain ⟨k,hk⟩:=dq hi
 exact (FP hk).1
theorem Atd:∀ i∈AW bs,i<bs.length:=fun i hi=>by
 obtain ⟨k,hk⟩:=dq hi
 exact (FS hk).1
theorem Alg (he:Av ps bs os=0) (hF:∀ i,i<bs.length→0≤scA F i∧scA F i≤30) (sR:∀ p∈R,IwS p LB LB):∀ (n r:Nat) (E E':List Pq),PN bs E→erR ps bs F R n r E=some E'→PN bs E'
 | 0,_,_,_,_,hr=>by cases hr
 | n+1,r,E,E',h,hr=>by
  unfold erR at hr
  split at hr
  ·cases hr
  rename_i E1 h1
  have k1:=Alf he hF sR _ _ _ Atc h h1
  split at hr
  ·cases hr
  rename_i E2 b h2
  have k2:=Agc he hF sR _ _ _ _ _ Atd k1 h2
  split at hr
  ·exact Alg he hF sR n (r+1) E2 E' k2 hr
  ·cases hr;exact k2
theorem Ate (he:Av ps bs os=0) (hF:∀ i,i<bs.length→0≤scA F i∧scA F i≤30) (sR:∀ p∈R,IwS p LB LB) (hr:erA ps bs F R=some E):PN bs E:=Alg he hF sR _ _ _ _ (.zero bs) hr
structure Ajn (bs:List Bk) (F:List Int):Prop where
 len:F.length=bs.length
 in_:∀ f∈F,0≤f∧f≤30
theorem Ajn.sc (h:Ajn bs F):∀ i,i<bs.length→0≤scA F i∧scA F i≤30:=fun i hi=>h.in_ _ (gM (YX (by rw [h.len];exact hi)))
theorem Ajn.low (h:Ajn bs F):Ajn bs (Acl F):=⟨by unfold Acl;rw [ad];exact h.len,fun f hf=>by
 obtain ⟨g,hg,rfl⟩:=List.mem_map.1 hf
 have:=h.in_ g hg
 unfold ApT
 split <;> omega⟩
theorem Ave (F:List Int) (R:List Iq) (E:List Pq):AcR F (R.map Od) (E.map Ew)=⟨F,R,E⟩:=by
 unfold AcR
 rw [PJ]
 congr 1
 rw [bw]
 exact (cw fun p _=>Hh p).trans (List.map_id E)
theorem Atf (u:Bool) (F:List Int) (R:List Iq) (E:List Pq):dCr u F (R.map Od) (E.map Ew)=dCt u ⟨F,R,E⟩:=by
 unfold dCr dCt
 rw [YU,Afl]
theorem er_L (h:PN bs E):∀ r∈E.map Ew,RvL r:=fun r hr=>by
 obtain ⟨p,hp,rfl⟩:=List.mem_map.1 hr
 exact OD (h.sm p hp) (by decide)
theorem Avf (hl:R.length=bs.length) (h:R.all pkB=true):Ajn bs (R.map pkS):=⟨by rw [ad];exact hl,fun f hf=>by
 obtain ⟨a,ha,rfl⟩:=List.mem_map.1 hf
 exact ⟨of_decide_eq_true (List.all_eq_true.1 h a ha),(Ata a).2⟩⟩
theorem Rq {p:Pq} (h:Sm p LB LB):Cp p=false:=by
 have h1:=CZ.2 h.n
 have h2:=h.d
 unfold LB at h1 h2
 exact decide_eq_false (by omega)
theorem AoZ (he:Av ps bs os=0) (hF:Ajn bs F) (hl:R.length=bs.length) (sR:∀ p∈R,IwS p LB LB) (h:PN bs E):ckE ps bs os F (R.map Od) (E.map Ew)=0:=by
 unfold ckE
 rw [if_neg (not_not_intro he),if_pos ⟨hF.len,by rw [ad];exact hl,by rw [ad];exact h.len⟩]
 refine Hc fun x hx=>?_
 obtain ⟨k,hk⟩:=dq hx
 rw [List.getElem?_zipWith] at hk
 rcases ha:(R.map Od)[k]? with _|q
 ·rw [ha] at hk;cases hk
 rcases hb:(E.map Ew)[k]? with _|r
 ·rw [ha,hb] at hk;cases hk
 rw [ha,hb] at hk
 cases hk
 rw [ag,dg] at ha hb
 obtain ⟨a,ha,rfl⟩:=ha
 obtain ⟨p,hp,rfl⟩:=hb
 have sa:=sR a (gM ha)
 have sp:=h.sm p (gM hp)
 have np:=h.nn p (gM hp)
 have n1:0≤p.1:=bz fun hn=>by
  have:=kp (show p.1<0 by omega) (Bv (GQ - p.2))
  unfold gv at np
  omega
 unfold PL
 rw [show rvP (Ew p)=p from Hh p,show rvP (Od a).1=a.1 from Hh a.1,show rvP (Od a).2=a.2 from Hh a.2,QZ sp.ok,show ivC (Od a)=true from Afq sa,Rq (sp.more (n':=LB) (d':=LB) (by decide) (by decide)),Rq sa.s1,Rq sa.s2]
 have hs:¬ sgI p.1<0:=by unfold sgI;(repeat' split) <;> omega
 simp [hs]
end
def cDz:Option Pq→List D
 | none=>[.val (.bool false),.val (.slice none 0 0),.val (.int .i64 0)]
 | some p=>dyP p
theorem Avg (v:List (Option Pq)):cVs v=((v.map cDz).flatten).map C.d:=by
 unfold cVs
 rw [List.map_flatten,bw]
 congr 1
 exact cw fun o _=>by cases o <;> rfl
theorem Avh {v:Value} (h:Ba w S (.val (.slice none 0 0)) v):Ba w S (.row false 1 0 []) v:=by
 cases h
 exact .row [] (aa _) (fun _=>rfl) rfl rfl (fun h=>absurd rfl h) (fun j u x hu=>by simp at hu)
structure Nw where
 ty:TypeId
 s:Nat
 n:Nat
 ds:List D
def Nw.ob (r:Nw):Ob:=.row r.ty r.s r.n (r.ds.map C.d)
inductive Yr where
 | d (x:D)
 | own (k n:Nat)
inductive YT where
 | one (y:Yr)
 | agg (ys:List Yr)
inductive YR where
 | one (y:Yr)
 | agg (ys:List Yr)
 | tup (l:List YT)
def Yr.c (n0:Nat):Yr→C
 | .d x=>.d x
 | .own k n=>.own (n0+k) n
def YT.t (n0:Nat):YT→TC
 | .one y=>.one (y.c n0)
 | .agg ys=>.agg (ys.map (Yr.c n0))
def YR.x (n0:Nat):YR→X
 | .one y=>.one (y.c n0)
 | .agg ys=>.agg (ys.map (Yr.c n0))
 | .tup l=>.tupC (l.map (YT.t n0))
def RX (S:Dm) (w w':World) (es:List Et):Dm:=fun t b=>t=false∧(S false b∨(w.heap.size≤b∧b<w'.heap.size∧∀ e∈es,e.own≠some b))
def ApU (w:World) (S:Dm) (rows:List Nw) (es:List Et):Yr→Value→Prop
 | .d x,v=>Ba w S x v
 | .own k n,v=>v.oneCell'=true∧∃ e r,es[k]?=some e∧rows[k]?=some r∧r.n=n∧v=e.hv
def Atg (w:World) (S:Dm) (rows:List Nw) (es:List Et):YT→Value→Prop
 | .one y,v=>ApU w S rows es y v
 | .agg ys,v=>∃ vs:List Value,v=.agg vs.toArray∧AP (ApU w S rows es) ys vs
def Ath (w:World) (S:Dm) (rows:List Nw) (es:List Et):YR→Value→Prop
 | .one y,v=>ApU w S rows es y v
 | .agg ys,v=>∃ vs:List Value,v=.agg vs.toArray∧AP (ApU w S rows es) ys vs
 | .tup l,v=>∃ vs:List Value,v=.tuple vs.toArray∧AP (Atg w S rows es) l vs
structure Ati (w w':World) (S:Dm) (rows:List Nw) (es:List Et):Prop where
 len:es.length=rows.length
 each:∀ (k:Nat) (e:Et),es[k]?=some e→∃ (r:Nw) (v:Value) (xs:List Value),rows[k]?=some r∧e=.row v r.ty r.s r.n xs∧e.at_ w' w.heap.size∧AP (Ba w' S) r.ds xs
 apart:es.Pairwise Adq
def CVN (P:Program) (G:World→Prop) (f:FuncId) (args:List A) (rows:List Nw) (res:YR):Prop :=
 ∀ (w:World) (S:Dm) (vs:List Value),G w→(∀ t b,S t b→b<w.heap.size)→AP (EA w S) args vs →
  Calls P f vs.toArray w fun e w'=>∃ v es,e=.returned v∧Ati w w' (RX S w w' es) rows es∧Ath w' (RX S w w' es) rows es res v∧Below w.heap.size w w'
def YC (ids:List Nat) (rows:List Nw):Yr→C→Prop
 | .d x,c=>c=.d x∧Dn x
 | .own k n,c=>∃ id r,ids[k]?=some id∧rows[k]?=some r∧r.n=n∧c=.own id n
inductive RVT (P:Program) (F:Frm) (H:List Ob) (ids:List Nat) (rows:List Nw):ResultVar→YT→Prop
 | tmp {t:Tmp} {y:Yr} {c:C} (hF:F t=.one c) (h:YC ids rows y c):RVT P F H ids rows (.tmp t) (.one y)
 | cell {t:Tmp} {ty ty' id:Nat} {d:TypeDesc} {cs:List C} {ys:List Yr} (hF:F t=.one (.ref id 0 none)) (hH:H[id]?=some (.box ty' cs)) (hu:P.underlying ty=some d) (hd:d.isRow=true) (hi:(P.info? ty).map (·.size)=some cs.length) (h:AP (YC ids rows) ys cs):RVT P F H ids rows (.cell t ty) (.agg ys)
inductive Aud (P:Program) (fn:Func) (F:Frm) (H:List Ob) (ids:List Nat) (rows:List Nw):YR→Prop
 | tmp {t:Tmp} {y:Yr} {c:C} (hr:fn.results=#[.tmp t]) (hF:F t=.one c) (h:YC ids rows y c):Aud P fn F H ids rows (.one y)
 | cell {t:Tmp} {ty ty' id:Nat} {d:TypeDesc} {cs:List C} {ys:List Yr} (hr:fn.results=#[.cell t ty]) (hF:F t=.one (.ref id 0 none)) (hH:H[id]?=some (.box ty' cs)) (hu:P.underlying ty=some d) (hd:d.isRow=true) (hi:(P.info? ty).map (·.size)=some cs.length) (h:AP (YC ids rows) ys cs):Aud P fn F H ids rows (.agg ys)
 | tup {r1 r2:ResultVar} {rs:List ResultVar} {l:List YT} (hr:fn.results.toList=r1::r2::rs) (h:AP (RVT P F H ids rows) (r1::r2::rs) l):Aud P fn F H ids rows (.tup l)
theorem Rr {tmps:Array Value} {r:ResultVar} {v:Value} (hr:fn.results=#[r]) (h:(VG tmps r).run P w=.ok v w):(results fn tmps).run P w=.ok v w:=by
 have h1:(fn.results.mapM (VG tmps)).run P w=.ok #[v] w:=by
  rw [hr,←kb (xs:=#[r]),kc,map_eq_pure_bind,ai]
  simp [jz,ai,h]
 have hb':∀ (s:Sem (Array Value)) (k:Array Value→Sem Value),(s.bind k).run P w=(s.run P w).andThen fun a w=>(k a).run P w:=fun s k=>ai (x:=s) (f:=k) ..
 rw [II,hb',h1]
 rfl
theorem Xr {P:Program} {w:World} {R:YT→Value→Prop} {f:ResultVar→Sem Value}:∀ {rs:List ResultVar} {res:List YT},AP (fun r y=>∃ v,(f r).run P w=.ok v w∧R y v) rs res→∃ vs:List Value,(rs.mapM f).run P w=.ok vs w∧AP R res vs
 | [],res,h=>by
  rw [h.unnil]
  exact ⟨[],by simp,AP.nil_⟩
 | r::rs,res,h=>by
  obtain ⟨y,res',rfl,⟨v,h1,h2⟩,h3⟩:=h.uncons
  obtain ⟨vs,h4,h5⟩:=Xr h3
  exact ⟨v::vs,by simp [jz,ai,h1,h4],AP.cons_ h2 h5⟩
theorem Xs {tmps:Array Value} {R:YT→Value→Prop} {r1 r2:ResultVar} {rs:List ResultVar} {l:List YT} (hr:fn.results.toList=r1::r2::rs) (h:AP (fun r y=>∃ v,(VG tmps r).run P w=.ok v w∧R y v) (r1::r2::rs) l):∃ vs:List Value,(results fn tmps).run P w=.ok (.tuple vs.toArray) w∧AP R l vs:=by
 obtain ⟨vs,h1,h2⟩:=Xr h
 have h1':(fn.results.mapM (VG tmps)).run P w=.ok vs.toArray w:=by
  rw [←kb (xs:=fn.results),hr,kc,map_eq_pure_bind,ai,h1]
  rfl
 have hb':∀ (s:Sem (Array Value)) (k:Array Value→Sem Value),(s.bind k).run P w=(s.run P w).andThen fun a w=>(k a).run P w:=fun s k=>ai (x:=s) (f:=k) ..
 refine ⟨vs,?_,h2⟩
 have hl:2≤vs.length:=by rw [←h2.1,←h.1];show 2≤rs.length+2;omega
 rw [II,hb',h1']
 simp only [bd,bk]
 match vs,hl with
 | a::b::l,_=>rfl
theorem ents {m:Mm} (ht:Tot m):∀ {ids:List Nat} {rows:List Nw},AP (fun id (r:Nw)=>m.H[id]?=some r.ob∧∀ d∈r.ds,Dn d) ids rows→∃ es:List Et,AP (fun id e=>m.E id=some e) ids es
 | [],_,_=>⟨[],.nil_⟩
 | id::ids,rows,h=>by
  obtain ⟨r,rs,rfl,h1,h2⟩:=h.uncons
  obtain ⟨es,h3⟩:=ents ht h2
  obtain ⟨e,he⟩:=Option.isSome_iff_exists.1 (ht id r.ob h1.1 rfl)
  exact ⟨e::es,.cons_ he h3⟩
theorem Alh (h:p:=by
 exact run_loadVar_mid m'.w g 0 ty us d (fun j v hj=>by rw [Aur,cell_of_row m'.w g j us.toArray ty' (0,0) hg'];simpa using hj) hu hd (by rw [hi,hl2.1])):p:=h
theorem Agd {G:World→Prop} (hG:∀ w w',Below w.heap.size w w'→G w→G w') {f:FuncId} {fn:Func} {c:Code} {N:Nat} {args:List A} {rows:List Nw} {res:YR} (hf:P.funcs[f]?=some fn) (hb:fn.body=some c) (hN:fn.ntmps=N) (ha:args.length≤N)
  (h:CW P G N c (F0 args) [] (fun e F H=>(e=.ret∨e=.normal)∧∃ ids:List Nat,ids.Nodup∧AP (fun id (r:Nw)=>H[id]?=some r.ob∧∀ d∈r.ds,Dn d) ids rows∧Aud P fn F H ids rows res)):CVN P G f args rows res:=by
 intro w S vs hg hlt hargs
 refine calls_of_wp hf hb ?_
 refine wp_mono (h w.heap.size w ⟨S,[]⟩ _ ⟨w,S,[],fun _=>none⟩ (fun w' hb'=>hG w w' hb' hg) rfl (Ml hN ha hlt hargs)) fun e a' w' ⟨F',m',hw,hs,hret⟩=>?_
 subst hw
 obtain ⟨he,ids,hnd,hids,hres⟩:=hret
 obtain ⟨es,hes⟩:=ents hs.tot hids
 have hS:∀ b,m'.S false b→RX S w m'.w es false b:=fun b hb'=>⟨rfl,(hs.S b hb').elim .inl fun hle=>.inr ⟨hle,hs.cx.lt _ _ hb',fun e he hown=>by
  obtain ⟨k,hk⟩:=dq he
  obtain ⟨id,hid⟩:∃ id,ids[k]?=some id:=⟨_,gE (by have:=(gS.1 hk).1;have:=hes.1;omega)⟩
  exact hs.cx.far id e b false (hes.2 k id e hid hk) hown hb'⟩⟩
 have hdat:∀ {x:D} {v:Value},Dn x→Ba m'.w m'.S x v→Ba m'.w (RX S w m'.w es) x v:=fun hx hv=>Ba.free hS hv hx
 have hnew:Ati w m'.w (RX S w m'.w es) rows es:=by
  refine ⟨by rw [←hes.1,hids.1],fun k e hk=>?_,List.pairwise_iff_getElem.2 fun i j hi hj hij=>?_⟩
  ·obtain ⟨id,hid⟩:∃ id,ids[k]?=some id:=⟨_,gE (by have:=(gS.1 hk).1;have:=hes.1;omega)⟩
   obtain ⟨r,hr,hHr,hfr⟩:=hids.at_ hid
   have hE:=hes.2 k id e hid hk
   obtain ⟨hat,ob,hob,hrel⟩:=hs.cx.each id e hE
   rw [hHr] at hob
   cases hob
   cases e with
   | box g vs t=>exact hrel.elim
   | row v' ty' s' n' xs =>
    obtain ⟨rfl,rfl,rfl,hl⟩:=hrel
    refine ⟨r,v',xs,hr,rfl,hat,⟨by rw [←hl.1,ad],fun j d v hd hv=>?_⟩⟩
    exact hdat (hfr d (gM hd)) (hl.2 j (.d d) v (by rw [ag,hd];rfl) hv)
  ·have h1:=hes.1
   refine hs.cx.apart (ids[i]'(by omega)) (ids[j]'(by omega)) _ _ (List.pairwise_iff_getElem.1 hnd i j (by omega) (by omega) hij) ?_ ?_
   ·exact hes.2 i _ _ (gE _) (gE _)
   ·exact hes.2 j _ _ (gE _) (gE _)
 have hyc:∀ {y:Yr} {c:C} {v:Value},YC ids rows y c→DP m' c v→ApU m'.w (RX S w m'.w es) rows es y v:=fun {y c v} hy hv=>by
  cases y with
  | d x =>
   obtain ⟨rfl,hx⟩:=hy
   exact hdat hx hv
  | own k n =>
   obtain ⟨id,r,hid,hr,rfl,rfl⟩:=hy
   obtain ⟨hone,ob,hob,_,hk⟩:=hv
   have hHr:=(hids.2 k id r hid hr).1
   rw [hHr] at hob
   cases hob
   obtain ⟨e,hE,hve⟩:=hk rfl
   obtain ⟨e',he',hE'⟩:=hes.at_ hid
   rw [hE] at hE'
   cases hE'
   exact ⟨hone,e,r,he',hr,rfl,hve⟩
 have hfin:∃ v,(results fn a'.tmps).run P m'.w=.ok v m'.w∧Ath m'.w (RX S w m'.w es) rows es res v:=by
  cases hres with
  | @tmp t y c hr hF hy =>
   have hx:=hs.frame t
   rw [hF] at hx
   exact ⟨_,Rr hr rfl,hyc hy hx⟩
  | @cell t ty ty' id d cs ys hr hF hH hu hd hi hl =>
   have hx:=hs.frame t
   rw [hF] at hx
   obtain ⟨g,us,hv,hE,_,hg',hl2⟩:=Gp hs.cx hx hH
   refine ⟨.agg us.toArray,Rr hr ?_,us,rfl,by rw [hl.1,hl2.1],fun j y u hy hu'=>?_⟩
   ·simp only [VG,hv,asAddr,ai,bk,bd]
    exact Alh
   ·obtain ⟨c,hc,hyj⟩:=hl.at_ hy
    exact hyc hyj (hl2.2 j c u hc hu')
  | tup hr hq =>
   obtain ⟨vs,h1,h2⟩:=Xs (R:=Atg m'.w (RX S w m'.w es) rows es) (tmps:=a'.tmps) (P:=P) (w:=m'.w) hr (hq.imp fun r y hry=>by
    cases hry with
    | @tmp t y c hF hy =>
     have hx:=hs.frame t
     rw [hF] at hx
     exact ⟨_,rfl,hyc hy hx⟩
    | @cell t ty ty' id d cs ys hF hH hu hd hi hl =>
     have hx:=hs.frame t
     rw [hF] at hx
     obtain ⟨g,us,hv,hE,_,hg',hl2⟩:=Gp hs.cx hx hH
     refine ⟨.agg us.toArray,?_,us,rfl,by rw [hl.1,hl2.1],fun j y u hy hu'=>?_⟩
     ·simp only [VG,hv,asAddr,ai,bk,bd]
      exact Alh
     ·obtain ⟨c,hc,hyj⟩:=hl.at_ hy
      exact hyc hyj (hl2.2 j c u hc hu'))
   exact ⟨_,h1,vs,rfl,h2⟩
 obtain ⟨v,hrun,hv⟩:=hfin
 rcases he with rfl|rfl
 ·exact ⟨hs.defers,v,hrun,v,es,rfl,hnew,hv,hs.below⟩
 ·exact ⟨hs.defers,v,hrun,v,es,rfl,hnew,hv,hs.below⟩
section
variable {P:Program} {G:World→Prop} {o:Oper} {F:Frm} {H:List Ob}
theorem UU {f:FuncId} {c:Code} {xs:Array Operand} {ts:Array TypeId} (ho:o.op=.call { callee:=.value (.func f),args:=xs,argTypes:=ts })
  (hf : P.funcs[f]? = some fn) (hn : (fn.name == "runtime.NumGoroutine") = false) (hb : fn.body = some c) {args : List A} {rows : List Nw} {res : YR} (h : CVN P G f args rows res) (ha : AP (fun x y => LA true H (F.ev x) y) xs.toList args) :
  AU P G o F H (res.x H.length) (rows.map Nw.ob):=by
 intro b0 m a hp hx hg hb0 hE hor K Q hK
 have hp0:H <+: m.H:=(li _ _).trans hp
 have hxs:∀ x∈xs.toList,Ey m (F.ev x) (a.eval x):=fun x hm=>AV hor (by
  rw [ho]
  simp only [Op.operands,Call.operands,ij,eo]
  exact .inr hm)
 let Sx:Dm:=fun t b=>m.S t b∨(t=true∧∃ id e,m.E id=some e∧e.own=some b)
 have hcalls:=h m.w Sx (xs.toList.map a.eval) hg (fun t b hb=>by
  rcases hb with hb|⟨_,id,e,he,hown⟩
  ·exact hx.lt t b hb
  ·exact (Et.lt (hx.each id e he).1 hown).2) ⟨by rw [ad];exact ha.1.symm,fun j y v hy hv=>by
   simp only [ag,dg] at hv
   obtain ⟨x,hxj,rfl⟩:=hv
   exact LA.rel hx (fun b hb=>.inl hb) (fun _ b hb=>.inl hb) (fun id e g he hg=>.inr ⟨rfl,id,e,he,hg⟩) ((ha.2 j x y hxj hy).pre hp0) (hxs x (gM hxj))⟩
 unfold Oper.wp execOp
 simp only [ho,resolve,Act.eval,Deferred.ofValue,ai,bk,bd,invoke]
 rw [DD hf hn hb]
 rw [gl]
 have he:((#[]:Array Value)++xs.map a.eval++#[])=(xs.toList.map a.eval).toArray:=gb (by simp)
 simp only [he]
 refine hcalls.mono fun e w' ⟨v,es,hev,hnew,hres,hbel⟩=>?_
 subst hev
 have hS:∀ t b,RX Sx m.w w' es t b→(m.plus w' H.length es).S t b:=fun t b hb=>by
  obtain ⟨rfl,h1|h1⟩:=hb
  ·rcases h1 with h1|⟨h1,_⟩
   ·exact .inl h1
   ·cases h1
  ·exact .inr ⟨rfl,h1.1,h1.2.1,h1.2.2⟩
 have hobs:∀ (k:Nat) (r:Nw),rows[k]?=some r→m.H[H.length+k]?=some r.ob:=fun k r hk=>getElem?_pre hp (by
  rw [dt (by omega),show H.length+k - H.length=k by omega,ag,hk]
  rfl)
 have hEe:∀ (k:Nat) (e:Et),es[k]?=some e→(m.plus w' H.length es).E (H.length+k)=some e:=fun k e hk=>by
  have hlt:=(gS.1 hk).1
  show (if H.length≤H.length+k∧H.length+k<H.length+es.length then es[H.length+k - H.length]? else _)=some _
  rw [if_pos ⟨by omega,by omega⟩,show H.length+k - H.length=k by omega]
  exact hk
 have hyr:∀ {y:Yr} {u:Value},ApU w' (RX Sx m.w w' es) rows es y u→DP (m.plus w' H.length es) (y.c H.length) u:=fun {y u} hy=>by
  cases y with
  | d x=>exact Ba.mono hS (fun _ _ _=>rfl) hy
  | own k n =>
   obtain ⟨hone,e,r,he,hr,rfl,rfl⟩:=hy
   exact ⟨hone,_,hobs k r hr,(fun n1 n2 h1 h2=>by cases h1;cases h2;exact aa _),fun _=>⟨_,hEe k e he,rfl⟩⟩
 refine hK v w' es ⟨by rw [hnew.len,ad],hbel,fun k e hk=>?_,hnew.apart⟩ ?_
 ·obtain ⟨r,v',xs',hr,rfl,hat,hl⟩:=hnew.each k e hk
  refine ⟨⟨hat.1,hat.2.imp id fun ⟨g,cap,cur,e,hb,r⟩=>⟨g,cap,cur,e,lT hb0 hb,r⟩⟩,fun g hg'=>(Et.lt hat hg').1,r.ob,by rw [ag,hr];rfl,rfl,rfl,rfl,⟨by rw [ad];exact hl.1,fun j c u hc hu=>?_⟩⟩
  rw [ag,dg] at hc
  obtain ⟨d,hd,rfl⟩:=hc
  exact Ba.mono hS (fun _ _ _=>rfl) (hl.2 j d u hd hu)
 ·cases res with
  | one y=>exact hyr hres
  | agg ys =>
   obtain ⟨us,rfl,hl⟩:=hres
   exact ⟨us,rfl,by rw [ad];exact hl.1,fun j c u hc hu=>by
    rw [ag,dg] at hc
    obtain ⟨y,hy,rfl⟩:=hc
    exact hyr (hl.2 j y u hy hu)⟩
  | tup l =>
   obtain ⟨us,rfl,hl⟩:=hres
   exact ⟨us,rfl,by rw [ad];exact hl.1,fun j c u hc hu=>by
    rw [ag,dg] at hc
    obtain ⟨y,hy,rfl⟩:=hc
    have h1:=hl.2 j y u hy hu
    cases y with
    | one y=>exact hyr h1
    | agg ys =>
     obtain ⟨xs,rfl,h2⟩:=h1
     exact ⟨xs,rfl,by rw [ad];exact h2.1,fun j c u hc hu=>by
      rw [ag,dg] at hc
      obtain ⟨y,hy,rfl⟩:=hc
      exact hyr (h2.2 j y u hy hu)⟩⟩
def TC.x:TC→X
 | .one c=>.one c
 | .agg cs=>.agg cs
theorem AaL {x:Operand} {i:Nat} {l:List TC} {y:TC} (ho:o.op=.extract x i) (hx:F.ev x=.tupC l) (hy:l[i]?=some y):AU P G o F H y.x []:=BS fun b0 m a _ _ hor=>by
 have hv:=AV hor (x:=x) (by rw [ho];simp [Op.operands])
 rw [hx] at hv
 obtain ⟨vs,hv,hl⟩:=hv
 obtain ⟨u,hu,hr⟩:=hl.at_ hy
 refine ⟨u,?_,?_⟩
 ·unfold execOp
  simp [ho,hv,Instr.extract,hu]
 ·cases y <;> exact hr
theorem Age {x:Operand} {l:List TC} (ho:o.op=.move x) (hx:F.ev x=.tupC l):AU P G o F H (.tupC l) []:=by rw [←hx];exact XV ho
theorem Jl {ops:Array Oper} {l:List Oper} {K:Frm→List Ob→Prop} {d:Tmp} {xx:X} {obs:List Ob} (h:AU P G o F H xx obs) (k:Ti P G ops l (F.put (some d) xx) (H++obs) K) (hg:o.guard=none:=by with_unfolding_all exact rfl) (hd:o.dst=some d:=by with_unfolding_all exact rfl):Ti P G ops (o::l) F H K:=by
 refine Aqn hg h ?_
 rw [congrArg (fun q=>F.put q xx) hd]
 exact k
def D.pl:D→Bool
 | .val _=>true
 | _=>false
def A.pl:A→Bool
 | .one d=>d.pl
 | .agg ds=>ds.all D.pl
theorem Agf {w':World} {S':Dm} {d:D} {v:Value} (hd:d.pl=true) (h:Ba w S d v):Ba w' S' d v:=by
 cases h with
 | val hv=>exact .val hv
 | row=>cases hd
 | ptr=>cases hd
theorem Agg {S':Dm} {x:A} {v:Value} (hd:x.pl=true) (h:EA w S x v):EA w S' x v:=by
 cases x with
 | one d=>exact Agf hd h
 | agg ds =>
  obtain ⟨xs,h1,h2⟩:=h
  exact ⟨xs,h1,h2.1,fun j d u hj hu=>Agf (List.all_eq_true.1 hd d (gM hj)) (h2.2 j d u hj hu)⟩
theorem UV {f:FuncId} {c:Code} {xs:Array Operand} {ts:Array TypeId} (ho:o.op=.call { callee:=.value (.func f),args:=xs,argTypes:=ts })
  (hf : P.funcs[f]? = some fn) (hn : (fn.name == "runtime.NumGoroutine") = false) (hb : fn.body = some c) {args res : List A} (hpl : res.all A.pl = true) (h : CV P G f args res) (ha : AP (fun x y => ∃ t, LA t H (F.ev x) y) xs.toList args) :
  AU P G o F H (Amt res) []:=by
 intro b0 m a hp hx hg hb0 _ hor K Q hK
 rw [av] at hp
 have hxs:∀ x∈xs.toList,Ey m (F.ev x) (a.eval x):=fun x hm=>AV hor (by
  rw [ho]
  simp only [Op.operands,Call.operands,ij,eo]
  exact .inr hm)
 let Sx:Dm:=fun t b=>m.S t b∨(∃ id e,m.E id=some e∧e.own=some b)
 have hcalls:=h m.w Sx (xs.toList.map a.eval) hg (fun t b hb=>by
  rcases hb with hb|⟨id,e,he,hown⟩
  ·exact hx.lt t b hb
  ·exact (Et.lt (hx.each id e he).1 hown).2) ⟨by rw [ad];exact ha.1.symm,fun j y v hy hv=>by
   simp only [ag,dg] at hv
   obtain ⟨x,hxj,rfl⟩:=hv
   obtain ⟨_,hxe⟩:=ha.2 j x y hxj hy
   exact LA.rel hx (fun b hb=>.inl hb) (fun _ b hb=>.inl hb) (fun id e g he hg=>.inr ⟨id,e,he,hg⟩) (hxe.pre hp) (hxs x (gM hxj))⟩
 unfold Oper.wp execOp
 simp only [ho,resolve,Act.eval,Deferred.ofValue,ai,bk,bd,invoke]
 rw [DD hf hn hb]
 rw [gl]
 have he:((#[]:Array Value)++xs.map a.eval++#[])=(xs.toList.map a.eval).toArray:=gb (by simp)
 simp only [he]
 refine hcalls.mono fun e w' ⟨v,hev,hres,hbel⟩=>?_
 subst hev
 refine hK v w' [] ⟨rfl,hbel,fun k e hk=>by simp at hk,List.Pairwise.nil⟩ (TF ?_)
 have hall:∀ y∈res,y.pl=true:=List.all_eq_true.1 hpl
 have hl:∀ {l:List A} {vs:List Value},(∀ y∈l,y.pl=true)→AP (EA w' (Ahe Sx m.w w')) l vs→AP (EA w' (m.plus w' H.length []).S) l vs:=fun hl h=>⟨h.1,fun j y u hy hu=>Agg (hl y (gM hy)) (h.2 j y u hy hu)⟩
 match res,hres,hall with
 | [],hres,ha=>obtain ⟨vs,h1,h2⟩:=hres;exact ⟨vs,h1,hl ha h2⟩
 | [x],hres,ha=>exact Agg (ha x (by simp)) hres
 | x::y::l,hres,ha=>obtain ⟨vs,h1,h2⟩:=hres;exact ⟨vs,h1,hl ha h2⟩
end
theorem Ajo {N:Nat} {F:Frm} {s:Nat} {cs cs':List C} (id:Nat) (hH:H[id]?=some (.row ty s n cs)) (hc:∀ (m:Mm) (xs:List Value),AP (DP m) cs xs→AP (DP m) cs' xs):Wk N F H F (H.set id (.row ty s n cs')):=fun b0 w0 S0 a m hm hs=>by
 subst hm
 have hlt:=(gS.1 hH).1
 let m':Mm:={ m with H:=m.H.set id (.row ty s n cs') }
 have hH':∀ i (ob:Ob),m.H[i]?=some ob→∃ ob',m'.H[i]?=some ob'∧ob'.k=ob.k∧(i≠id→ob'=ob):=fun i ob hob=>by
  by_cases h:id=i
  ·subst h
   rw [hH] at hob
   cases hob
   exact ⟨_,ed hlt,rfl,fun h=>absurd rfl h⟩
  ·exact ⟨ob,by show (m.H.set id _)[i]?=_;rw [gm h];exact hob,rfl,fun _=>rfl⟩
 have hle:Le m m':=⟨fun _ _ h=>h,rfl,fun _ _ _=>rfl,fun i ob hob=>by
  obtain ⟨ob',h1,h2,_⟩:=hH' i ob hob
  exact ⟨ob',h1,fun k hk=>.inl ⟨by rw [←h2];exact hk,fun x hx=>⟨x,hx,rfl⟩⟩⟩⟩
 refine ⟨m',rfl,rfl,⟨⟨fun i x hx=>?_,hs.cx.apart,hs.cx.far,hs.cx.lt⟩,fun i ob hob hk=>?_,fun t'=>(hs.frame t').le hle,hs.size,hs.defers,hs.below,hs.base,hs.S,hs.T⟩⟩
 ·obtain ⟨h1,ob,h2,h3⟩:=hs.cx.each i x hx
  obtain ⟨ob',h4,_,h5⟩:=hH' i ob h2
  refine ⟨h1,ob',h4,?_⟩
  by_cases h:i=id
  ·subst h
   rw [hH] at h2
   cases h2
   have h4':(m.H.set i (.row ty s n cs'))[i]?=some ob':=h4
   rw [ed hlt] at h4'
   cases h4'
   cases x with
   | box g vs t=>exact h3.elim
   | row v t' s' n' xs =>
    obtain ⟨e1,e2,e3,hl⟩:=h3
    exact ⟨e1,e2,e3,(hc m xs hl).imp fun _ _=>DP.le hle⟩
  ·rw [h5 h]
   exact h3.le hle
 ·by_cases h:id=i
  ·subst h
   exact hs.tot id _ hH rfl
  ·have h2:(m.H.set id (.row ty s n cs'))[i]?=some ob:=hob
   rw [gm h] at h2
   exact hs.tot i ob h2 hk
theorem Agh {m:Mm}:∀ {n:Nat} {xs:List Value},AP (DP m) (cVs (List.replicate n none)) xs→AP (DP m) (cVs ((List.replicate n ((0,0):Pq)).map some)) xs
 | 0,xs,h=>h
 | n+1,xs,h=>by
  have h:AP (DP m) (cV none++cVs (List.replicate n none)) xs:=h
  obtain ⟨a,x1,rfl,h1,q1⟩:=h.uncons
  obtain ⟨b,x2,rfl,h2,q2⟩:=q1.uncons
  obtain ⟨c,x3,rfl,h3,q3⟩:=q2.uncons
  show AP (DP m) ((dyP (0,0)).map C.d++cVs ((List.replicate n ((0,0):Pq)).map some)) (a::b::c::x3)
  rw [show dyP (0,0)=[.val (.bool false),.row false 1 0 [],.val (.int .i64 0)] from zdy.symm]
  exact .cons_ h1 (.cons_ (Avh (w:=m.w) (S:=m.S) h2) (.cons_ h3 (Agh q3)))
theorem Ajp (E:List Pq):cVs (E.map some)=(Ar dyP E).map C.d:=by
 rw [Avg,bw]
 rfl
theorem Apa (E:List Pq):gV (E.map some)=E:=by
 unfold gV
 rw [bw]
 exact (cw fun _ _=>rfl).trans (List.map_id E)
theorem Agi {t:Bool} {c:C} {y:D} {l:List Pq} (hc:c=.own id n) (hH:H[id]?=some (.row ty 3 n (cVs (l.map some)))) (hy:y=.row t 3 n (Ar dyP l)):FA t H c y:=Ur hc hH (by rw [Apa];exact hy)
theorem Aue (xs:List Int):cI xs=(xs.map dI).map C.d:=by simp [cI,dI]
theorem Lb (l:List Int):∀ d∈l.map dI,Dn d:=fun d hd=>by
 obtain ⟨z,_,rfl⟩:=List.mem_map.1 hd
 exact .val _
theorem Iy (l:List Pq):∀ d∈Ar dyP l,Dn d:=fun d hd=>Ce (f:=dyP) (fun p=>NV _ _) l d hd
theorem Zc {t:Bool} {c:C} {y:D} {l:List Int} (hc:c=.own id n) (hH:H[id]?=some (.row ty 1 n (cI l))) (hy:y=.row t 1 n (l.map dI)):FA t H c y:=by
 refine EI hc hH hy ?_
 rw [Aue]
 exact AP.map_l.2 ⟨rfl,fun j a b ha hb=>by
  rw [ha] at hb
  cases hb
  exact .d fun _=>Lb l a (gM ha)⟩
theorem Lc {t:Bool} {cs:List C} {ds:List D} (hc:cs=ds.map C.d) (h:∀ d∈ds,Dn d):AP (FA t H) cs ds:=by
 subst hc
 exact AP.map_l.2 ⟨rfl,fun j a b ha hb=>by rw [ha] at hb;cases hb;exact .d fun _=>h _ (gM ha)⟩
theorem UW {F:Frm} {ids:List Nat} {rows:List Nw} {t:Tmp} {ty' k:Nat} {cs:List C} {ys:List Yr} (hk:TyK P ty true k) (hF:F t=.one (.ref id 0 none)) (hH:H[id]?=some (.box ty' cs)) (hi:cs.length=k) (h:AP (YC ids rows) ys cs):RVT P F H ids rows (.cell t ty) (.agg ys):=by
 obtain ⟨⟨d,hu,hd⟩,hz⟩:=hk
 exact .cell hF hH hu hd (by rw [hz,hi]) h
theorem Ajq {k:Int} {x:Pq} (h:¬ Oz (pw k) x<0):AcS n k x=k:=by
 cases n with
 | zero=>rfl
 | succ n=>unfold AcS;rw [if_neg h]
theorem Zd {α:Type} {l:List α} {j:Nat} {i:α} (h:l[j]?=some i):l.drop j=i::l.drop (j+1):=by
 obtain ⟨hlt,he⟩:=gS.1 h
 rw [←he,←dm hlt]
def AcT (F:List Int) (k:Nat):List Int:=Acl (F.take k)++F.drop k
theorem Ajr (F:List Int) (k:Nat):(AcT F k).length=F.length:=by
 unfold AcT Acl
 rw [aq,ad,←aq,gh]
theorem Apb {k:Nat} {f:Int} (h:F[k]?=some f):(AcT F k)[k]?=some f∧(AcT F k).set k (ApT f)=AcT F (k+1)∧Agb (F.take (k+1))=(Agb (F.take k) || decide (0<f)):=by
 have hk:=(gS.1 h).1
 have hl:(Acl (F.take k)).length=k:=by unfold Acl;rw [ad,cj];omega
 have e:F.take (k+1)=F.take k++[f]:=by rw [ak,h];rfl
 refine ⟨?_,?_,?_⟩
 ·unfold AcT
  rw [dt (by omega),hl,em,cn,dv]
  exact h
 ·unfold AcT
  rw [List.set_append_right _ _ (by omega),hl,em,Zd h,e]
  unfold Acl
  rw [ct,jl]
  rfl
 ·rw [e]
  unfold Agb
  rw [List.any_append]
  simp
def chW (n:Nat) (b:Bool) (F:List Int):List Nw:=if b=true then [⟨3,1,n,F.map dI⟩] else []
def chY (n:Nat) (b:Bool):YR:=if b=true then .tup [.one (.own 0 n),.one (.d (.val (EK 0)))] else .tup [.one (.d (.val (.slice none 0 0))),.one (.d (.val (EK 4)))]
def erW (n:Nat):Option (List Pq)→List Nw
 | none=>[]
 | some E=>[⟨43,3,n,Ar dyP E⟩]
def erY (n:Nat):Option (List Pq)→YR
 | none=>.tup [.one (.d (.val (.slice none 0 0))),.one (.d (.val (.bool false)))]
 | some _=>.tup [.one (.own 0 n),.one (.d (.val (.bool true)))]
def mkW (n:Nat):Option Ct→List Nw
 | none=>[]
 | some c=>[⟨3,1,n,c.F.map dI⟩,⟨43,3,n,Ar dyP c.E⟩]
def mkY (n:Nat):Option Ct→YR
 | none=>.tup [.agg [.d (.val (.slice none 0 0)),.d (.val (.slice none 0 0)),.d (.val (.slice none 0 0))],.one (.d (.val (.bool false))),.one (.d (.val (EK 0)))]
 | some c=>.tup [.agg [.own 0 n,.d (.row false 6 n (Ar (dIw false) c.R)),.own 1 n],.one (.d (.val (.bool true))),.one (.d (.val (EK 0)))]
theorem Acm (x:Pq) (sx:Sm x 40064 62):CV prog An 92 [aDy false x.1 x.2] [aDy false (Aga x).1 (Aga x).2]:=by
 refine cvz func92 ntmps92 ?_
 have U0:=Rl 62 (by decide) (by decide)
 repeat' (with_reducible first|refine qq ?_|(refine Tx 0 ?_;refine gN xBo <| gN (xAl Ak) ?_)|(refine Tx 1 ?_;refine gO (xCl func134 (U0)) <| gN (xAl Ak) <| gZ (xSk Ab) ?_))
 refine AY (Bz 3) (Aq (fun n Fr H=>∃ k:Int,-62≤k∧k≤40064∧40064≤k+n∧AcS n k x=AcS 50000 (-62) x∧Fr=ofL [(1,vr 0),(2,vr 1),(3,vr 2)]∧H=[.box 43 ((dyP x).map C.d),.box 43 [.d (.val (.bool false)),.d (.val (.slice none 0 0)),.d (.val (.int .i64 0))],.box 43 ((dyP (pw k)).map C.d)]) (n0:=50000) ⟨-62,by decide,by decide,by decide,rfl,rfl,rfl⟩ ?_)
 rintro n Fr H ⟨k,k0,k1,kn,hres,rfl,rfl⟩
 have sp:=Xq k0 k1
 have st:=AaJ sx k0 k1
 have nx:=fun h=>AoY (k:=k) k0 h
 have hstop:=Ajq (n:=n) (k:=k) (x:=x)
 have CM:=Ck (pw k).1 (pw k).2 x.1 x.2 sp.ok sx.ok sp.lz sx.lz
 have SH:=Bj (pw k).1 (pw k).2 1 sp.ok sp.lz (by have:=sp.d;omega)
 have hqe:Oz (pw k) x=Cf (pw k).1 (pw k).2 x.1 x.2:=rfl
 by_cases hc:Oz (pw k) x<0
 case pos =>
  have k2:=st hc
  rw [show Ac (pw k).1 (pw k).2 1=pw (k+1) from nx (by omega)] at SH
  cases n
  case zero=>omega
  rename_i n
  rw [show AcS (n+1) k x=AcS n (k+1) x by rw [AcS,if_pos hc]] at hres
  rw [hqe] at hc
  clear st nx hstop hqe sp
  generalize Cf (pw k).1 (pw k).2 x.1 x.2=q at *
  generalize pw k=p at *
  repeat' (with_reducible first|refine qq ?_|(refine Tx 2 ?_;refine gO xL <| gO xL <| gO (xCl func9 (CM)) <| gO xLt ?_)|(refine Tx 3 ?_;refine gO xL <| gO (xCl func27 (SH)) <| gZ (xSk Ab) ?_))
  refine ⟨_,_,Bz 3,_,?_,k+1,by omega,by omega,by omega,hres,rfl,rfl⟩
  ·omega
 rw [show Aga x=pw k by unfold Aga;rw [←hres,hstop hc]]
 rw [hqe] at hc
 clear st nx hstop hqe sp SH
 generalize Cf (pw k).1 (pw k).2 x.1 x.2=q at *
 generalize pw k=p at *
 repeat' (with_reducible first|refine qq ?_|(refine Tx 2 ?_;refine gO xL <| gO xL <| gO (xCl func9 (CM)) <| gO xLt ?_)|(refine Tx 4 ?_;refine gO xL <| gZ (xSk Ab) ?_))
 exact DT
theorem Avi (a:Iq) (f m:Int) (h:IwS a LB LB) (f0:0≤f) (f1:f≤30) (m0:0≤m) (m1:m≤2147483647):CV prog An 88 [aIw false a,aI f,aI m] [aB (wiB a f m)]:=by
 refine cvz func88 ntmps88 ?_
 have MG:=MP a (h.more LBx LBx)
 have sg:=Tm h
 obtain ⟨M,hM⟩:∃ M,Lo a=M:=⟨_,rfl⟩
 rw [hM] at MG sg
 have SH:=Bj M.1 M.2 f sg.ok sg.lz (by have:=sg.ok.1;omega)
 have st:=MR sg f0 f1
 obtain ⟨T,hT⟩:∃ T,MJ M f=T:=⟨_,rfl⟩
 rw [hT] at st
 rw [show Ac M.1 M.2 f=T from hT] at SH
 have OF:=Fg m (by omega) (by omega)
 have CM:=Ck T.1 T.2 m 0 st.ok ⟨by decide,fun h=>absurd rfl h⟩ st.lz (lT (AC (k:=2) (by omega)) (by decide))
 rw [show wiB a f m=decide (Cf T.1 T.2 m 0≤0) by unfold wiB;rw [hM,hT]]
 generalize Cf T.1 T.2 m 0=q at *
 repeat' (with_reducible first|refine qq ?_|(refine Tx 0 ?_;refine gN xBo <| gO xA ?_)|(refine Tx 1 ?_;refine gO xL <| gO (xCl func151 (MG)) <| gO xM <| gO (xCl func27 (SH)) <| gO xM <| gO (xCl func123 (OF)) <| gO (xCl func9 (CM)) <| gO xLe <| gO xA ?_))
 exact Tp
theorem Ajs (t:Bool) {ps:List Prt} {bs:List Bk} {os:List Int} (hl:EF ps bs os) (h0:Av ps bs os=0) (R:List Iq) (hR:R.length=bs.length) (sR:∀ p∈R,IwS p LB LB):CV prog An 87 [aDg t ps bs os,.one (.row false 6 R.length (Ar (dIw false) R))] [aE 0]:=by
 refine cvz func87 ntmps87 ?_
 have CK:=(QK t hl (ps:=ps) (bs:=bs) (os:=os)).cv
 rw [h0] at CK
 have hn:=hl.l2
 repeat' (with_reducible first|refine qq ?_|(refine Tx 0 ?_;refine gN xBo <| gO xA ?_)|(refine Tx 1 ?_;refine gO xL <| gO (xCl func22 (CK)) <| gO xA ?_)|(refine Tx 2 ?_;refine gO xM <| gO (xNE Ag) ?_)|(refine Tx 4 ?_;refine gO xM <| gO xN <| gO xF <| gO xD <| gO xN <| gO xNe ?_)|(refine Tx 6 ?_;refine gO xM <| gO xN <| gO xM ?_))
 refine AY (Bz 1) (Aq (fun n Fr H=>∃ k:Nat,k≤R.length∧n=R.length - k∧Fr=ofL [(2,vr 0),(20,vd (.row false 6 R.length (Ar (dIw false) R))),(21,vi R.length),(22,vi ((k:Nat)))]∧H=[.box 26 [.d (CU t ps),.d (Dw t bs),.d (AM t os)]]) (n0:=R.length) ⟨0,af _,rfl,rfl,rfl⟩ ?_)
 rintro n Fr H ⟨k,hk,rfl,rfl,rfl⟩
 by_cases hlt:k<R.length
 case pos =>
  obtain ⟨b,hb⟩:∃ b,R[k]?=some b:=⟨_,gE hlt⟩
  have sb:=sR b (gM hb)
  have VI:CV prog An 57 [aIw false b] [aB true]:=by
   have:=Oa (Ew b.1) (Ew b.2) (OD sb.s1 (by decide)) (OD sb.s2 (by decide))
   rw [Afq sb] at this
   have e:dIr false (Ew b.1,Ew b.2)=dIw false b:=by show dRv false (Ew b.1)++dRv false (Ew b.2)=_;rw [QY,QY];rfl
   rw [e] at this
   exact this
  repeat' (with_reducible first|refine qq ?_|(refine Tx 7 ?_;refine gO xLt ?_)|(refine Tx 8 ?_;refine gO (xIr Ah (GZ hb)) <| gO xL <| gN (xAl Am) <| gZ (xSk Ae) ?_)|(refine Tx 9 ?_;refine gO xL <| gO (xCl func57 (VI)) <| gO Fy ?_)|(refine Tx 11 ?_;refine gO xAd <| gO xM ?_))
  refine ⟨_,_,Bz 1,_,by omega,k+1,by omega,rfl,rfl,rfl⟩
 obtain rfl:k=R.length:=by omega
 repeat' (with_reducible first|refine qq ?_|(refine Tx 7 ?_;refine gO xLt ?_)|(refine Tx 12 ?_;refine gO xA ?_))
 exact AN rfl (.cons_ (Fv rfl rfl) .nil_)
theorem Acn (t:Bool) {ps:List Prt} {bs:List Bk} {os:List Int} (hl:EF ps bs os) (h0:Av ps bs os=0) (R:List Iq) (hR:R.length=bs.length) (sR:∀ p∈R,IwS p LB LB):CVN prog An 39 [aDg t ps bs os,.one (.row false 6 R.length (Ar (dIw false) R))] (chW R.length (R.all pkB) (R.map pkS)) (chY R.length (R.all pkB)):=by
 refine Agd TX func39 rfl ntmps39 (bl rfl) ?_
 have GC:=Ajs t hl h0 R hR sR
 have hn:=hl.l2
 repeat' (with_reducible first|refine qq ?_|(refine Tx 0 ?_;refine gN xBo <| gO xA <| gO xA ?_)|(refine Tx 1 ?_;refine gO xL <| gO xM <| gO (xCl func87 (GC)) <| gO xA ?_)|(refine Tx 2 ?_;refine gO xM <| gO (xNE Ag) ?_)|(refine Tx 4 ?_;refine gO xA ?_))
 refine AY (Mp 7 3 1 rfl) ?_
 repeat' (with_reducible first|refine qq ?_|(refine Tx 5 ?_;refine gO xM <| gO xN <| gO xM ?_))
 refine AY (Bz 2) (Aq (fun n Fr H=>∃ k:Nat,k≤R.length∧n=R.length - k∧(∀ p∈R.take k,pkB p=true)∧Fr=ofL [(2,vr 0),(7,vo 1 (k)),(17,vd (.row false 6 R.length (Ar (dIw false) R))),(18,vi R.length),(19,vi ((k:Nat)))]∧H=[.box 26 [.d (CU t ps),.d (Dw t bs),.d (AM t os)],.row 3 1 (k) (cI ((R.map pkS).take (k)))]) (n0:=R.length) ⟨0,af _,rfl,(fun p hp=>by simp at hp),rfl,rfl⟩ ?_)
 rintro n Fr H ⟨k,hk,rfl,hal,rfl,rfl⟩
 by_cases hlt:k<R.length
 case pos =>
  obtain ⟨b,hb⟩:∃ b,R[k]?=some b:=⟨_,gE hlt⟩
  have sb:=sR b (gM hb)
  repeat' (with_reducible first|refine qq ?_|(refine Tx 6 ?_;refine gO xLt ?_)|(refine Tx 7 ?_;refine gO (xIr Ah (GZ hb)) <| gO xL <| gN (xAl Am) <| gZ (xSk Ae) ?_)|(refine Tx 8 ?_;refine gO xA ?_))
  refine AY (Bz 3) (Aq (fun n Fr H=>n≤31∧pkF b n=pkS b∧Fr=ofL [(2,vr 0),(7,vo 1 (k)),(17,vd (.row false 6 R.length (Ar (dIw false) R))),(18,vi R.length),(19,vi ((k:Nat))),(9,vr 2),(10,vi (((n:Nat):Int) - 1))]∧H=[.box 26 [.d (CU t ps),.d (Dw t bs),.d (AM t os)],.row 3 1 (k) (cI ((R.map pkS).take (k))),.box 45 ((dIw false b).map C.d)]) (n0:=31) ⟨aa _,rfl,rfl,rfl⟩ ?_)
  rintro n Fr H ⟨hn31,hpk,rfl,rfl⟩
  cases n
  case zero =>
   have hpk:(-1:Int)=pkS b:=hpk
   have hnb:R.all pkB=false:=AkU hb (decide_eq_false (by omega))
   rw [show chW R.length (R.all pkB) (R.map pkS)=[] by rw [hnb];rfl,show chY R.length (R.all pkB)=.tup [.one (.d (.val (.slice none 0 0))),.one (.d (.val (EK 4)))] by rw [hnb];rfl]
   repeat' (with_reducible first|refine qq ?_|(refine Tx 9 ?_;refine gO xM <| gO xGe <| gO xM ?_;(first|iterate 2 refine Jd ?_|(refine Jy (xLa Ae) ?_;refine Jy xM1 ?_));refine Jd ?_;(first|refine Jd ?_|refine Jy Fy ?_);refine gO xPk ?_)|(refine Tx 11 ?_;refine gO xM <| gO xLt ?_)|(refine Tx 12 ?_;refine gO (xMi underlying85) <| gO xA <| gO xA ?_))
   exact ⟨.inl rfl,[],by decide,.nil_,.tup (congrArg Array.toList results39) (.cons_ (.tmp rfl ⟨rfl,.val _⟩) (.cons_ (.tmp rfl ⟨rfl,.val _⟩) .nil_))⟩
  rename_i n
  have WI:=Avi b ((n+1:Nat) - 1:Int) 1073741824 sb (by omega) (by omega) (by decide) (by decide)
  have hpk:(if wiB b (n:Int) 1073741824=true then (n:Int) else pkF b n)=pkS b:=hpk
  have hne:(((n+1:Nat):Int) - 1)=(n:Int):=by omega
  rw [hne] at WI
  cases hw:wiB b (n:Int) 1073741824
  case false =>
   rw [hw] at WI hpk
   rw [if_neg (by decide)] at hpk
   rw [hne]
   repeat' (with_reducible first|refine qq ?_|(refine Tx 9 ?_;refine gO xM <| gO xGe <| gO xM ?_;(first|iterate 4 refine Jd ?_|(refine Jy (xLa Ae) ?_;refine Jy xM1 ?_;refine Jy (xCl func88 (WI)) ?_;refine Jy Fy ?_));refine gO xPk ?_)|(refine Tx 10 ?_;refine gO xM <| gO xSb <| gO xA ?_))
   refine ⟨_,_,Bz 3,n,by omega,by omega,hpk,rfl,rfl⟩
  rw [hw] at WI hpk
  rw [if_pos rfl] at hpk
  have hpb:pkB b=true:=decide_eq_true (by omega)
  have hmp:(R.map pkS)[k]?=some (n:Int):=by rw [ag,hb,hpk];rfl
  have hap:((R.map pkS).take (k))++[(n:Int)]=((R.map pkS).take (k+1)):=by rw [ak,hmp];rfl
  rw [hne]
  repeat' (with_reducible first|refine qq ?_|(refine Tx 9 ?_;refine gO xM <| gO xGe <| gO xM ?_;(first|iterate 4 refine Jd ?_|(refine Jy (xLa Ae) ?_;refine Jy xM1 ?_;refine Jy (xCl func88 (WI)) ?_;refine Jy Fy ?_));refine gO xPk ?_)|(refine Tx 11 ?_;refine gO xM <| gO xLt ?_)|(refine Tx 13 ?_;refine gO xM <| gO xM <| gN (by exact AZ rfl Aa BK rfl rfl (by decide) (by decide)) <| gT (by exact Qw rfl rfl rfl rfl rfl rfl Aa BK (by omega) (by decide) hap rfl) <| gO xA ?_)|(refine Tx 14 ?_;refine gO xAd <| gO xM ?_))
  refine ⟨_,_,Bz 2,_,by omega,k+1,by omega,rfl,Ev hal hb hpb,rfl,rfl⟩
 obtain rfl:k=R.length:=by omega
 rw [az] at hal
 have hall:R.all pkB=true:=List.all_eq_true.2 hal
 rw [show chW R.length (R.all pkB) (R.map pkS)=[⟨3,1,R.length,(R.map pkS).map dI⟩] by rw [hall];rfl,show chY R.length (R.all pkB)=.tup [.one (.own 0 R.length),.one (.d (.val (EK 0)))] by rw [hall];rfl]
 have hT:(R.map pkS).take R.length=R.map pkS:=am (by rw [ad];exact aa _)
 rw [hT]
 repeat' (with_reducible first|refine qq ?_|(refine Tx 6 ?_;refine gO xLt ?_)|(refine Tx 15 ?_;refine gO xM <| gO xA <| gO xA ?_))
 exact ⟨.inl rfl,[1],by decide,.cons_ ⟨congrArg some (congrArg (Ob.row _ 1 _) (Aue _)),Lb _⟩ .nil_,.tup (congrArg Array.toList results39) (.cons_ (.tmp rfl ⟨1,_,rfl,rfl,rfl,rfl⟩) (.cons_ (.tmp rfl ⟨rfl,.val _⟩) .nil_))⟩
theorem Atj (h:p:=by first|exact xIr Aa (AF (Ij hi))|exact xIo (i:=i) Aa):p:=h
theorem Apc (h:p:=by first|exact AkB rfl rfl rfl rfl Ab tl stV|exact xSk Ab):p:=h
theorem Atk (h:p:=by first|exact Aad rfl rfl rfl ldV Ab|exact xLa DY):p:=h
theorem UX (h:p:=by first|exact Aad rfl rfl rfl ldV Ab|exact xLa Ab):p:=h
theorem Atl (h:p:=by first|exact Aad rfl rfl rfl ldV Ab|exact xLa EB):p:=h
theorem Ali (k:p') (h:Hd9 p'→p:=by with_reducible first|(intro Z9;refine Tx 8 ?_;refine gO Atj <| gO xD <| gO xA ?_;exact Z9.o)|(intro Z9;refine Tx 9 ?_;refine gO xM <| gO xM <| gO Atk <| gO Atl <| gO xM <| gO xM <| gO (xCl func62 BD (ha:=by with_unfolding_all first|((repeat' first|exact BM rfl rfl|refine AX rfl rfl ?_ ?_|refine FH rfl rfl ?_|refine Dt rfl rfl ?_|exact Bp rfl (fun h=>by cases h)|exact Agi rfl rfl rfl) <;> fail)|fail)) <| gO (xCl func89 (UP)) <| gO (xIo (i:=i) Af) <| gZ Apc ?_;exact Z9.o)|(intro Z9;refine Tx 10 ?_;refine gO xM <| gO xM <| gO (xIo (i:=i) Af) <| gO UX <| gO (xCl func90 (FR)) ?_;exact Z9.o)|fail):p:=h ⟨k⟩
theorem Xt (k:p') (h:Hd9 p'→p:=by with_reducible first|(intro Z9;refine Tx 15 ?_;refine gO Atj <| gO xD <| gO xA ?_;exact Z9.o)|(intro Z9;refine AE (id:=16) 12 AJ (by kernel_rfl) ?_;dsimp only [List.take,List.drop];refine gP xM <| gP xM <| gP (xIo (i:=i) Af) <| gP UX <| gP Atk <| gP Atl <| gP xM <| gP xM <| gP (xCl func62 BD (ha:=by with_unfolding_all first|((repeat' first|exact BM rfl rfl|refine AX rfl rfl ?_ ?_|refine FH rfl rfl ?_|refine Dt rfl rfl ?_|exact Bp rfl (fun h=>by cases h)|exact Agi rfl rfl rfl) <;> fail)|fail)) <| gP (xCl func89 (UP)) <| gP (xCl func91 (MX)) <| gQ (xAl Ak) ?_;refine Ke ?_;refine gZ (xSk Ab) ?_;exact Z9.o)|(intro Z9;refine BB (id:=17) AJ (by kernel_rfl) ?_;refine gP UX <| gP xM <| gP xM <| gP (xIo (i:=i) Af) <| gP UX <| gP (xCl func9 (CM)) <| gP xEq ?_;refine Ke ?_;exact Z9.o)|fail):p:=h ⟨k⟩
theorem AaM (k:p') (h:Hd9 p'→p:=by with_reducible first|(intro Z9;refine Tx 18 ?_;refine gO xA ?_;exact Z9.o)|(intro Z9;refine Tx 19 ?_;refine gO xM <| gO xGe ?_;exact Z9.o)|(intro Z9;refine Tx 21 ?_;refine gO UX <| gO (xCl func90 (FR)) ?_;exact Z9.o)|fail):p:=h ⟨k⟩
theorem AaN (h:p:=by
 exact ⟨.inl rfl,[],by decide,.nil_,.tup (congrArg Array.toList results40) (.cons_ (.tmp rfl ⟨rfl,.val _⟩) (.cons_ (.tmp rfl ⟨rfl,.val _⟩) .nil_))⟩):p:=h
theorem Alj (h:p:=by
 refine ⟨_,_,TN _ 3 ?_ ?_ ?_,_,by omega,j+1,_,_,by omega,rfl,ho,hE.set (AaI sX nX hf) nX i,rfl,rfl⟩
 ·rfl
 ·exact mB rfl rfl
 ·exact ⟨DG rfl,DG rfl,AeR,trivial⟩):p:=h
theorem Xu (t:Bool) {ps:List Prt} {bs:List Bk} {os:List Int} (hl:EF ps bs os) (h0:Av ps bs os=0) (c:Ct) (xd:D) (hF:Ajn bs c.F) (hR:c.R.length=bs.length) (sR:∀ p∈c.R,IwS p LB LB) {res:Option (List Pq)} (hres:erA ps bs c.F c.R=res):CVN prog An 40 [aDg t ps bs os,.agg (dCx true c xd),.one (AM false (Br (Bb bs))),.one (AM false (Br (AW bs)))] (erW bs.length res) (erY bs.length res):=by
 refine Agd TX func40 rfl ntmps40 (bl rfl) ?_
 have hn:=hl.l2
 have hpn:=hl.l1
 have hnl:=Cb (AW bs)
 have hol:=Cb (Bb bs)
 have hob:=Up (bs:=bs)
 have hdb:=NY bs
 repeat' (with_reducible first|refine qq ?_|(refine Tx 0 ?_;refine gN xBo <| gN xBo <| gO xA <| gO xA ?_)|(refine Tx 1 ?_;refine gO xF <| gO xD <| gO xN <| gN (by first|exact Aac (n:=bs.length) rfl rfl rfl Af Ak (by omega) (by decide)|exact Bo rfl rfl rfl Af Ak (by omega) (by decide)) <| gO xA ?_)|(refine Tx 2 ?_;refine gO xM ?_))
 refine AY (Ajo 2 rfl fun _ _=>Agh) ?_
 refine AY (Bz 3) (Aq (fun n Fr H=>∃ (r:Nat) (E:List Pq),r+n=128∧erR ps bs c.F c.R n r E=res∧PN bs E∧Fr=ofL [(2,vd (AM false (Br (Bb bs)))),(3,vd (AM false (Br (AW bs)))),(4,vr 0),(5,vr 1),(10,vo 2 bs.length),(22,vi ((r:Nat)))]∧H=[.box 26 [.d (CU t ps),.d (Dw t bs),.d (AM t os)],.box 30 [.d (AM true c.F),.d (.row false 6 c.R.length (Ar (dIw false) c.R)),.d xd],.row 43 3 bs.length (cVs (E.map some))]) (n0:=128) ⟨0,_,rfl,hres,.zero bs,rfl,rfl⟩ ?_)
 clear hres
 rintro n Fr H ⟨r,E,hrn,hres,hE,rfl,rfl⟩
 cases n
 case zero =>
  have hres:none=res:=hres
  subst hres
  repeat' (with_reducible first|refine qq ?_|(refine Tx 3 ?_;refine gO xLt ?_)|(refine Tx 28 ?_;refine gO xA <| gO xA ?_))
  exact AaN
 rename_i m
 unfold erR at hres
 obtain ⟨o,ho⟩:∃ o,erO ps bs c.F c.R (Bb bs) E=o:=⟨_,rfl⟩
 rw [ho] at hres
 repeat' (with_reducible first|refine qq ?_|(refine Tx 3 ?_;refine gO xLt ?_)|(refine Tx 4 ?_;refine gO xM <| gO xA ?_)|(refine Tx 5 ?_;refine gO xA ?_)|(refine Tx 6 ?_;refine gO xM <| gO xN <| gO xM ?_))
 refine AY (Bz 3 (h:=by rw [←hol];exact mB rfl rfl)) (Aq (fun n Fr H=>∃ (j:Nat) (E:List Pq),j≤(Bb bs).length∧n=(Bb bs).length - j∧erO ps bs c.F c.R ((Bb bs).drop j) E=o∧PN bs E∧Fr=ofL [(2,vd (AM false (Br (Bb bs)))),(3,vd (AM false (Br (AW bs)))),(4,vr 0),(5,vr 1),(10,vo 2 bs.length),(11,vi ((r:Nat))),(12,vd (.val (.bool false))),(22,vi ((r:Nat))),(25,vd (AM false (Br (Bb bs)))),(26,vi ((Bb bs).length)),(27,vi ((j:Nat)))]∧H=[.box 26 [.d (CU t ps),.d (Dw t bs),.d (AM t os)],.box 30 [.d (AM true c.F),.d (.row false 6 c.R.length (Ar (dIw false) c.R)),.d xd],.row 43 3 bs.length (cVs (E.map some))]) (n0:=(Bb bs).length) ⟨0,E,af _,rfl,ho,hE,rfl,rfl⟩ ?_)
 clear ho hE
 rintro n Fr H ⟨j,E,hj,rfl,ho,hE,rfl,rfl⟩
 by_cases hlj:j<(Bb bs).length
 case pos =>
  obtain ⟨i,hi⟩:∃ i,(Bb bs)[j]?=some i:=⟨_,gE hlj⟩
  have hil:=(FP hi).1
  obtain ⟨y,hy⟩:∃ y,bs[i]?=some y:=⟨_,gE hil⟩
  have B:=AfS h0 hy
  have hs2:=hF.sc i hil
  have hsa:y.kind≠0→∀ a∈y.args,0≤sG c.F a∧sG c.F a≤30:=fun k0 a ha=>by have:=B.all k0 a ha;exact hF.sc a.toNat (by omega)
  have BD:=Ok true xd t true os c E hE.len (AoR hE.sm) i hy B hF.len hR sR hn hpn hs2 hsa
  unfold Ajl at BD
  rw [hE.len] at BD
  obtain ⟨sb,sx,nx⟩:=AaK h0 hy hs2 sR hE
  have UP:=AfU _ (sb.more (by decide) (by decide))
  have hB:erB ps bs c.F c.R E i=upQ (Bu ps c.F c.R E y (scA c.F i)):=by unfold erB;rw [Gf hy]
  rw [←hB] at UP
  rw [Zd hi] at ho
  have tl:i<(E.map some).length:=by rw [ad,hE.len];exact hil
  unfold erO at ho
  have FR:=AaE (erB ps bs c.F c.R E i) (sx.more (by decide) (by decide))
  have stV:(E.map some).set i (some (erB ps bs c.F c.R E i))=(E.set i (erB ps bs c.F c.R E i)).map some:=(gj ..).symm
  have ldV:((E.set i (erB ps bs c.F c.R E i)).map some)[i]?=some (some (erB ps bs c.F c.R E i)):=by rw [ag,ed (by rw [hE.len];exact hil)];rfl
  clear hB hs2 hsa B sb
  generalize Bu ps c.F c.R E y (scA c.F i)=b at *
  generalize erB ps bs c.F c.R E i=x at *
  cases hf:Ahj x
  case true =>
   rw [hf] at FR ho
   rw [if_pos rfl] at ho
   subst ho
   have hres:none=res:=hres
   subst hres
   repeat' (with_reducible first|refine qq ?_|(refine Tx 7 ?_;refine gO xLt ?_)|refine Ali ?_|(refine Tx 11 ?_;refine gO xA <| gO xA ?_))
   exact AaN
  rw [hf] at FR ho
  rw [if_neg (by decide)] at ho
  repeat' (with_reducible first|refine qq ?_|(refine Tx 7 ?_;refine gO xLt ?_)|refine Ali ?_|(refine Tx 12 ?_;refine gO xAd <| gO xM ?_))
  refine ⟨_,_,Bz 3,_,by omega,j+1,_,by omega,rfl,ho,hE.set (AaI sx nx hf) nx i,rfl,rfl⟩
 obtain rfl:j=(Bb bs).length:=by omega
 clear hlj hj
 rw [jt] at ho
 have ho:some E=o:=ho
 subst ho
 dsimp only at hres
 obtain ⟨w,hw⟩:∃ w,decide (64≤r)=w:=⟨_,rfl⟩
 rw [hw] at hres
 obtain ⟨o,ho⟩:∃ o,erD ps bs c.F c.R w (AW bs) E false=o:=⟨_,rfl⟩
 rw [ho] at hres
 repeat' (with_reducible first|refine qq ?_|(refine Tx 7 ?_;refine gO xLt ?_)|(refine Tx 13 ?_;refine gO xM <| gO xN <| gO xM ?_))
 refine AY (Bz 3 (h:=by rw [←hnl];exact mB rfl rfl)) (Aq (fun n Fr H=>∃ (j:Nat) (E:List Pq) (b:Bool),j≤(AW bs).length∧n=(AW bs).length - j∧erD ps bs c.F c.R w ((AW bs).drop j) E b=o∧PN bs E∧Fr=ofL [(2,vd (AM false (Br (Bb bs)))),(3,vd (AM false (Br (AW bs)))),(4,vr 0),(5,vr 1),(10,vo 2 bs.length),(11,vi ((r:Nat))),(12,vd (.val (.bool b))),(22,vi ((r:Nat))),(46,vd (AM false (Br (AW bs)))),(47,vi ((AW bs).length)),(48,vi ((j:Nat)))]∧H=[.box 26 [.d (CU t ps),.d (Dw t bs),.d (AM t os)],.box 30 [.d (AM true c.F),.d (.row false 6 c.R.length (Ar (dIw false) c.R)),.d xd],.row 43 3 bs.length (cVs (E.map some))]) (n0:=(AW bs).length) ⟨0,E,false,af _,rfl,ho,hE,rfl,rfl⟩ ?_)
 clear ho hE
 rintro n Fr H ⟨j,E,b,hj,rfl,ho,hE,rfl,rfl⟩
 by_cases hlj:j<(AW bs).length
 case pos =>
  obtain ⟨i,hi⟩:∃ i,(AW bs)[j]?=some i:=⟨_,gE hlj⟩
  have hil:=(FS hi).1
  obtain ⟨y,hy⟩:∃ y,bs[i]?=some y:=⟨_,gE hil⟩
  have B:=AfS h0 hy
  have hs2:=hF.sc i hil
  have hsa:y.kind≠0→∀ a∈y.args,0≤sG c.F a∧sG c.F a≤30:=fun k0 a ha=>by have:=B.all k0 a ha;exact hF.sc a.toNat (by omega)
  have BD:=Ok true xd t true os c E hE.len (AoR hE.sm) i hy B hF.len hR sR hn hpn hs2 hsa
  unfold Ajl at BD
  rw [hE.len] at BD
  obtain ⟨sb,sx,nx⟩:=AaK h0 hy hs2 sR hE
  have UP:=AfU _ (sb.more (by decide) (by decide))
  have hB:erB ps bs c.F c.R E i=upQ (Bu ps c.F c.R E y (scA c.F i)):=by unfold erB;rw [Gf hy]
  rw [←hB] at UP
  rw [Zd hi] at ho
  have tl:i<(E.map some).length:=by rw [ad,hE.len];exact hil
  obtain ⟨sM,nM⟩:=Ald h0 hy hs2 sR hE
  obtain ⟨sX,nX⟩:=Ale h0 hy hs2 sR hE w
  obtain ⟨se,_⟩:=hE.at_ i
  unfold erD at ho
  have hX:erX ps bs c.F c.R w E i=if w=true then Aga (erM ps bs c.F c.R E i) else erM ps bs c.F c.R E i:=rfl
  have ldV:(E.map some)[i]?=some (some (E[i]?.getD (0,0))):=by rw [ag,gE (by rw [hE.len];exact hil)];rfl
  have MX:=Ek (E[i]?.getD (0,0)).1 (E[i]?.getD (0,0)).2 (erB ps bs c.F c.R E i).1 (erB ps bs c.F c.R E i).2 se.ok sx.ok se.lz sx.lz
  rw [show Ft (E[i]?.getD (0,0)).1 (E[i]?.getD (0,0)).2 (erB ps bs c.F c.R E i).1 (erB ps bs c.F c.R E i).2=erM ps bs c.F c.R E i from rfl] at MX
  have CM:=Ck (erM ps bs c.F c.R E i).1 (erM ps bs c.F c.R E i).2 (E[i]?.getD (0,0)).1 (E[i]?.getD (0,0)).2 sM.ok se.ok sM.lz se.lz
  have hq:Oz (erM ps bs c.F c.R E i) (E[i]?.getD (0,0))=Cf (erM ps bs c.F c.R E i).1 (erM ps bs c.F c.R E i).2 (E[i]?.getD (0,0)).1 (E[i]?.getD (0,0)).2:=rfl
  rw [hq] at ho
  have FR:=AaE (erX ps bs c.F c.R w E i) (sX.more (by decide) (by decide))
  have stV:(E.map some).set i (some (erX ps bs c.F c.R w E i))=(E.set i (erX ps bs c.F c.R w E i)).map some:=(gj ..).symm
  have PW:=Acm (erM ps bs c.F c.R E i) sM
  clear hB hs2 hsa B sb hq
  generalize Cf (erM ps bs c.F c.R E i).1 (erM ps bs c.F c.R E i).2 (E[i]?.getD (0,0)).1 (E[i]?.getD (0,0)).2=q at *
  generalize Bu ps c.F c.R E y (scA c.F i)=bb at *
  generalize erX ps bs c.F c.R w E i=X at *
  generalize erM ps bs c.F c.R E i=M at *
  generalize erB ps bs c.F c.R E i=x at *
  generalize hee:E[i]?.getD (0,0)=e at *
  by_cases hc:q=0
  case pos =>
   rw [if_pos hc] at ho
   repeat' (with_reducible first|refine qq ?_|(refine Tx 14 ?_;refine gO xLt ?_)|refine Xt ?_|(refine Tx 24 ?_;refine gO xAd <| gO xM ?_))
   refine ⟨_,_,Bz 3,_,by omega,j+1,_,_,by omega,rfl,ho,hE,rfl,rfl⟩
  rw [if_neg hc] at ho
  cases w
  case false =>
   have hX:X=M:=hX
   subst hX
   have hw:=of_decide_eq_false hw
   cases hf:Ahj X
   case true =>
    rw [hf] at FR ho
    rw [if_pos rfl] at ho
    subst ho
    have hres:none=res:=hres
    subst hres
    repeat' (with_reducible first|refine qq ?_|(refine Tx 14 ?_;refine gO xLt ?_)|refine Xt ?_|refine AaM ?_|(refine Tx 22 ?_;refine gO xA <| gO xA ?_))
    exact AaN
   rw [hf] at FR ho
   rw [if_neg (by decide)] at ho
   repeat' (with_reducible first|refine qq ?_|(refine Tx 14 ?_;refine gO xLt ?_)|refine Xt ?_|refine AaM ?_|(refine Tx 23 ?_;refine gO xM <| gO xM <| gO UX <| gO (xIo (i:=i) Af) <| gZ Apc ?_)|(refine Tx 24 ?_;refine gO xAd <| gO xM ?_))
   exact Alj
  case true =>
   have hX:X=Aga M:=hX
   subst hX
   have hw:=of_decide_eq_true hw
   cases hf:Ahj (Aga M)
   case true =>
    rw [hf] at FR ho
    rw [if_pos rfl] at ho
    subst ho
    have hres:none=res:=hres
    subst hres
    repeat' (with_reducible first|refine qq ?_|(refine Tx 14 ?_;refine gO xLt ?_)|refine Xt ?_|refine AaM ?_|(refine Tx 20 ?_;refine gO UX <| gO (xCl func92 (PW)) <| gZ (xSk Ab) ?_)|(refine Tx 22 ?_;refine gO xA <| gO xA ?_))
    exact AaN
   rw [hf] at FR ho
   rw [if_neg (by decide)] at ho
   repeat' (with_reducible first|refine qq ?_|(refine Tx 14 ?_;refine gO xLt ?_)|refine Xt ?_|refine AaM ?_|(refine Tx 20 ?_;refine gO UX <| gO (xCl func92 (PW)) <| gZ (xSk Ab) ?_)|(refine Tx 23 ?_;refine gO xM <| gO xM <| gO UX <| gO (xIo (i:=i) Af) <| gZ Apc ?_)|(refine Tx 24 ?_;refine gO xAd <| gO xM ?_))
   exact Alj
 obtain rfl:j=(AW bs).length:=by omega
 clear hlj hj
 rw [jt] at ho
 have ho:some (E,b)=o:=ho
 subst ho
 dsimp only at hres
 cases b
 case false =>
  rw [if_neg (by decide)] at hres
  subst hres
  repeat' (with_reducible first|refine qq ?_|(refine Tx 14 ?_;refine gO xLt ?_)|(refine Tx 25 ?_;refine gO xM <| gO Fy ?_)|(refine Tx 26 ?_;refine gO xM <| gO xA <| gO xA ?_))
  exact ⟨.inl rfl,[2],by decide,.cons_ ⟨congrArg some (congrArg (Ob.row _ 3 _) (Ajp _)),Iy _⟩ .nil_,.tup (congrArg Array.toList results40) (.cons_ (.tmp rfl ⟨2,_,rfl,rfl,rfl,rfl⟩) (.cons_ (.tmp rfl ⟨rfl,.val _⟩) .nil_))⟩
 rw [if_pos rfl] at hres
 repeat' (with_reducible first|refine qq ?_|(refine Tx 14 ?_;refine gO xLt ?_)|(refine Tx 25 ?_;refine gO xM <| gO Fy ?_)|(refine Tx 27 ?_;refine gO xAd <| gO xM ?_))
 refine ⟨_,_,Bz 3,m,by omega,r+1,E,by omega,hres,hE,rfl,rfl⟩
theorem Ajt {xs:List Int} {k:Nat} {z:Int} (h:xs[k]?=some z):xs.set k z=xs:=by
 refine fk fun q=>?_
 rw [bu]
 split
 ·rename_i hq;subst hq;rw [if_pos (gS.1 h).1];exact h.symm
 ·rfl
theorem Agj (h:∀ f∈F,f≤((n+1:Nat):Int) - 1) (hl:Agb F=true):1≤n:=by
 obtain ⟨f,hf,hp⟩:=List.any_eq_true.1 hl
 have:=h f hf
 have:=of_decide_eq_true hp
 omega
theorem Atm (h:∀ f∈F,f≤((n+1:Nat):Int) - 1) (n1:1≤n):∀ f∈Acl F,f≤(n:Int) - 1:=fun f hf=>by
 obtain ⟨g,hg,rfl⟩:=List.mem_map.1 hf
 have:=h g hg
 unfold ApT
 split <;> omega
theorem Agk (k:p') (h:Hd9 p'→p:=by with_reducible first|(intro Z9;refine Tx 0 ?_;refine gN xBo <| gN (xAl TK) <| gO xA <| gO xA ?_;exact Z9.o)|(intro Z9;refine Tx 1 ?_;refine gO xL <| gO (xCl func35 (OC)) <| gO xMt <| gO xEx <| gO xEx <| gO xA <| gO xA ?_;exact Z9.o)|(intro Z9;refine Tx 2 ?_;refine gO xM <| gO (xNE Ag) ?_;exact Z9.o)|(intro Z9;refine Tx 4 ?_;refine gO xL <| gO (xCl func36 (DC)) <| gO xMt <| gO xEx <| gO xEx <| gO xA <| gO xA ?_;exact Z9.o)|(intro Z9;refine Tx 5 ?_;refine gO xM <| gO (xNE Ag) ?_;exact Z9.o)|(intro Z9;refine Tx 7 ?_;refine gO xM <| gO xLt <| gO xM ?_;(first|iterate 2 refine Jd ?_|(refine Jy xM1 ?_;refine Jy xGt ?_));refine gO xPk ?_;exact Z9.o)|(intro Z9;refine Tx 9 ?_;refine gO xL <| gO xM <| gO (xCl func37 (RI)) <| gO xMt <| gO xEx <| gO xEx <| gO xA <| gO xA ?_;exact Z9.o)|fail):p:=h ⟨k⟩
theorem Aju (h:p:=by first|exact AaL rfl rfl rfl|exact xEx):p:=h
theorem Alk (k:p') (h:Hd9 p'→p:=by with_reducible first|(intro Z9;refine Tx 10 ?_;refine gO xM <| gO (xNE Ag) ?_;exact Z9.o)|(intro Z9;refine Tx 12 ?_;refine gN (xAl TK) ?_;exact Z9.o)|(intro Z9;refine Tx 13 ?_;refine gO xL <| gO xM <| gO (xCl func38 (EV)) <| gO xMt <| gO xEx <| gO xEx <| gO xF <| gZ (by first|exact xS1 Bh|exact xSk Bh) <| gO xA ?_;exact Z9.o)|(intro Z9;refine Tx 14 ?_;refine gO xM <| gO (xNE Ag) ?_;exact Z9.o)|(intro Z9;refine Tx 16 ?_;refine gO xL <| gO xF <| gO xD ?_;refine Jl (by exact UU rfl func39 (by kernel_rfl) (by with_unfolding_all exact rfl) CH (by with_unfolding_all first|((repeat' first|exact BM rfl rfl|refine AX rfl rfl ?_ ?_|refine FH rfl rfl ?_|refine Dt rfl rfl ?_|exact Bp rfl (fun h=>by cases h)|fail) <;> fail)|fail)) ?_;refine gO (by first|exact Age rfl rfl|exact ZD rfl rfl) <| gO Aju <| gO Aju <| gO xF <| gZ (by first|exact xS1 Ax|exact xSk Ax) <| gO xA ?_;exact Z9.o)|fail):p:=h ⟨k⟩
theorem Agl (k:p') (h:Hd9 p'→p:=by with_reducible first|(intro Z9;refine Tx 19 ?_;refine gO xL <| gO xL <| gO xM <| gO xM ?_;refine Jl (by exact UU rfl func40 (by kernel_rfl) (by with_unfolding_all exact rfl) EC (by with_unfolding_all first|((repeat' first|exact BM rfl rfl|refine AX rfl rfl ?_ ?_|refine FH rfl rfl ?_|refine Dt rfl rfl ?_|exact Bp rfl (fun h=>by cases h)|exact Zc rfl rfl rfl) <;> fail)|fail)) ?_;refine gO (by first|exact Age rfl rfl|exact ZD rfl rfl) <| gO Aju <| gO Aju <| gO xA <| gO xA ?_;exact Z9.o)|(intro Z9;refine Tx 20 ?_;refine gO xM ?_;exact Z9.o)|fail):p:=h ⟨k⟩
theorem All (k:p') (h:Hd9 p'→p:=by with_reducible first|(intro Z9;refine Tx 28 ?_;refine gO xM <| gO (xIo (i:=k) Aa) <| gO (by first|exact xLi hla Al|exact xLd Al) <| gO xA <| gO xA ?_;exact Z9.o)|(intro Z9;refine Tx 29 ?_;refine gO xM <| gO xGt ?_;exact Z9.o)|(intro Z9;refine Tx 32 ?_;refine gO xAd <| gO xM ?_;exact Z9.o)|fail):p:=h ⟨k⟩
theorem Atn (k:p') (h:Hd9 p'→p:=by with_reducible first|(intro Z9;refine Tx 30 ?_;refine gO xF <| gO xD <| gO xM <| gO (xIo (i:=k) Aa) <| gO (by first|exact xLi hla Al|exact xLd Al) <| gO xSb <| gO (xIo (i:=k) Aa) <| gZ (by first|exact Ov rfl rfl rfl rfl Al (by omega) hls|exact xS1 Al|exact xSk Al) ?_;exact Z9.o)|(intro Z9;refine Tx 31 ?_;refine gO xA ?_;exact Z9.o)|fail):p:=h ⟨k⟩
theorem Apd (h:p:=by first|assumption|omega):p:=h
theorem Ape (h:p:=by first|rfl|omega):p:=h
theorem Alm (k:p') (h:Hd9 p'→p:=by with_reducible first|(intro Z9;refine Tx 21 ?_;refine gO xM <| gO xF <| gZ (by first|exact xS1 Ao|exact xSk Ao) ?_;exact Z9.o)|(intro Z9;refine Tx 23 ?_;refine gO xM <| gO (by first|exact De rfl Ag rfl (Qu rfl)|exact De rfl Ag rfl (Qu Ape)|exact De rfl Ag rfl (VY Apd)|exact De rfl Ag rfl rfl) <| gO xM ?_;(first|refine Jd ?_|refine Jy xM1 ?_);refine gO xPk ?_;exact Z9.o)|fail):p:=h ⟨k⟩
theorem Aln (h:p:=by
 refine AY (Bz 4 (hH:=by rw [←hx2];rfl)) (Aq (fun n Fr H=>∃ k:Nat,k≤bs.length∧n=bs.length - k∧Fr=ofL [(2,vr 0),(4,vr 1),(7,vd (AM false (Br (Bb bs)))),(9,vd (AM false (Br (AW bs)))),(11,vr 2),(17,vd (.val (.bool (Agb (F.take k))))),(101,vo 3 bs.length),(102,vi bs.length),(103,vi ((k:Nat)))]∧H=[.box 26 [.d (CU t ps),.d (Dw t bs),.d (AM t os)],.box 30 [.d (.val (.slice none 0 0)),.d (.val (.slice none 0 0)),.d (.val (.slice none 0 0))],.box 30 [.own 3 bs.length,.d (.row false 6 bs.length (Ar (dIw false) R)),.d x2],.row 3 1 bs.length (cI (AcT F (k)))]) (n0:=bs.length) ⟨0,af _,rfl,rfl,rfl⟩ ?_)
 rintro m Fr H ⟨k,hk,rfl,rfl,rfl⟩
 have hFl:=hF.len
 by_cases hlt:k<bs.length
 case pos =>
  obtain ⟨z,hz⟩:∃ z,F[k]?=some z:=⟨_,gE (by omega)⟩
  obtain ⟨hla,hls,hlb2⟩:=Apb hz
  have hz2:=hF.in_ z (gM hz)
  have hll2:=Ajr F k
  by_cases hzp:0<z
  case pos =>
   rw [show ApT z=z - 1 from if_pos hzp] at hls
   rw [decide_eq_true hzp,Bool.or_true] at hlb2
   repeat' (with_reducible first|refine qq ?_|(refine Tx 27 ?_;refine gO xLt ?_)|refine All ?_|refine Atn ?_)
   refine ⟨_,_,Bz 4 (h:=by rw [hlb2];exact mB rfl rfl),_,?_,k+1,by omega,rfl,rfl,rfl⟩
   ·omega
  rw [show ApT z=z from if_neg hzp,show (AcT F k).set k z=AcT F k from Ajt hla] at hls
  rw [decide_eq_false hzp,Bool.or_false] at hlb2
  repeat' (with_reducible first|refine qq ?_|(refine Tx 27 ?_;refine gO xLt ?_)|refine All ?_)
  refine ⟨_,_,Bz 4 (hH:=by rw [←hls];rfl) (h:=by rw [hlb2];exact mB rfl rfl),_,?_,k+1,by omega,rfl,rfl,rfl⟩
  ·omega
 obtain rfl:k=bs.length:=by omega
 have hle:AcT F bs.length=Acl F:=by unfold AcT;rw [am (by omega),List.drop_of_length_le (by omega),av]
 have hlt2:Agb (F.take bs.length)=Agb F:=by rw [am (by omega)]
 rw [hle,hlt2]
 cases hlow:Agb F
 case false =>
  rw [hlow,if_neg (by decide)] at hres
  subst hres
  repeat' (with_reducible first|refine qq ?_|(refine Tx 27 ?_;refine gO xLt ?_)|(refine Tx 33 ?_;refine gO xM <| gO Fy ?_)|(refine Tx 34 ?_;refine gO (by exact AH rfl XX rfl rfl) <| gZ (xSk EB) <| gO xA <| gO xA ?_))
  exact ⟨.inl rfl,[],by decide,.nil_,.tup (congrArg Array.toList results12) (.cons_ (UW EB rfl rfl rfl (.cons_ ⟨rfl,.val _⟩ (.cons_ ⟨rfl,.val _⟩ (.cons_ ⟨rfl,.val _⟩ .nil_)))) (.cons_ (.tmp rfl ⟨rfl,.val _⟩) (.cons_ (.tmp rfl ⟨rfl,.val _⟩) .nil_)))⟩
 rw [hlow,if_pos rfl] at hres
 repeat' (with_reducible first|refine qq ?_|(refine Tx 27 ?_;refine gO xLt ?_)|(refine Tx 33 ?_;refine gO xM <| gO Fy ?_))
 refine ⟨_,_,TN _ 4 ?_ ?_ ?_,n,by omega,Acl F,x2,Agj hFn hlow,Atm hFn (Agj hFn hlow),hres,hF.low,rfl,rfl⟩
 ·rfl
 ·exact mB rfl rfl
 ·exact ⟨DG rfl,DG rfl,DG rfl,ZG,trivial⟩):p:=h
theorem Alo (h:p:=by
 exact ⟨.inl rfl,[],by decide,.nil_,.tup (congrArg Array.toList results12) (.cons_ (UW EB rfl rfl rfl (.cons_ ⟨rfl,.val _⟩ (.cons_ ⟨rfl,.val _⟩ (.cons_ ⟨rfl,.val _⟩ .nil_)))) (.cons_ (.tmp rfl ⟨rfl,.val _⟩) (.cons_ (.tmp rfl ⟨rfl,.val _⟩) .nil_)))⟩):p:=h
theorem Aco (t:Bool) {ps:List Prt} {bs:List Bk} {os:List Int} (hl:EF ps bs os) (h0:Av ps bs os=0) (rd:Int) (r0:1≤rd) (r1:rd≤16) {f:Nat} {e:Int} {l:List Iq} (hf:f≤1000000000) (hres:Xi ps bs rd f=some (e,l)) (hI:(e=0∧Ahi bs l∧Gg ps bs l=false∧Asz ps bs l=true)∨((e=4∨e=22)∧l=[])):CVN prog An 12 [aDg t ps bs os,aI rd] (mkW bs.length (mkC ps bs os e l)) (mkY bs.length (mkC ps bs os e l)):=by
 refine Agd TX func12 rfl ntmps12 (bl rfl) ?_
 have OC:=(PD t hl (ps:=ps) (bs:=bs) (os:=os)).cv
 have DC:=(Ih t hl (ps:=ps) (bs:=bs) (os:=os)).cv
 rw [if_pos h0,h0] at OC DC
 have RI:=Acb t hl h0 rd r0 r1 (e,l) f hf hres
 dsimp only at RI
 have hn:=hl.l2
 have hdb:=NY bs
 rcases hI with ⟨rfl,hI,hb,_⟩|⟨hne,rfl⟩
 case inr =>
  have hne:e≠0:=by omega
  rw [show mkC ps bs os e []=none from if_neg fun h=>hne h.1]
  repeat' (with_reducible first|refine qq ?_|refine Agk ?_|(refine Tx 10 ?_;refine gO xM <| gO (by first|exact Bn rfl Ag rfl (GM hne)|exact Bn rfl Ag rfl (OS Ape)|exact Bn rfl Ag rfl (GM Apd)|exact Bn rfl Ag rfl rfl) ?_)|(refine Tx 11 ?_;refine gO (by exact AH rfl XX rfl rfl) <| gZ (xSk EB) <| gO xA <| gO xA ?_))
  exact Alo
 have hlb:=hI.lb hb
 have hll:=hI.len
 have EV:=Xf t hl (l.map Od) (Aaw hI.iw (by decide)) (by rw [ad];omega)
 rw [AkR h0 hI.iw hll,PJ,YU,if_neg (by rw [hb];decide),NW rfl] at EV
 unfold Asv at EV RI
 have hR:(rgV ps bs l).length=bs.length:=YP
 have sR:=AoB h0 hlb hll hb
 have hm:mkC ps bs os 0 l=if (rgV ps bs l).all pkB=true then mkL ps bs os (rgV ps bs l) 31 ((rgV ps bs l).map pkS) else none:=by
  by_cases h:(rgV ps bs l).all pkB=true
  ·rw [if_pos h];exact if_pos ⟨rfl,h⟩
  ·rw [if_neg h];exact if_neg fun hc=>h hc.2
 rw [hm]
 clear hm hres
 generalize rgV ps bs l=R at *
 have CH:=Acn t hl h0 R hR sR
 rw [hR] at CH EV
 cases hp:R.all pkB
 case false =>
  rw [hp] at CH
  rw [if_neg (by decide)]
  repeat' (with_reducible first|refine qq ?_|refine Agk ?_|refine Alk ?_|(refine Tx 17 ?_;refine gO xM <| gO (by first|exact Bn rfl Ag rfl (GM (by decide))|exact Bn rfl Ag rfl (OS Ape)|exact Bn rfl Ag rfl (GM Apd)|exact Bn rfl Ag rfl rfl) ?_)|(refine Tx 18 ?_;refine gO (by exact AH rfl XX rfl rfl) <| gZ (xSk EB) <| gO xA <| gO xA ?_))
  exact Alo
 rw [hp] at CH
 rw [if_pos rfl]
 have hF0:=Avf hR hp
 repeat' (with_reducible first|refine qq ?_|refine Agk ?_|refine Alk ?_|(refine Tx 17 ?_;refine gO xM <| gO (xNE Ag) ?_))
 refine AY (Bz 4 (hH:=by rw [Aue];rfl)) (Aq (fun n Fr H=>∃ (F:List Int) (xd:D),1≤n∧(∀ f∈F,f≤(n:Int) - 1)∧mkL ps bs os R n F=mkL ps bs os R 31 (R.map pkS)∧Ajn bs F∧Fr=ofL [(2,vr 0),(4,vr 1),(7,vd (AM false (Br (Bb bs)))),(9,vd (AM false (Br (AW bs)))),(11,vr 2)]∧H=[.box 26 [.d (CU t ps),.d (Dw t bs),.d (AM t os)],.box 30 [.d (.val (.slice none 0 0)),.d (.val (.slice none 0 0)),.d (.val (.slice none 0 0))],.box 30 [.own 3 bs.length,.d (.row false 6 bs.length (Ar (dIw false) R)),.d xd],.row 3 1 bs.length (cI F)]) (n0:=31) ⟨R.map pkS,_,by decide,fun f hf=>by have:=hF0.in_ f hf;omega,rfl,hF0,rfl,rfl⟩ ?_)
 clear CH EV RI OC DC
 rintro n Fr H ⟨F,xd,n1,hFn,hres,hF,rfl,rfl⟩
 cases n
 case zero=>omega
 rename_i n
 generalize mkL ps bs os R 31 (R.map pkS)=res at *
 unfold mkL mkT at hres
 have EC:=fun r (h:erA ps bs F R=r)=>Xu t hl h0 ⟨F,R,[]⟩ xd hF hR sR h
 unfold dCx AM at EC
 dsimp only at EC
 rw [hF.len,hR] at EC
 rcases hA:erA ps bs F R with _|E
 case none =>
  have EC:=EC _ hA
  rw [hA] at hres
  have hres:(if Agb F=true then mkL ps bs os R n (Acl F) else none)=res:=hres
  repeat' (with_reducible first|refine qq ?_|refine Agl ?_|(refine Tx 25 ?_;refine gO xA ?_)|(refine Tx 26 ?_;refine gO xF <| gO xD <| gO xN <| gO xM ?_))
  obtain ⟨x2,hx2⟩:∃ x2,xd=x2:=⟨_,rfl⟩
  exact Aln
 have EC:=EC _ hA
 rw [hA] at hres
 have hE:=Ate h0 hF.sc sR hA
 have VC:=Rp t hl F (R.map Od) (E.map Ew) (Aaw sR (by decide)) (er_L hE) (by rw [hF.len];exact hn) (by rw [ad,hR];exact hn) (by rw [ad,hE.len];exact hn)
 rw [AoZ h0 hF hR sR hE,Atf] at VC
 generalize vfP ps bs os F (R.map Od) (E.map Ew)=vp at VC
 unfold dCt AM at VC
 dsimp only at VC
 rw [hF.len,hE.len,hR] at VC
 have hres:(match (if vfA ps bs os F R E=true then some E else none) with|some E=>some ⟨F,R,E⟩|none=>if Agb F=true then mkL ps bs os R n (Acl F) else none)=res:=hres
 have hv2:vfE ps bs os F (R.map Od) (E.map Ew)=vfA ps bs os F R E:=rfl
 rw [hv2] at VC
 cases hv:vfA ps bs os F R E
 case true =>
  rw [hv] at VC hres
  rw [if_pos rfl] at hres
  dsimp only at hres
  subst hres
  repeat' (with_reducible first|refine qq ?_|refine Agl ?_|refine Alm ?_|(refine Tx 22 ?_;refine gO xL <| gO xL <| gO (by exact UV rfl func6 (by kernel_rfl) (by with_unfolding_all exact rfl) rfl VC (by with_unfolding_all exact AX rfl rfl ⟨true,Dt rfl rfl (AX rfl rfl (Bp rfl (fun h=>by cases h)) (AX rfl rfl (Bp rfl (fun h=>by cases h)) (AX rfl rfl (Bp rfl (fun h=>by cases h)) (BM rfl rfl))))⟩ (AX rfl rfl ⟨false,Dt rfl rfl (AX rfl rfl (Zc rfl rfl rfl) (AX rfl rfl (Bp rfl (fun _=>.row (Ce (f:=dIw false) LV R))) (AX rfl rfl (EI rfl rfl rfl (Lc rfl (Iy E))) (BM rfl rfl))))⟩ (BM rfl rfl)))) <| gO xMt <| gO xEx <| gO (by exact Es rfl rfl rfl) <| gO xEx <| gN (xAl Ds) <| gO xA <| gZ (xSk Bw) <| gO xA ?_)|(refine Tx 24 ?_;refine gO xL <| gZ (xSk EB) <| gO xA <| gO xA ?_))
  exact ⟨.inl rfl,[3,4],by decide,.cons_ ⟨congrArg some (congrArg (Ob.row _ 1 _) (Aue _)),Lb _⟩ (.cons_ ⟨rfl,Iy _⟩ .nil_),.tup (congrArg Array.toList results12) (.cons_ (UW EB rfl rfl rfl (.cons_ ⟨3,_,rfl,rfl,rfl,rfl⟩ (.cons_ ⟨rfl,.row (Ce (f:=dIw false) LV _)⟩ (.cons_ ⟨4,_,rfl,rfl,rfl,rfl⟩ .nil_)))) (.cons_ (.tmp rfl ⟨rfl,.val _⟩) (.cons_ (.tmp rfl ⟨rfl,.val _⟩) .nil_)))⟩
 rw [hv] at VC hres
 rw [if_neg (by decide)] at hres
 dsimp only at hres
 repeat' (with_reducible first|refine qq ?_|refine Agl ?_)
 refine AY (Ff (ds:=Ar dyP E) 12 4 rfl rfl) ?_
 repeat' (with_reducible first|refine qq ?_|refine Alm ?_|(refine Tx 22 ?_;refine gO xL <| gO xL <| gO (by exact UV rfl func6 (by kernel_rfl) (by with_unfolding_all exact rfl) rfl VC (by with_unfolding_all exact AX rfl rfl ⟨true,Dt rfl rfl (AX rfl rfl (Bp rfl (fun h=>by cases h)) (AX rfl rfl (Bp rfl (fun h=>by cases h)) (AX rfl rfl (Bp rfl (fun h=>by cases h)) (BM rfl rfl))))⟩ (AX rfl rfl ⟨false,Dt rfl rfl (AX rfl rfl (Zc rfl rfl rfl) (AX rfl rfl (Bp rfl (fun _=>.row (Ce (f:=dIw false) LV R))) (AX rfl rfl (Bp rfl (fun _=>.row (Iy E))) (BM rfl rfl))))⟩ (BM rfl rfl)))) <| gO xMt <| gO xEx <| gO (by exact Es rfl rfl rfl) <| gO xEx <| gN (xAl Ds) <| gO xA <| gZ (xSk Bw) <| gO xA ?_)|(refine Tx 25 ?_;refine gO xA ?_)|(refine Tx 26 ?_;refine gO xF <| gO xD <| gO xN <| gO xM ?_))
 obtain ⟨x2,hx2⟩:∃ x2,D.row false 3 bs.length (Ar dyP E)=x2:=⟨_,rfl⟩
 exact Aln
end Go.Proofs.YtjlkgfeepocjfaaGreatDoor
