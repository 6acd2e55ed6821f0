/- What the proofs of this claim share, part 19. No conditions. -/
import Derived.Test.YtmdfjbpggbhgnaaGreatDoorXt18
import Derived.Test.YtmdfjbpggbhgnaaGreatDoorXt16
import Derived.Test.YtmdfjbpggbhgnaaGreatDoorXt10
import Derived.Test.YtmdfjbpggbhgnaaGreatDoorXt7
import Derived.Test.YtmdfjbpggbhgnaaGreatDoorXt8
import Derived.Test.YtmdfjbpggbhgnaaGreatDoorXt9
import Derived.Test.YtmdfjbpggbhgnaaGreatDoorXt12
set_option maxRecDepth 100000
set_option maxHeartbeats 8000000
set_option linter.all false
open Go.Proofs.Tryz
namespace Go.Proofs.YtmdfjbpggbhgnaaGreatDoor
open Go.RowKit
variable {p p':Prop} {qs:List (Rv × Rv)} {rs:List Rv} {r:Rv} {ps:List Prt} {bs:List Bk} {F os:List Int} {P:Program} {fn:Func} {w:World} {f:FuncId} {xs:Array Operand} {ts:Array TypeId} {n s:Nat}
def AqB (mk:Bool) (E:List Pq):D:=.row mk 3 E.length (AN dyP E)
def dCx (u:Bool) (c:Ct) (xd:D):List D:=[Ba u c.F,.row false 6 c.R.length (AN (dIw false) c.R),xd]
theorem AqC (h:p:=by first|exact xIr Af (AF hk)|exact xIr Af (AF hFr)|exact xIr Af (hEr)):p:=h
theorem Ajl (k:p') (h:Hd9 p'→p:=by with_reducible first|(intro Z9;refine qq ?_;exact Z9.o)|(intro Z9;refine Tx 0 ?_;refine gN (xAl Av) ?_;exact Z9.o)|(intro Z9;refine Tx 1 ?_;refine gO xF <| gO xD <| gO xM <| gO AqC <| gO xD <| gO xA ?_;exact Z9.o)|(intro Z9;refine BX (id:=2) AX (by kernel_rfl) ?_;refine gP xD <| gP xF <| gP xD <| gP xM <| gP AqC <| gP xD <| gP xGe ?_;refine Ke ?_;exact Z9.o)|(intro Z9;refine Tx 3 ?_;refine gO xD <| gO xM <| gO (xIr Ai (hEr)) <| gO xL <| gZ (xSk Ae) ?_;exact Z9.o)|(intro Z9;refine AJ (id:=4) 6 AX (by kernel_rfl) ?_;dsimp only [List.take,List.drop];refine gP xD <| gP xM <| gP (xIr Ai (hEr)) <| gP xL <| gP xL <| gP (xCl func152 (AD)) ?_;refine Ke ?_;refine gZ (xSk Ae) ?_;exact Z9.o)|fail):p:=h ⟨k⟩
theorem Es (h:p:=by
 exact Ax rfl (.cons_ (rvW Ae rfl) .nil_)):p:=h
theorem Ep (mk:Bool) (xd:D) (t u:Bool) (c:Ct) (E:List Pq) (y:Bk) (s:Int) (s0:0≤s) (s1:s≤30) (sE:∀ p∈E,Sm p LB LB) (k:Nat) {r:Nat} (hk:y.args[k]?=some (r:Int)) (hr:r<c.F.length) (hr2:r<E.length) (ha:y.args.length≤1000000) (hv:c.F.length≤1000000) (hv2:E.length≤1000000):CV prog An 220 [aI (k:Int),.one (.ptr true (dBk t y)),.one (.ptr true [dI s]),.one (.ptr true (dCx u c xd)),.one (.ptr true [AqB mk E]),.one (.ptr true (dDy false (pw (-s)).1 (pw (-s)).2))] [aDy false (mvP c.F E s (r:Int)).1 (mvP c.F E s (r:Int)).2]:=by
 refine cvz func220 ntmps220 ?_
 have l1:=(gS.1 hk).1
 have hFr:=WS (F:=c.F) (k:=r) (by omega)
 have hEr:=Ajj (E:=E) (k:=r) (by omega)
 have sm:=CL sE r
 obtain ⟨e,he⟩:∃ e,E[r]?.getD (0,0)=e:=⟨_,rfl⟩
 rw [he] at sm hEr
 have um:=Aae s0 s1
 have AD:=Db e.1 e.2 (pw (-s)).1 (pw (-s)).2 sm.ok um.ok sm.lz um.lz
 by_cases h:scA c.F r≤s
 case pos =>
  rw [show mvP c.F E s (r:Int)=e by unfold mvP;rw [NK,if_pos h,RF,he]]
  repeat' (with_reducible first|refine Ajl ?_)
  exact Es
 rw [show mvP c.F E s (r:Int)=Ee e (pw (-s)) by unfold mvP;rw [NK,if_neg h,RF,he]]
 repeat' (with_reducible first|refine Ajl ?_)
 exact Es
theorem Nu (b:Bool) (s:Int):CV prog An 221 [aB b,.one (.ptr true (dDy false (pw (-s)).1 (pw (-s)).2))] [aDy false (ixP b s).1 (ixP b s).2]:=by
 refine cvz func221 ntmps221 ?_
 cases b
 case true =>
  rw [show ixP true s=pw (-s) from rfl]
  repeat' (with_reducible first|refine qq ?_|(refine Tx 0 ?_;refine gN (xAl Av) ?_)|(refine Tx 1 ?_;refine gO xM ?_)|(refine Tx 2 ?_;refine gO xL <| gZ (xSk Ae) ?_))
  exact Es
 case false =>
  rw [show ixP false s=(0,0) from rfl,PC]
  repeat' (with_reducible first|refine qq ?_|(refine Tx 0 ?_;refine gN (xAl Av) ?_)|(refine Tx 1 ?_;refine gO xM ?_)|(refine Tx 3 ?_;refine gO (by exact AC rfl Pc rfl rfl) <| gZ (xSk Ae) ?_))
  exact Ax rfl (.cons_ (rv_z Ae rfl) .nil_)
theorem Gh (k:p') (h:Hd9 p'→p:=by with_reducible first|(intro Z9;refine qq ?_;exact Z9.o)|(intro Z9;refine Tx 0 ?_;refine gN xBo <| gN xBo <| gN xBo <| gN (xAl Av) ?_;exact Z9.o)|(intro Z9;refine Tx 3 ?_;refine gO xD <| gO (xCl func218 (UN)) <| gN (xAl Av) <| gZ (xSk Ae) ?_;exact Z9.o)|(intro Z9;refine Tx 4 ?_;refine gO (by first|exact xMf [(4,0,none),(5,0,none),(1,0,none),(2,0,none),(6,0,none)]|exact CU rfl (by repeat' first|exact CF rfl rfl|refine BG rfl rfl rfl ?_)) <| gO xA ?_;exact Z9.o)|(intro Z9;refine Tx 5 ?_;refine gO (by first|exact xMf [(6,0,none)]|exact CU rfl (by repeat' first|exact CF rfl rfl|refine BG rfl rfl rfl ?_)) <| gO xA ?_;exact Z9.o)|(intro Z9;refine Tx 6 ?_;refine gO xF <| gO xD ?_;exact Z9.o)|(intro Z9;refine Tx 7 ?_;refine gO xEq <| gO xA ?_;exact Z9.o)|fail):p:=h ⟨k⟩
theorem Amy (h:p:=by first|exact xS1 Ak|exact xSk Ak):p:=h
theorem Hk (k:p') (h:Hd9 p'→p:=by with_reducible first|(intro Z9;refine Tx 1 ?_;refine gO xF <| gO xD <| gO xM <| gO (xIr Aj (DK hy)) <| gO xL <| gN (xAl Bw) <| gZ (xSk Bm) ?_;exact Z9.o)|(intro Z9;refine Tx 2 ?_;refine gO xF <| gO xD <| gO xM <| gO (xIr Af (AF hFi)) <| gO xD <| gN (xAl Bz) <| gZ Amy ?_;exact Z9.o)|fail):p:=h ⟨k⟩
theorem GB (k:p') (h:Hd9 p'→p:=by with_reducible first|(intro Z9;refine Tx 9 ?_;refine gO xEq <| gO xA ?_;exact Z9.o)|fail):p:=h ⟨k⟩
theorem Hl (k:p') (h:Hd9 p'→p:=by with_reducible first|(intro Z9;refine Tx 11 ?_;refine gO xEq <| gO xA ?_;exact Z9.o)|fail):p:=h ⟨k⟩
theorem IU (k:p') (h:Hd9 p'→p:=by with_reducible first|(intro Z9;refine Tx 12 ?_;refine gO xEq <| gO xA ?_;exact Z9.o)|fail):p:=h ⟨k⟩
theorem AqD (h:p:=by first|exact xCl func222 (WH)|exact xCl func222 (WU)):p:=h
theorem DM (h:p:=by first|exact xNt|exact xNg):p:=h
theorem Ajm (k:p') (h:Hd9 p'→p:=by with_reducible first|(intro Z9;refine AJ (id:=27) 17 AX (by kernel_rfl) ?_;dsimp only [List.take,List.drop];refine gP xM <| gP (xCc func220 M0 (args:=[_]) rfl) <| gP xM <| gP xF <| gP xL <| gP xD <| gP AqD <| gP DM <| gP xM ?_;(first|iterate 5 refine Kd ?_|(refine Ky (xFa ES Be) ?_;refine Ky (xLa Be) ?_;refine Ky (xLd Ak) ?_;refine Ky AqD ?_;refine Ky DM ?_));refine gP xPk <| gP (xCc func221 IX (args:=[_]) rfl) <| gP (xCl func156 (C)) ?_;refine Ke ?_;refine gZ (xSk Ae) ?_;exact Z9.o)|fail):p:=h ⟨k⟩
theorem Amz (h:p:=by first|exact xIr Af (AF hFi)|exact xIr Af (AF hF0)|exact xIr Af (AF hF1)|exact xIr Af (hE0)|exact xIr Af (hE1)|exact xIr Af (hI0)|exact xIr Af (hI1)):p:=h
theorem AqE (h:p:=by first|exact xIr Aw (hE0)|exact xIr Aw (hE1)|exact xIr Aw (hI0)|exact xIr Aw (hI1)):p:=h
theorem AhK (h:p:=by first|exact xIr Ai (hE0)|exact xIr Ai (hE1)|exact xIr Ai (hI0)|exact xIr Ai (hI1)):p:=h
theorem AqF (h:p:=by first|exact xIr Af (AF hFi)|exact xIr Af (AF hF0)|exact xIr Af (hEa)):p:=h
theorem AmA (h:p:=by first|exact xCl func157 (MA)|exact xCl func157 (MB)|exact xCl func157 (MC)):p:=h
theorem AmB (h:p:=by first|exact xCl func152 (D1)|exact xCl func152 (D2)|exact xCl func152 (D3)):p:=h
theorem AqG (h:p:=by first|exact xCl func159 (MG0)|exact xCl func159 (MG1)):p:=h
theorem AqH (h:p:=by first|exact xIr Af (AF hA0)|exact xIr Af (hEa)):p:=h
theorem AmC (h:p:=by first|exact AhZ rfl rfl rfl|exact xLt):p:=h
theorem Aaw (mk:Bool) (xd:D) (t u:Bool) {ps:List Prt} {bs:List Bk} (os:List Int) (c:Ct) (E:List Pq) (hE:E.length=bs.length) (sE:∀ p∈E,Sm p LB LB) (i:Nat) {y:Bk} (hy:bs[i]?=some y) (B:Ana ps bs.length y) (hF:c.F.length=bs.length) (hR:c.R.length=bs.length) (sR:∀ p∈c.R,IwS p LB LB) (hn:bs.length≤1000000) (hpn:ps.length≤1000000) (hs2:0≤scA c.F i∧scA c.F i≤30) (hsa:y.kind≠0→∀ a∈y.args,0≤sG c.F a∧sG c.F a≤30):CV prog An 127 [aDg t ps bs os,.agg (dCx u c xd),.one (AqB mk E),aI (i:Int)] [aDy false (AU ps c.F c.R E y (scA c.F i)).1 (AU ps c.F c.R E y (scA c.F i)).2]:=by
 refine cvz func127 ntmps127 ?_
 have hil:=(gS.1 hy).1
 have hFi:=WS (F:=c.F) (k:=i) (by omega)
 obtain ⟨s,hs⟩:∃ s,scA c.F i=s:=⟨_,rfl⟩
 rw [hs] at hFi
 have hBl:=B.len
 obtain ⟨s0,s1⟩:=hs2
 rw [hs] at s0 s1
 have UN:=Va s (by omega) (by omega)
 have um:=Aae s0 s1
 rw [hs]
 rcases B.hk with h|h|h|h|h|h|h|h|h|h|h|h
 ·
  obtain ⟨j,pp,hA0,ha0,hp,PS⟩:=B.port h
  have l3:=(gS.1 hp).1
  have hL0:=(gS.1 hA0).1
  rw [show AU ps c.F c.R E y s=ixP (decide (s<pp.fr)) s by unfold AU;rw [if_pos h,ha0,AeK hp]]
  have IX:=Nu (decide (s<pp.fr)) s
  repeat' (with_reducible first|refine Gh ?_|refine Hk ?_|(refine AJ (id:=8) 13 AX (by kernel_rfl) ?_;dsimp only [List.take,List.drop];refine gP xM <| gP xD <| gP xF <| gP xD <| gP xF <| gP xD <| gP (xIr Af (AF hA0)) <| gP xD <| gP (xIr Bv (Fy hp)) <| gP xF <| gP xD <| gP AmC <| gP (xCc func221 IX (args:=[_]) rfl) ?_;refine Ke ?_;refine gZ (xSk Ae) ?_))
  exact Es
 ·
  have WH:=Ih y.vn y.ve s (B.sv (by omega)) s0 s1
  have IX:=Nu (!BN y.vn y.ve s) s
  rw [show AU ps c.F c.R E y s=ixP (!BN y.vn y.ve s) s by unfold AU;rw [if_neg (by omega),if_pos h]]
  repeat' (with_reducible first|refine Gh ?_|refine Hk ?_|refine GB ?_|(refine Tx 10 ?_;refine gO xM <| gO xF <| gO xL <| gO xD <| gO (xCl func222 (WH)) <| gO DM <| gO (xCc func221 IX (args:=[_]) rfl) <| gZ (xSk Ae) ?_))
  exact Es
 ·
  obtain ⟨a,hA0,ha0,hl0⟩:=B.a0 (by omega)
  have hl0:=hl0 (by omega)
  have hL0:=(gS.1 hA0).1
  have M0:=Ep mk xd t u c E y s s0 s1 sE 0 hA0 (by omega) (by omega) (by omega) (by omega) (by omega)
  obtain ⟨m0,hm0⟩:∃ m,mvP c.F E s (a:Int)=m:=⟨_,rfl⟩
  have t0:=Hd (F:=c.F) s0 s1 sE (a:Int)
  rw [hm0] at M0 t0
  have WH:=Ih y.vn y.ve s (B.sv (by omega)) s0 s1
  have ib:=NY (b:=(!BN y.vn y.ve s)) s0 s1
  have IX:=Nu (!BN y.vn y.ve s) s
  have C:=ED m0.1 m0.2 (ixP (!BN y.vn y.ve s) s).1 (ixP (!BN y.vn y.ve s) s).2 t0.ok ib.ok t0.lz ib.lz
  rw [show AU ps c.F c.R E y s=Ga m0 (ixP (!BN y.vn y.ve s) s) by unfold AU;rw [if_neg (by omega),if_neg (by omega),if_neg (by omega),if_neg (by omega),if_neg (by omega),if_neg (by omega),if_neg (by omega),if_neg (by omega),ha0,hm0]]
  repeat' (with_reducible first|refine Gh ?_|refine Hk ?_|refine GB ?_|refine Hl ?_|refine IU ?_|(refine Tx 14 ?_;refine gO xEq <| gO xA ?_)|(refine Tx 15 ?_;refine gO xEq <| gO xA ?_)|(refine Tx 17 ?_;refine gO xEq <| gO xA ?_)|(refine Tx 18 ?_;refine gO xEq <| gO xA ?_)|(refine Tx 20 ?_;refine gO xEq <| gO xA ?_)|(refine Tx 22 ?_;refine gO xEq <| gO xA ?_)|(refine Tx 26 ?_;refine gO xEq <| gO xA ?_)|(refine AJ (id:=28) 10 AX (by kernel_rfl) ?_;dsimp only [List.take,List.drop];refine gP xM <| gP (xCc func220 M0 (args:=[_]) rfl) <| gP xM <| gP xF <| gP xL <| gP xD <| gP (xCl func222 (WH)) <| gP DM <| gP (xCc func221 IX (args:=[_]) rfl) <| gP (xCl func156 (C)) ?_;refine Ke ?_;refine gZ (xSk Ae) ?_))
  exact Es
 ·
  obtain ⟨a,hA0,ha0,hl0⟩:=B.a0 (by omega)
  have hl0:=hl0 (by omega)
  have hL0:=(gS.1 hA0).1
  obtain ⟨b,hA1,ha1,hl1⟩:=B.a1 (by omega)
  have hL1:=(gS.1 hA1).1
  have M0:=Ep mk xd t u c E y s s0 s1 sE 0 hA0 (by omega) (by omega) (by omega) (by omega) (by omega)
  obtain ⟨m0,hm0⟩:∃ m,mvP c.F E s (a:Int)=m:=⟨_,rfl⟩
  have t0:=Hd (F:=c.F) s0 s1 sE (a:Int)
  rw [hm0] at M0 t0
  have M1:=Ep mk xd t u c E y s s0 s1 sE 1 hA1 (by omega) (by omega) (by omega) (by omega) (by omega)
  obtain ⟨m1,hm1⟩:∃ m,mvP c.F E s (b:Int)=m:=⟨_,rfl⟩
  have t1:=Hd (F:=c.F) s0 s1 sE (b:Int)
  rw [hm1] at M1 t1
  have C:=Db m0.1 m0.2 m1.1 m1.2 t0.ok t1.ok t0.lz t1.lz
  rw [show AU ps c.F c.R E y s=Ee m0 m1 by unfold AU;rw [if_neg (by omega),if_neg (by omega),if_pos (by omega),ha0,ha1,hm0,hm1]]
  repeat' (with_reducible first|refine Gh ?_|refine Hk ?_|refine GB ?_|refine Hl ?_|(refine Tx 13 ?_;refine gO xM <| gO (xCc func220 M0 (args:=[_]) rfl) <| gO xM <| gO (xCc func220 M1 (args:=[_]) rfl) <| gO (xCl func152 (C)) <| gZ (xSk Ae) ?_))
  exact Es
 ·
  obtain ⟨a,hA0,ha0,hl0⟩:=B.a0 (by omega)
  have hl0:=hl0 (by omega)
  have hL0:=(gS.1 hA0).1
  obtain ⟨b,hA1,ha1,hl1⟩:=B.a1 (by omega)
  have hL1:=(gS.1 hA1).1
  have M0:=Ep mk xd t u c E y s s0 s1 sE 0 hA0 (by omega) (by omega) (by omega) (by omega) (by omega)
  obtain ⟨m0,hm0⟩:∃ m,mvP c.F E s (a:Int)=m:=⟨_,rfl⟩
  have t0:=Hd (F:=c.F) s0 s1 sE (a:Int)
  rw [hm0] at M0 t0
  have M1:=Ep mk xd t u c E y s s0 s1 sE 1 hA1 (by omega) (by omega) (by omega) (by omega) (by omega)
  obtain ⟨m1,hm1⟩:∃ m,mvP c.F E s (b:Int)=m:=⟨_,rfl⟩
  have t1:=Hd (F:=c.F) s0 s1 sE (b:Int)
  rw [hm1] at M1 t1
  have C:=Db m0.1 m0.2 m1.1 m1.2 t0.ok t1.ok t0.lz t1.lz
  rw [show AU ps c.F c.R E y s=Ee m0 m1 by unfold AU;rw [if_neg (by omega),if_neg (by omega),if_pos (by omega),ha0,ha1,hm0,hm1]]
  repeat' (with_reducible first|refine Gh ?_|refine Hk ?_|refine GB ?_|refine Hl ?_|refine IU ?_|(refine Tx 13 ?_;refine gO xM <| gO (xCc func220 M0 (args:=[_]) rfl) <| gO xM <| gO (xCc func220 M1 (args:=[_]) rfl) <| gO (xCl func152 (C)) <| gZ (xSk Ae) ?_))
  exact Es
 ·
  obtain ⟨a,hA0,ha0,hl0⟩:=B.a0 (by omega)
  have hl0:=hl0 (by omega)
  have hL0:=(gS.1 hA0).1
  have M0:=Ep mk xd t u c E y s s0 s1 sE 0 hA0 (by omega) (by omega) (by omega) (by omega) (by omega)
  obtain ⟨m0,hm0⟩:∃ m,mvP c.F E s (a:Int)=m:=⟨_,rfl⟩
  have t0:=Hd (F:=c.F) s0 s1 sE (a:Int)
  rw [hm0] at M0 t0
  rw [show AU ps c.F c.R E y s=m0 by unfold AU;rw [if_neg (by omega),if_neg (by omega),if_neg (by omega),if_pos (by omega),ha0,hm0]]
  repeat' (with_reducible first|refine Gh ?_|refine Hk ?_|refine GB ?_|refine Hl ?_|refine IU ?_|(refine Tx 14 ?_;refine gO xEq <| gO xA ?_)|(refine Tx 16 ?_;refine gO xM <| gO (xCc func220 M0 (args:=[_]) rfl) <| gZ (xSk Ae) ?_))
  exact Es
 ·
  obtain ⟨a,hA0,ha0,hl0⟩:=B.a0 (by omega)
  have hl0:=hl0 (by omega)
  have hL0:=(gS.1 hA0).1
  have hF0:=WS (F:=c.F) (k:=a) (by omega)
  have hr0:=hsa (by omega) a (gM hA0)
  rw [NK] at hr0
  have hv:=B.sv (by omega)
  have sv:=Fc hv
  have hv2:=hv
  unfold Df at hv2
  have RV:=Gv y.vn y.ve hv
  have hEa:=Ajj (E:=E) (k:=a) (by omega)
  have se:=CL sE a
  obtain ⟨e,he⟩:∃ e,E[a]?.getD (0,0)=e:=⟨_,rfl⟩
  rw [he] at se hEa
  obtain ⟨r,hr⟩:∃ r,scA c.F a=r:=⟨_,rfl⟩
  rw [hr] at hF0 hr0
  obtain ⟨v,hvv⟩:∃ v,Ac y.vn 0 y.ve=v:=⟨_,rfl⟩
  rw [hvv] at RV sv
  have AB:=Ov v.1 v.2 sv.ok sv.lz
  have sa:=sv.abs
  have MU:=FM (IG v).1 (IG v).2 e.1 e.2 sa.ok se.ok sa.lz se.lz (lT (eo sa.d se.d) (by decide))
  have sm:=Sm.mul sa se (by decide)
  have ib:=NY (b:=decide (s - r+y.ve<0)) s0 s1
  have IX:=Nu (decide (s - r+y.ve<0)) s
  have AD:=Db (Cz (IG v) e).1 (Cz (IG v) e).2 (ixP (decide (s - r+y.ve<0)) s).1 (ixP (decide (s - r+y.ve<0)) s).2 sm.ok ib.ok sm.lz ib.lz
  rw [show AU ps c.F c.R E y s=Ee (Cz (IG v) e) (ixP (decide (s - r+y.ve<0)) s) by unfold AU;rw [if_neg (by omega),if_neg (by omega),if_neg (by omega),if_neg (by omega),if_neg (by omega),if_pos h,ha0,NK,RF,he,hr,hvv]]
  repeat' (with_reducible first|refine Gh ?_|(refine Tx 1 ?_;refine gO xF <| gO xD <| gO xM <| gO (by first|exact xIr Aj (DK hy)|exact xIr Aj (hEa)) <| gO xL <| gN (xAl Bw) <| gZ (xSk Bm) ?_)|(refine Tx 2 ?_;refine gO xF <| gO xD <| gO xM <| gO AqF <| gO xD <| gN (xAl Bz) <| gZ Amy ?_)|refine GB ?_|refine Hl ?_|refine IU ?_|(refine Tx 14 ?_;refine gO xEq <| gO xA ?_)|(refine Tx 15 ?_;refine gO xEq <| gO xA ?_)|(refine Tx 17 ?_;refine gO xEq <| gO xA ?_)|(refine Tx 18 ?_;refine gO xEq <| gO xA ?_)|(refine Tx 20 ?_;refine gO xEq <| gO xA ?_)|(refine AJ (id:=21) 30 AX (by kernel_rfl) ?_;dsimp only [List.take,List.drop];refine gP xF <| gP xL <| gP (xCl func219 (RV)) <| gP (xCl func158 (AB)) <| gP xD <| gP xF <| gP xD <| gP AqH <| gP xD <| gP (xIr Ai (hEa)) <| gP xL <| gP (xCl func157 (MU)) <| gP xM <| gP xD <| gP xF <| gP xD <| gP xF <| gP xD <| gP AqH <| gP xD <| gP AqF <| gP xD <| gP xSb <| gP xF <| gP xF <| gP xD <| gP xAd <| gP AmC <| gP (xCc func221 IX (args:=[_]) rfl) <| gP (xCl func152 (AD)) ?_;refine Ke ?_;refine gZ (xSk Ae) ?_))
  exact Es
 ·
  obtain ⟨a,hA0,ha0,hl0⟩:=B.a0 (by omega)
  have hl0:=hl0 (by omega)
  have hL0:=(gS.1 hA0).1
  obtain ⟨b,hA1,ha1,hl1⟩:=B.a1 (by omega)
  have hL1:=(gS.1 hA1).1
  have hF0:=WS (F:=c.F) (k:=a) (by omega)
  have hr0:=hsa (by omega) a (gM hA0)
  rw [NK] at hr0
  have hE0:=Ajj (E:=E) (k:=a) (by omega)
  have se0:=CL sE a
  obtain ⟨e0,he0⟩:∃ e,E[a]?.getD (0,0)=e:=⟨_,rfl⟩
  rw [he0] at se0 hE0
  obtain ⟨r0,hq0⟩:∃ r,scA c.F a=r:=⟨_,rfl⟩
  rw [hq0] at hF0 hr0
  have hI0:=Ajk (R:=c.R) (k:=a) (by omega)
  have si0:=Bp sR a
  obtain ⟨P0,hP0⟩:∃ P,c.R[a]?.getD iZ=P:=⟨_,rfl⟩
  rw [hP0] at si0 hI0
  have MG0:=SJ P0 (si0.more LBx LBx)
  have sg0:=Rs si0
  generalize hG0:Gb P0=G0 at MG0 sg0
  have hF1:=WS (F:=c.F) (k:=b) (by omega)
  have hr1:=hsa (by omega) b (gM hA1)
  rw [NK] at hr1
  have hE1:=Ajj (E:=E) (k:=b) (by omega)
  have se1:=CL sE b
  obtain ⟨e1,he1⟩:∃ e,E[b]?.getD (0,0)=e:=⟨_,rfl⟩
  rw [he1] at se1 hE1
  obtain ⟨r1,hq1⟩:∃ r,scA c.F b=r:=⟨_,rfl⟩
  rw [hq1] at hF1 hr1
  have hI1:=Ajk (R:=c.R) (k:=b) (by omega)
  have si1:=Bp sR b
  obtain ⟨P1,hP1⟩:∃ P,c.R[b]?.getD iZ=P:=⟨_,rfl⟩
  rw [hP1] at si1 hI1
  have MG1:=SJ P1 (si1.more LBx LBx)
  have sg1:=Rs si1
  generalize hG1:Gb P1=G1 at MG1 sg1
  have MA:=FM G0.1 G0.2 e1.1 e1.2 sg0.ok se1.ok sg0.lz se1.lz (lT (eo sg0.d se1.d) (by decide))
  have sMA:=Sm.mul sg0 se1 (by decide)
  have MB:=FM G1.1 G1.2 e0.1 e0.2 sg1.ok se0.ok sg1.lz se0.lz (lT (eo sg1.d se0.d) (by decide))
  have sMB:=Sm.mul sg1 se0 (by decide)
  have MC:=FM e0.1 e0.2 e1.1 e1.2 se0.ok se1.ok se0.lz se1.lz (lT (eo se0.d se1.d) (by decide))
  have sMC:=Sm.mul se0 se1 (by decide)
  generalize hA:Cz G0 e1=A at *
  generalize hB:Cz G1 e0=Bq at *
  generalize hC:Cz e0 e1=Cq at *
  have hAe:Nd G0.1 G0.2 e1.1 e1.2=A:=hA
  have hBe:Nd G1.1 G1.2 e0.1 e0.2=Bq:=hB
  have hCe:Nd e0.1 e0.2 e1.1 e1.2=Cq:=hC
  rw [hAe] at MA sMA
  rw [hBe] at MB sMB
  rw [hCe] at MC sMC
  have D1:=Db A.1 A.2 Bq.1 Bq.2 sMA.ok sMB.ok sMA.lz sMB.lz
  have t1:Sm (Ee A Bq) 16385 8192:=Sm.sum sMA sMB (by decide)
  generalize hS:Ee A Bq=S1 at *
  have hSe:Cb A.1 A.2 Bq.1 Bq.2=S1:=hS
  rw [hSe] at D1
  have D2:=Db S1.1 S1.2 Cq.1 Cq.2 t1.ok sMC.ok t1.lz sMC.lz
  have t2:Sm (Ee S1 Cq) 24578 8192:=Sm.sum t1 (sMC.more (by decide) (by decide)) (by decide)
  generalize hT:Ee S1 Cq=S2 at *
  have hTe:Cb S1.1 S1.2 Cq.1 Cq.2=S2:=hT
  rw [hTe] at D2
  have ib:=NY (b:=decide (s - r0 - r1<0)) s0 s1
  have IX:=Nu (decide (s - r0 - r1<0)) s
  have D3:=Db S2.1 S2.2 (ixP (decide (s - r0 - r1<0)) s).1 (ixP (decide (s - r0 - r1<0)) s).2 t2.ok ib.ok t2.lz ib.lz
  rw [show AU ps c.F c.R E y s=Ee S2 (ixP (decide (s - r0 - r1<0)) s) by unfold AU;rw [if_neg (by omega),if_neg (by omega),if_neg (by omega),if_neg (by omega),if_neg (by omega),if_neg (by omega),if_pos h,ha0,ha1,NK,NK,RF,RF,YS,YS,he0,he1,hq0,hq1,hP0,hP1,hG0,hG1,hA,hB,hC,hS,hT]]
  repeat' (with_reducible first|refine Gh ?_|(refine Tx 1 ?_;refine gO xF <| gO xD <| gO xM <| gO (by first|exact xIr Aj (DK hy)|exact xIr Aj (hE0)|exact xIr Aj (hE1)|exact xIr Aj (hI0)|exact xIr Aj (hI1)) <| gO xL <| gN (xAl Bw) <| gZ (xSk Bm) ?_)|(refine Tx 2 ?_;refine gO xF <| gO xD <| gO xM <| gO Amz <| gO xD <| gN (xAl Bz) <| gZ Amy ?_)|refine GB ?_|refine Hl ?_|refine IU ?_|(refine Tx 14 ?_;refine gO xEq <| gO xA ?_)|(refine Tx 15 ?_;refine gO xEq <| gO xA ?_)|(refine Tx 17 ?_;refine gO xEq <| gO xA ?_)|(refine Tx 18 ?_;refine gO xEq <| gO xA ?_)|(refine Tx 20 ?_;refine gO xEq <| gO xA ?_)|(refine Tx 22 ?_;refine gO xEq <| gO xA ?_)|(refine BX (id:=23) AX (by kernel_rfl) ?_;refine gP xF <| gP xD <| gP (by first|exact xIr Af (AF hA0)|exact xIr Af (hE0)|exact xIr Af (hE1)|exact xIr Af (hI0)|exact xIr Af (hI1)) <| gP xD <| gP xF <| gP xD <| gP (by first|exact xIr Af (AF hA1)|exact xIr Af (hE0)|exact xIr Af (hE1)|exact xIr Af (hI0)|exact xIr Af (hI1)) <| gP xD <| gP xA <| gP xA ?_;refine Ke ?_)|(refine AJ (id:=24) 24 AX (by kernel_rfl) ?_;dsimp only [List.take,List.drop];refine gP xF <| gP xD <| gP xM <| gP AqE <| gP xL <| gP AqG <| gP xD <| gP xM <| gP AhK <| gP xL <| gP AmA <| gP xF <| gP xD <| gP xM <| gP AqE <| gP xL <| gP AqG <| gP xD <| gP xM <| gP AhK <| gP xL <| gP AmA <| gP AmB <| gQ (xAl Av) ?_;refine Ke ?_;refine gZ (xSk Ae) ?_)|(refine AJ (id:=25) 28 AX (by kernel_rfl) ?_;dsimp only [List.take,List.drop];refine gP xL <| gP xD <| gP xM <| gP AhK <| gP xL <| gP xD <| gP xM <| gP AhK <| gP xL <| gP AmA <| gP AmB <| gP xM <| gP xD <| gP xF <| gP xD <| gP xM <| gP Amz <| gP xD <| gP xSb <| gP xF <| gP xD <| gP xM <| gP Amz <| gP xD <| gP xSb <| gP AmC <| gP (xCc func221 IX (args:=[_]) rfl) <| gP AmB ?_;refine Ke ?_;refine gZ (xSk Ae) ?_))
  exact Es
 ·
  obtain ⟨a,hA0,ha0,hl0⟩:=B.a0 (by omega)
  have hl0:=hl0 (by omega)
  have hL0:=(gS.1 hA0).1
  obtain ⟨b,hA1,ha1,hl1⟩:=B.a1 (by omega)
  have hL1:=(gS.1 hA1).1
  have M0:=Ep mk xd t u c E y s s0 s1 sE 0 hA0 (by omega) (by omega) (by omega) (by omega) (by omega)
  obtain ⟨m0,hm0⟩:∃ m,mvP c.F E s (a:Int)=m:=⟨_,rfl⟩
  have t0:=Hd (F:=c.F) s0 s1 sE (a:Int)
  rw [hm0] at M0 t0
  have M1:=Ep mk xd t u c E y s s0 s1 sE 1 hA1 (by omega) (by omega) (by omega) (by omega) (by omega)
  obtain ⟨m1,hm1⟩:∃ m,mvP c.F E s (b:Int)=m:=⟨_,rfl⟩
  have t1:=Hd (F:=c.F) s0 s1 sE (b:Int)
  rw [hm1] at M1 t1
  have C:=ED m0.1 m0.2 m1.1 m1.2 t0.ok t1.ok t0.lz t1.lz
  rw [show AU ps c.F c.R E y s=Ga m0 m1 by unfold AU;rw [if_neg (by omega),if_neg (by omega),if_neg (by omega),if_neg (by omega),if_pos (by omega),ha0,ha1,hm0,hm1]]
  repeat' (with_reducible first|refine Gh ?_|refine Hk ?_|refine GB ?_|refine Hl ?_|refine IU ?_|(refine Tx 14 ?_;refine gO xEq <| gO xA ?_)|(refine Tx 15 ?_;refine gO xEq <| gO xA ?_)|(refine Tx 17 ?_;refine gO xEq <| gO xA ?_)|(refine Tx 19 ?_;refine gO xM <| gO (xCc func220 M0 (args:=[_]) rfl) <| gO xM <| gO (xCc func220 M1 (args:=[_]) rfl) <| gO (xCl func156 (C)) <| gZ (xSk Ae) ?_))
  exact Es
 ·
  obtain ⟨a,hA0,ha0,hl0⟩:=B.a0 (by omega)
  have hl0:=hl0 (by omega)
  have hL0:=(gS.1 hA0).1
  obtain ⟨b,hA1,ha1,hl1⟩:=B.a1 (by omega)
  have hL1:=(gS.1 hA1).1
  have M0:=Ep mk xd t u c E y s s0 s1 sE 0 hA0 (by omega) (by omega) (by omega) (by omega) (by omega)
  obtain ⟨m0,hm0⟩:∃ m,mvP c.F E s (a:Int)=m:=⟨_,rfl⟩
  have t0:=Hd (F:=c.F) s0 s1 sE (a:Int)
  rw [hm0] at M0 t0
  have M1:=Ep mk xd t u c E y s s0 s1 sE 1 hA1 (by omega) (by omega) (by omega) (by omega) (by omega)
  obtain ⟨m1,hm1⟩:∃ m,mvP c.F E s (b:Int)=m:=⟨_,rfl⟩
  have t1:=Hd (F:=c.F) s0 s1 sE (b:Int)
  rw [hm1] at M1 t1
  have C:=ED m0.1 m0.2 m1.1 m1.2 t0.ok t1.ok t0.lz t1.lz
  rw [show AU ps c.F c.R E y s=Ga m0 m1 by unfold AU;rw [if_neg (by omega),if_neg (by omega),if_neg (by omega),if_neg (by omega),if_pos (by omega),ha0,ha1,hm0,hm1]]
  repeat' (with_reducible first|refine Gh ?_|refine Hk ?_|refine GB ?_|refine Hl ?_|refine IU ?_|(refine Tx 14 ?_;refine gO xEq <| gO xA ?_)|(refine Tx 15 ?_;refine gO xEq <| gO xA ?_)|(refine Tx 17 ?_;refine gO xEq <| gO xA ?_)|(refine Tx 18 ?_;refine gO xEq <| gO xA ?_)|(refine Tx 19 ?_;refine gO xM <| gO (xCc func220 M0 (args:=[_]) rfl) <| gO xM <| gO (xCc func220 M1 (args:=[_]) rfl) <| gO (xCl func156 (C)) <| gZ (xSk Ae) ?_))
  exact Es
 ·
  obtain ⟨a,hA0,ha0,hl0⟩:=B.a0 (by omega)
  have hl0:=hl0 (by omega)
  have hL0:=(gS.1 hA0).1
  have M0:=Ep mk xd t u c E y s s0 s1 sE 0 hA0 (by omega) (by omega) (by omega) (by omega) (by omega)
  obtain ⟨m0,hm0⟩:∃ m,mvP c.F E s (a:Int)=m:=⟨_,rfl⟩
  have t0:=Hd (F:=c.F) s0 s1 sE (a:Int)
  rw [hm0] at M0 t0
  rw [show AU ps c.F c.R E y s=m0 by unfold AU;rw [if_neg (by omega),if_neg (by omega),if_neg (by omega),if_pos (by omega),ha0,hm0]]
  repeat' (with_reducible first|refine Gh ?_|refine Hk ?_|refine GB ?_|refine Hl ?_|refine IU ?_|(refine Tx 14 ?_;refine gO xEq <| gO xA ?_)|(refine Tx 15 ?_;refine gO xEq <| gO xA ?_)|(refine Tx 16 ?_;refine gO xM <| gO (xCc func220 M0 (args:=[_]) rfl) <| gZ (xSk Ae) ?_))
  exact Es
 ·
  obtain ⟨a,hA0,ha0,hl0⟩:=B.a0 (by omega)
  have hl0:=hl0 (by omega)
  have hL0:=(gS.1 hA0).1
  have M0:=Ep mk xd t u c E y s s0 s1 sE 0 hA0 (by omega) (by omega) (by omega) (by omega) (by omega)
  obtain ⟨m0,hm0⟩:∃ m,mvP c.F E s (a:Int)=m:=⟨_,rfl⟩
  have t0:=Hd (F:=c.F) s0 s1 sE (a:Int)
  rw [hm0] at M0 t0
  have WH:=Ih y.vn y.ve s (B.sv (by omega)) s0 s1
  have WU:=Ih y.un y.ue s (B.su h) s0 s1
  have ib:=NY (b:=(!BN y.vn y.ve s || !BN y.un y.ue s)) s0 s1
  have IX:=Nu (!BN y.vn y.ve s || !BN y.un y.ue s) s
  have C:=ED m0.1 m0.2 (ixP (!BN y.vn y.ve s || !BN y.un y.ue s) s).1 (ixP (!BN y.vn y.ve s || !BN y.un y.ue s) s).2 t0.ok ib.ok t0.lz ib.lz
  rw [show AU ps c.F c.R E y s=Ga m0 (ixP (!BN y.vn y.ve s || !BN y.un y.ue s) s) by unfold AU;rw [if_neg (by omega),if_neg (by omega),if_neg (by omega),if_neg (by omega),if_neg (by omega),if_neg (by omega),if_neg (by omega),if_pos h,ha0,hm0]]
  cases hw:BN y.vn y.ve s
  case false =>
   rw [hw] at WH IX C
   simp only [fd,fb,Bool.true_or,ei] at IX C
   simp only [fd,fb,Bool.true_or,ei]
   repeat' (with_reducible first|refine Gh ?_|refine Hk ?_|refine GB ?_|refine Hl ?_|refine IU ?_|(refine Tx 14 ?_;refine gO xEq <| gO xA ?_)|(refine Tx 15 ?_;refine gO xEq <| gO xA ?_)|(refine Tx 17 ?_;refine gO xEq <| gO xA ?_)|(refine Tx 18 ?_;refine gO xEq <| gO xA ?_)|(refine Tx 20 ?_;refine gO xEq <| gO xA ?_)|(refine Tx 22 ?_;refine gO xEq <| gO xA ?_)|(refine Tx 26 ?_;refine gO xEq <| gO xA ?_)|refine Ajm ?_)
   exact Es
  case true =>
   rw [hw] at WH IX C
   simp only [fd,fb,Bool.true_or,ei] at IX C
   simp only [fd,fb,Bool.true_or,ei]
   repeat' (with_reducible first|refine Gh ?_|refine Hk ?_|refine GB ?_|refine Hl ?_|refine IU ?_|(refine Tx 14 ?_;refine gO xEq <| gO xA ?_)|(refine Tx 15 ?_;refine gO xEq <| gO xA ?_)|(refine Tx 17 ?_;refine gO xEq <| gO xA ?_)|(refine Tx 18 ?_;refine gO xEq <| gO xA ?_)|(refine Tx 20 ?_;refine gO xEq <| gO xA ?_)|(refine Tx 22 ?_;refine gO xEq <| gO xA ?_)|(refine Tx 26 ?_;refine gO xEq <| gO xA ?_)|refine Ajm ?_)
   exact Es
theorem vfit {M E:Pq} {f:Int}:IL (Ee M E) f=decide (Cm (Ac (Cb M.1 M.2 E.1 E.2).1 (Cb M.1 M.2 E.1 E.2).2 f).1 (Ac (Cb M.1 M.2 E.1 E.2).1 (Cb M.1 M.2 E.1 E.2).2 f).2 2147483647 0≤0):=rfl
theorem AeO (k:p') (h:Hd9 p'→p:=by with_reducible first|(intro Z9;refine qq ?_;exact Z9.o)|(intro Z9;refine Tx 0 ?_;refine gN xBo <| gN xBo <| gO xA ?_;exact Z9.o)|(intro Z9;refine Tx 1 ?_;refine gO (xCl func68 (OF)) <| gN (xAl Av) <| gZ (xSk Ae) ?_;exact Z9.o)|fail):p:=h ⟨k⟩
theorem Ajn (k:p') (h:Hd9 p'→p:=by with_reducible first|(intro Z9;refine Tx 2 ?_;refine gO xF <| gO xD <| gO xM <| gO (by first|exact xIr Af (AF hFi)|exact xIr Af (hIi)|exact xIr Af (hEi)) <| gO xD <| gO xA ?_;exact Z9.o)|(intro Z9;refine BX (id:=3) AX (by kernel_rfl) ?_;refine gP xF <| gP xD <| gP xM <| gP (by first|exact xIr Aw (hIi)|exact xIr Aw (hEi)) <| gP xL <| gP (xCl func159 (MG)) <| gP xM <| gP xM <| gP (by first|exact xIr Ai (hIi)|exact xIr Ai (hEi)) <| gP xL <| gP (xCl func152 (AD1)) <| gP xM <| gP (xCl func21 (SH1)) <| gP xL <| gP (xCl func15 (CM1)) <| gP xGt ?_;refine Ke ?_;exact Z9.o)|fail):p:=h ⟨k⟩
theorem Eu (h:p:=by
 exact Ax rfl (.cons_ (DJ rfl (rfl)) .nil_)):p:=h
theorem AqI (h:p:=by first|exact xIr Aw (hIi)|exact xIr Aw (hEi)|exact xIr Aw (hIa)|exact xIr Aw (hEa)):p:=h
theorem AqJ (h:p:=by first|exact xIr Ai (hIi)|exact xIr Ai (hEi)|exact xIr Ai (hIa)|exact xIr Ai (hEa)):p:=h
theorem AqK (h:p:=by first|exact xCl func152 (AD1)|exact xCl func152 (AD2)):p:=h
theorem AqL (h:p:=by first|exact xCl func21 (SH1)|exact xCl func21 (SH2)):p:=h
theorem AqM (h:p:=by first|exact xCl func15 (CM1)|exact xCl func15 (CM2)):p:=h
theorem AeP (t u:Bool) {ps:List Prt} {bs:List Bk} (os:List Int) (c:Ct) (E:List Pq) (hE:E.length=bs.length) (sE:∀ p∈E,Sm p LB LB) (i:Nat) {y:Bk} (hy:bs[i]?=some y) (B:Ana ps bs.length y) (hF:c.F.length=bs.length) (hR:c.R.length=bs.length) (sR:∀ p∈c.R,IwS p LB LB) (hn:bs.length≤1000000) (hs2:0≤scA c.F i∧scA c.F i≤30):CV prog An 128 [aDg t ps bs os,.agg (dCt u c),.one (rowE E),aI (i:Int)] [aB (Ahq c.F c.R E y i)]:=by
 refine cvz func128 ntmps128 ?_
 have hil:=(gS.1 hy).1
 have hFi:=WS (F:=c.F) (k:=i) (by omega)
 obtain ⟨s,hs⟩:∃ s,scA c.F i=s:=⟨_,rfl⟩
 rw [hs] at hFi
 have hBl:=B.len
 rw [hs] at hs2
 have hil2:i<c.R.length:=by omega
 have hIi:=Ajk hil2
 have hEi:=Ajj (E:=E) (k:=i) (by omega)
 have si:=Bp sR i
 have se:=CL sE i
 obtain ⟨P,hP⟩:∃ P,c.R[i]?.getD iZ=P:=⟨_,rfl⟩
 obtain ⟨e,he⟩:∃ e,E[i]?.getD (0,0)=e:=⟨_,rfl⟩
 rw [hP] at si hIi
 rw [he] at se hEi
 have MG:=SJ P (si.more LBx LBx)
 have sg:=Rs si
 obtain ⟨M,hM⟩:∃ M,Gb P=M:=⟨_,rfl⟩
 rw [hM] at MG sg
 have OF:=Lm 2147483647 (by decide) (by decide)
 have AD1:=Db M.1 M.2 e.1 e.2 sg.ok se.ok sg.lz se.lz
 have ss1:=Sm.sum sg se (by decide)
 obtain ⟨S1,hS1⟩:∃ S,Cb M.1 M.2 e.1 e.2=S:=⟨_,rfl⟩
 rw [hS1] at AD1 ss1
 have SH1:=BR S1.1 S1.2 s ss1.ok ss1.lz (by have:=ss1.ok.1;omega)
 have st1:=PW ss1 hs2.1 hs2.2
 obtain ⟨T1,hT1⟩:∃ T,Ac S1.1 S1.2 s=T:=⟨_,rfl⟩
 rw [show Gy S1 s=T1 from hT1] at st1
 rw [hT1] at SH1
 have CM1:=Ec T1.1 T1.2 2147483647 0 st1.ok ⟨by decide,fun h=>absurd rfl h⟩ st1.lz (lT (AY (k:=2) (by decide)) (by decide))
 have sb1:IL (Ee M e) s=decide (Cm T1.1 T1.2 2147483647 0≤0):=by rw [vfit,hS1,hT1]
 generalize Cm T1.1 T1.2 2147483647 0=q1 at *
 have hb:Ahq c.F c.R E y i=(decide (q1≤0) && (!decide (y.kind=11) || IL (Ee (rG c.R (Bt y)).2 (eG E (Bt y))) s)):=by unfold Ahq;rw [hs,hP,he,hM,sb1]
 rw [hb]
 by_cases c1:q1≤0
 case neg =>
  rw [decide_eq_false c1,gh]
  repeat' (with_reducible first|refine AeO ?_|refine Ajn ?_|(refine Tx 4 ?_;refine gO xA ?_))
  exact Eu
 rw [decide_eq_true c1,jh]
 by_cases k11:y.kind=11
 case neg =>
  rw [decide_eq_false k11,fd,Bool.true_or]
  repeat' (with_reducible first|refine AeO ?_|refine Ajn ?_|(refine Tx 5 ?_;refine gO xF <| gO xD <| gO xM <| gO (by first|exact xIr Aj (DK hy)|exact xIr Aj (hIi)|exact xIr Aj (hEi)) <| gO xL <| gN (xAl Bw) <| gZ (xSk Bm) ?_)|(refine Tx 6 ?_;refine gO xF <| gO xD <| gO xNe ?_)|(refine Tx 7 ?_;refine gO xA ?_))
  exact Eu
 rw [decide_eq_true k11,fb,ei]
 obtain ⟨a,hA0,ha0,hl0⟩:=B.a0 (by omega)
 have hl0:=hl0 (by omega)
 have hL0:=(gS.1 hA0).1
 rw [ha0,YS,RF]
 have hIa:=Ajk (R:=c.R) (k:=a) (by omega)
 have hEa:=Ajj (E:=E) (k:=a) (by omega)
 have sj:=Bp sR a
 have sf:=CL sE a
 obtain ⟨Q,hQ⟩:∃ Q,c.R[a]?.getD iZ=Q:=⟨_,rfl⟩
 obtain ⟨f,hf⟩:∃ f,E[a]?.getD (0,0)=f:=⟨_,rfl⟩
 rw [hQ] at sj hIa
 rw [hf] at sf hEa
 rw [hQ,hf]
 have sq:=sj.s2
 have AD2:=Db Q.2.1 Q.2.2 f.1 f.2 sq.ok sf.ok sq.lz sf.lz
 have ss2:=Sm.sum sq sf (by decide)
 obtain ⟨S2,hS2⟩:∃ S,Cb Q.2.1 Q.2.2 f.1 f.2=S:=⟨_,rfl⟩
 rw [hS2] at AD2 ss2
 have SH2:=BR S2.1 S2.2 s ss2.ok ss2.lz (by have:=ss2.ok.1;omega)
 have st2:=PW ss2 hs2.1 hs2.2
 obtain ⟨T2,hT2⟩:∃ T,Ac S2.1 S2.2 s=T:=⟨_,rfl⟩
 rw [show Gy S2 s=T2 from hT2] at st2
 rw [hT2] at SH2
 have CM2:=Ec T2.1 T2.2 2147483647 0 st2.ok ⟨by decide,fun h=>absurd rfl h⟩ st2.lz (lT (AY (k:=2) (by decide)) (by decide))
 have sb2:IL (Ee Q.2 f) s=decide (Cm T2.1 T2.2 2147483647 0≤0):=by rw [vfit,hS2,hT2]
 generalize Cm T2.1 T2.2 2147483647 0=q2 at *
 rw [sb2]
 repeat' (with_reducible first|refine AeO ?_|(refine Tx 2 ?_;refine gO xF <| gO xD <| gO xM <| gO (by first|exact xIr Af (AF hFi)|exact xIr Af (hIi)|exact xIr Af (hEi)|exact xIr Af (hIa)|exact xIr Af (hEa)) <| gO xD <| gO xA ?_)|(refine BX (id:=3) AX (by kernel_rfl) ?_;refine gP xF <| gP xD <| gP xM <| gP AqI <| gP xL <| gP (xCl func159 (MG)) <| gP xM <| gP xM <| gP AqJ <| gP xL <| gP AqK <| gP xM <| gP AqL <| gP xL <| gP AqM <| gP xGt ?_;refine Ke ?_)|(refine Tx 5 ?_;refine gO xF <| gO xD <| gO xM <| gO (by first|exact xIr Aj (DK hy)|exact xIr Aj (hIi)|exact xIr Aj (hEi)|exact xIr Aj (hIa)|exact xIr Aj (hEa)) <| gO xL <| gN (xAl Bw) <| gZ (xSk Bm) ?_)|(refine Tx 6 ?_;refine gO xF <| gO xD <| gO xNe ?_)|(refine Tx 8 ?_;refine gO xF <| gO xD <| gO (by first|exact xIr Af (hIi)|exact xIr Af (hEi)|exact xIr Af (AF hA0)|exact xIr Af (hIa)|exact xIr Af (hEa)) <| gO xD <| gO xA ?_)|(refine BX (id:=9) AX (by kernel_rfl) ?_;refine gP xF <| gP xD <| gP xM <| gP AqI <| gP xF <| gP xL <| gP xM <| gP xM <| gP AqJ <| gP xL <| gP AqK <| gP xM <| gP AqL <| gP xL <| gP AqM <| gP xLe <| gP xA ?_;refine Ke ?_))
 exact Eu
theorem Vb (k:p') (h:Hd9 p'→p:=by with_reducible first|(intro Z9;refine qq ?_;exact Z9.o)|(intro Z9;refine Tx 0 ?_;refine gN xBo <| gN xBo <| gO xA ?_;exact Z9.o)|(intro Z9;refine Tx 1 ?_;refine gO xL <| gO xL <| gO xM <| gO (xCl func125 (S1)) <| gO DM <| gO xA ?_;exact Z9.o)|fail):p:=h ⟨k⟩
theorem YU (k:p') (h:Hd9 p'→p:=by with_reducible first|(intro Z9;refine Tx 3 ?_;refine gO xL <| gO xL <| gO xM <| gO (xCl func126 (S2)) <| gO DM <| gO xA ?_;exact Z9.o)|fail):p:=h ⟨k⟩
theorem AeQ (k:p') (h:Hd9 p'→p:=by with_reducible first|(intro Z9;refine BX (id:=5) AX (by kernel_rfl) ?_;refine gP xF <| gP xD <| gP xM <| gP (xIr Ai (hEi)) <| gP xL <| gP xL <| gP xL <| gP xF <| gP xD <| gP xM <| gP (xCl func127 (BD)) <| gP (xCl func15 (CM)) <| gP xLt <| gP xA ?_;refine Ke ?_;exact Z9.o)|fail):p:=h ⟨k⟩
theorem Vc (h:p:=by
 exact Ax rfl (.cons_ (QX rfl rfl) .nil_)):p:=h
theorem Aax (t u:Bool) {ps:List Prt} {bs:List Bk} (os:List Int) (c:Ct) (i:Nat) {y:Bk} (hy:bs[i]?=some y) (B:Ana ps bs.length y) (ok:Ark bs c) (hn:bs.length≤1000000) (hpn:ps.length≤1000000):CV prog An 50 [aDg t ps bs os,.agg (dCt u c),aI (i:Int)] [aI (NW ps bs c i)]:=by
 refine cvz func50 ntmps50 ?_
 have hA:=Di hy
 have hil:=(gS.1 hy).1
 have S1:=WT t u os c i hy B ok.lF hn hpn
 have S2:=WV t u os c i hy B ok.lR ok.sR hn hpn
 unfold NW
 rw [hA]
 dsimp only
 cases h1:DG ps c.F y i
 case false =>
  rw [h1] at S1
  rw [if_pos rfl]
  repeat' (with_reducible first|refine Vb ?_|(refine Tx 2 ?_;refine gO xA ?_))
  exact Vc
 rw [h1] at S1
 rw [if_neg (by decide)]
 have h1s:=h1
 unfold DG at h1s
 rw [ah,ah] at h1s
 have hs2:0≤scA c.F i∧scA c.F i≤30:=of_decide_eq_true h1s.1
 have hsa:y.kind≠0→∀ a∈y.args,0≤sG c.F a∧sG c.F a≤30:=fun k0 a ha=>by
   have h2:=h1s.2.1
   rw [decide_eq_false k0,ei] at h2
   exact of_decide_eq_true (List.all_eq_true.1 h2 a ha)
 cases h2:CN ps c.R y i
 case false =>
  rw [h2] at S2
  rw [if_pos rfl]
  repeat' (with_reducible first|refine Vb ?_|refine YU ?_|(refine Tx 4 ?_;refine gO xA ?_))
  exact Vc
 rw [h2] at S2
 rw [if_neg (by decide)]
 have BD:=Aaw false (rowE c.E) t u os c c.E ok.lE ok.sE i hy B ok.lF ok.lR ok.sR hn hpn hs2 hsa
 have sb:=YD (ps:=ps) (F:=c.F) (y:=y) hs2.1 hs2.2 ok.sR ok.sE (fun h6=>B.sv (by omega))
 have se:=CL ok.sE i
 have hEi:=Ajj (E:=c.E) (k:=i) (by have:=ok.lE;omega)
 have hlE:=ok.lE
 obtain ⟨e,he⟩:∃ e,c.E[i]?.getD (0,0)=e:=⟨_,rfl⟩
 rw [he] at se hEi
 rw [he]
 generalize AU ps c.F c.R c.E y (scA c.F i)=b at *
 have CM:=Ec e.1 e.2 b.1 b.2 se.ok sb.ok se.lz sb.lz
 rw [show ZI e b=Cm e.1 e.2 b.1 b.2 from rfl]
 generalize Cm e.1 e.2 b.1 b.2=q at *
 have FT:=AeP t u os c c.E ok.lE ok.sE i hy B ok.lF ok.lR ok.sR hn hs2
 by_cases h3:q<0
 case pos =>
  rw [if_pos h3]
  repeat' (with_reducible first|refine Vb ?_|refine YU ?_|refine AeQ ?_|(refine Tx 6 ?_;refine gO xA ?_))
  exact Vc
 rw [if_neg h3]
 cases h4:Ahq c.F c.R c.E y i
 case false =>
  rw [h4] at FT
  rw [if_pos rfl]
  repeat' (with_reducible first|refine Vb ?_|refine YU ?_|refine AeQ ?_|(refine Tx 7 ?_;refine gO xL <| gO xL <| gO xF <| gO xD <| gO xM <| gO (xCl func128 (FT)) <| gO DM <| gO xA ?_)|(refine Tx 8 ?_;refine gO xA ?_))
  exact Vc
 rw [h4] at FT
 rw [if_neg (by decide)]
 repeat' (with_reducible first|refine Vb ?_|refine YU ?_|refine AeQ ?_|(refine Tx 7 ?_;refine gO xL <| gO xL <| gO xF <| gO xD <| gO xM <| gO (xCl func128 (FT)) <| gO DM <| gO xA ?_)|(refine Tx 9 ?_;refine gO xA ?_))
 exact Vc
theorem Qi:∀ {l:List Int},(∀ x∈l,x=0)→Ah l=0
 | [],_=>rfl
 | x::l,h=>by
  unfold Ah
  rw [if_pos (h x (ii ..))]
  exact Qi fun y hy=>h y (ij _ hy)
section
variable {P:Program} {F:Frm} {H:List Ob}
theorem Asr {t:Tmp} {ty ty' id k:Nat} {x y:Int} (hk:TyK P ty true k) (hi:2=k:=by rfl) (hF:F t=.one (.ref id 0 none):=by with_unfolding_all exact rfl) (hH:H[id]?=some (.box ty' [.d (.val (.int .i64 x)),.d (.val (.int .i64 y))]):=by with_unfolding_all exact rfl):RV P F H (.cell t ty) (.agg [dI x,dI y]):=by
 obtain ⟨⟨dd,hu,hd⟩,hz⟩:=hk
 exact .cellA hF hH hu hd (by rw [hz,←hi];rfl) (.cons_ (.d fun _=>.val _) (.cons_ (.d fun _=>.val _) .nil_))
end
def dCr (u:Bool) (F:List Int) (qs:List (Rv × Rv)) (rs:List Rv):List D:=[Ba u F,AdP qs,Yd rs]
def Qp (q:Rv × Rv) (r:Rv):Int:=if ivC q=false∨vdB r.rw=false∨sgI (rvP r).1<0 then 2 else if CI (rvP r)=true∨CI (rvP q.1)=true∨CI (rvP q.2)=true then 4 else 0
def ckL (qs:List (Rv × Rv)) (rs:List Rv):Int:=Ah (List.zipWith Qp qs rs)
def ckE (ps:List Prt) (bs:List Bk) (os:List Int) (F:List Int) (qs:List (Rv × Rv)) (rs:List Rv):Int :=
 if Bl ps bs os≠0 then Bl ps bs os else if F.length=bs.length∧qs.length=bs.length∧rs.length=bs.length then ckL qs rs else 11
def AeR (F:List Int) (qs:List (Rv × Rv)) (rs:List Rv):Ct:=⟨F,qs.map ivQ,rs.map rvP⟩
theorem AeS {k:Nat} {q:Rv × Rv} (h1:qs[k]?=some q) (h2:rs[k]?=some r):(List.zipWith Qp qs rs)[k]?=some (Qp q r):=by rw [List.getElem?_zipWith,h1,h2]
theorem AqN {k:Nat} {q:Rv × Rv} (h:∀ j x,j<k→(List.zipWith Qp qs rs)[j]?=some x→x=0) (h1:qs[k]?=some q) (h2:rs[k]?=some r) (h0:Qp q r≠0):ckL qs rs=Qp q r:=PG h (AeS h1 h2) h0
theorem AmD (hr:RvL r) (hv:vdB r.rw=true):dRv false r=dyP (rvP r)∧Nf (rvP r).1 (rvP r).2∧(Ad (rvP r).1.natAbs).length≤40000:=by
 obtain ⟨a,b,c⟩:=Sv (t:=false) hr.1 hv
 exact ⟨a,b,by rw [show (rvP r).1=r.rw.x from rfl,c];exact hr.2⟩
theorem AmE (hq:∀ q∈qs,RvL q.1∧RvL q.2) (hr:∀ r∈rs,RvL r) (h:ckE ps bs os F qs rs=0):Bl ps bs os=0∧Ark bs (AeR F qs rs)∧dCr false F qs rs=dCt false (AeR F qs rs)∧(∀ q∈qs,ivC q=true)∧(∀ r∈rs,vdB r.rw=true):=by
 unfold ckE at h
 by_cases h0:Bl ps bs os=0
 case neg=>rw [if_pos h0] at h;exact absurd h h0
 rw [if_neg (not_not_intro h0)] at h
 by_cases hl:F.length=bs.length∧qs.length=bs.length∧rs.length=bs.length
 case neg=>rw [if_neg hl] at h;cases h
 rw [if_pos hl] at h
 obtain ⟨l1,l2,l3⟩:=hl
 have hz:=Cu h
 have key:∀ (k:Nat) (q:Rv × Rv) (r:Rv),qs[k]?=some q→rs[k]?=some r→ivC q=true∧vdB r.rw=true∧0≤sgI (rvP r).1∧CI (rvP r)=false∧CI (rvP q.1)=false∧CI (rvP q.2)=false:=fun k q r h1 h2=>by
  have h3:=hz _ (gM (AeS h1 h2))
  unfold Qp at h3
  by_cases c1:ivC q=false∨vdB r.rw=false∨sgI (rvP r).1<0
  ·rw [if_pos c1] at h3;cases h3
  rw [if_neg c1] at h3
  by_cases c2:CI (rvP r)=true∨CI (rvP q.1)=true∨CI (rvP q.2)=true
  ·rw [if_pos c2] at h3;cases h3
  simp only [not_or,mc,em,Int.not_lt] at c1 c2
  exact ⟨c1.1,c1.2.1,c1.2.2,c2.1,c2.2.1,c2.2.2⟩
 have kq:∀ q∈qs,∃r,r∈rs∧ivC q=true∧CI (rvP q.1)=false∧CI (rvP q.2)=false:=fun q hm=>by
  obtain ⟨k,hk⟩:=dt hm
  obtain ⟨r,hr⟩:∃ r,rs[k]?=some r:=⟨_,gE (by have:=(gS.1 hk).1;omega)⟩
  have:=key k q r hk hr
  exact ⟨r,gM hr,this.1,this.2.2.2.2.1,this.2.2.2.2.2⟩
 have kr:∀ r∈rs,vdB r.rw=true∧0≤sgI (rvP r).1∧CI (rvP r)=false:=fun r hm=>by
  obtain ⟨k,hk⟩:=dt hm
  obtain ⟨q,hq⟩:∃ q,qs[k]?=some q:=⟨_,gE (by have:=(gS.1 hk).1;omega)⟩
  have:=key k q r hq hk
  exact ⟨this.2.1,this.2.2.1,this.2.2.2.1⟩
 refine ⟨h0,⟨l1,by show (qs.map ivQ).length=_;rw [af];exact l2,by show (rs.map rvP).length=_;rw [af];exact l3,fun p hp=>?_,fun p hp=>?_,fun p hp=>?_⟩,?_,fun q hm=>(kq q hm).choose_spec.2.1,fun r hm=>(kr r hm).1⟩
 ·obtain ⟨q,hm,rfl⟩:=List.mem_map.1 hp
  obtain ⟨_,_,v,g1,g2⟩:=kq q hm
  exact Aqb (AdQ (hq q hm).1 (hq q hm).2 v).1 (by unfold AlW;rw [show CI (ivQ q).1=false from g1,show CI (ivQ q).2=false from g2];rfl)
 ·obtain ⟨r,hm,rfl⟩:=List.mem_map.1 hp
  obtain ⟨v,_,g⟩:=kr r hm
  exact ZH (AmD (hr r hm) v).2.1 g
 ·obtain ⟨r,hm,rfl⟩:=List.mem_map.1 hp
  obtain ⟨_,g,_⟩:=kr r hm
  have hx:0≤(rvP r).1:=cw fun hn=>by rw [show sgI (rvP r).1 = -1 by unfold sgI;(repeat' split) <;> omega] at g;omega
  exact jd hx (bl (Cf _))
 ·unfold dCr dCt AeR AdP Yd
  have e1:AN (dIr false) qs=AN (dIw false) (qs.map ivQ):=by
   unfold AN
   rw [jb]
   congr 1
   exact ig fun q hm=>by
    obtain ⟨_,_,v,_⟩:=kq q hm
    exact (AdQ (hq q hm).1 (hq q hm).2 v).2.1
  have e2:AN (dRv false) rs=AN dyP (rs.map rvP):=by
   unfold AN
   rw [jb]
   congr 1
   exact ig fun r hm=>(AmD (hr r hm) (kr r hm).1).1
  rw [e1,e2]
  simp only [af]
def vfK (ps:List Prt) (bs:List Bk) (c:Ct):Option Nat:=(List.range bs.length).find? fun i=>decide (NW ps bs c i≠0)
def vfF (ps:List Prt) (bs:List Bk) (c:Ct):Int × Int:=match vfK ps bs c with
 | none=>(0,0)
 | some i=>(NW ps bs c i,(i:Int))
theorem AeT {c:Ct}:vfK ps bs c=none ↔ ∀ i,i<bs.length→NW ps bs c i=0:=by
 unfold vfK
 rw [List.find?_eq_none]
 simp
theorem AmF {c:Ct} {k:Nat} (hk:k<bs.length) (h:∀ i,i<k→NW ps bs c i=0) (h0:NW ps bs c k≠0):vfK ps bs c=some k:=by
 unfold vfK
 rw [List.find?_range_eq_some]
 exact ⟨by simpa using h0,List.mem_range.2 hk,fun j hj=>by simp [h j hj]⟩
def vfE (ps:List Prt) (bs:List Bk) (os F:List Int) (qs:List (Rv × Rv)) (rs:List Rv):Bool:=decide (ckE ps bs os F qs rs=0) && (vfK ps bs (AeR F qs rs)).isNone
def vfP (ps:List Prt) (bs:List Bk) (os F:List Int) (qs:List (Rv × Rv)) (rs:List Rv):Int × Int:=if ckE ps bs os F qs rs=0 then vfF ps bs (AeR F qs rs) else (0,0)
theorem AmG (hq:∀ q∈qs,RvL q.1∧RvL q.2) (hr:∀ r∈rs,RvL r) (h:vfE ps bs os F qs rs=true):He ps bs os (AeR F qs rs):=by
 unfold vfE at h
 rw [ah,decide_eq_true_eq,Option.isNone_iff_eq_none] at h
 obtain ⟨a,b,_⟩:=AmE hq hr h.1
 exact ⟨a,b,AeT.1 h.2⟩
theorem Qj (x:Pq) (n1:Nf x.1 x.2) (l1:(Ad x.1.natAbs).length≤40000):CV prog An 124 [aDy false x.1 x.2] [aB (CI x)]:=by
 refine cvz func124 ntmps124 ?_
 have B1:=Sw x.1 x.2 n1 l1
 have hm:decide ((4096:Int)<max ((CS x.1.natAbs:Nat):Int) (x.2:Int))=CI x:=by unfold CI AoU;rw [Bool.eq_iff_iff,decide_eq_true_eq,decide_eq_true_eq];omega
 repeat' (with_reducible first|refine qq ?_|(refine Tx 0 ?_;refine gN xBo <| gO xA ?_)|(refine BX (id:=1) AX (by kernel_rfl) ?_;refine gP xL <| gP (xCl func212 (B1)) <| gP xF <| gP xD <| gP (by exact GI rfl rfl rfl) <| gP (by first|exact AbP rfl rfl rfl hm|exact xGt) <| gP xA ?_;refine Ke ?_))
 exact Eu
theorem Vd (k:p') (h:Hd9 p'→p:=by with_reducible first|(intro Z9;refine Tx 0 ?_;refine gN xBo <| gN xBo <| gO xA ?_;exact Z9.o)|(intro Z9;refine Tx 1 ?_;refine gO xL <| gO (xCl func35 (CK)) <| gO xA ?_;exact Z9.o)|fail):p:=h ⟨k⟩
theorem YV (k:p') (h:Hd9 p'→p:=by with_reducible first|(intro Z9;refine Tx 2 ?_;refine gO xM <| gO (xNE Ap) ?_;exact Z9.o)|(intro Z9;refine Tx 4 ?_;refine gO xF <| gO xD <| gO xN <| gO xA ?_;exact Z9.o)|(intro Z9;refine Tx 5 ?_;refine gO xF <| gO xD <| gO xN <| gO xM <| gO xNe <| gO xM ?_;(first|iterate 5 refine Jd ?_|(refine Jy (xFa LO BB) ?_;refine Jy (xLd BB) ?_;refine Jy (xLn Aw) ?_;refine Jy xM1 ?_;refine Jy xNe ?_));refine gO xPk <| gO xM ?_;(first|iterate 5 refine Jd ?_|(refine Jy (xFa Eb Ar) ?_;refine Jy (xLd Ar) ?_;refine Jy (xLn Ai) ?_;refine Jy xM1 ?_;refine Jy xNe ?_));refine gO xPk ?_;exact Z9.o)|fail):p:=h ⟨k⟩
theorem AqO (h:p:=by first|exact xIr Ai (Aaa hq)|exact xIr Ai (Uy hr)):p:=h
theorem Ajo (k:p') (h:Hd9 p'→p:=by with_reducible first|(intro Z9;refine Tx 9 ?_;refine gO xM <| gO (by first|exact xIr Aw (Aaa hq)|exact xIr Aw (Uy hr)) <| gO xL <| gN (xAl AE) <| gO xA <| gZ (xSk Ag) ?_;exact Z9.o)|(intro Z9;refine Tx 10 ?_;refine gO xL <| gO (xCl func122 (VI)) <| gO DM <| gO xM ?_;(first|iterate 7 refine Jd ?_|(refine Jy (xFa Eb Ar) ?_;refine Jy (xLd Ar) ?_;refine Jy xM1 ?_;refine Jy AqO ?_;refine Jy (xLa Ae) ?_;refine Jy (xCl func123 (VD)) ?_;refine Jy DM ?_));refine gO xPk <| gO xM ?_;(first|iterate 5 refine Jd ?_|(refine Jy (xFa Eb Ar) ?_;refine Jy (xLd Ar) ?_;refine Jy xM1 ?_;refine Jy AqO ?_;refine Jy (xLa Ae) ?_));refine Jd ?_;(first|refine Jd ?_|refine Jy xLt ?_);refine gO xPk ?_;exact Z9.o)|fail):p:=h ⟨k⟩
theorem AmH (h:p:=by first|exact xCl func124 (LR)|exact xCl func124 (L1)|exact xCl func124 (L2)):p:=h
theorem AmI (h:p:=by first|exact xIr Ai (hia)|exact xIr Ai (hra)):p:=h
theorem YW (k:p') (h:Hd9 p'→p:=by with_reducible first|(intro Z9;refine Tx 9 ?_;refine gO xM <| gO (by first|exact xIr Aw (hia)|exact xIr Aw (hra)) <| gO xL <| gN (xAl AE) <| gO xA <| gZ (xSk Ag) ?_;exact Z9.o)|(intro Z9;refine Tx 10 ?_;refine gO xL <| gO (xCl func122 (VI2)) <| gO DM <| gO xM ?_;(first|iterate 7 refine Jd ?_|(refine Jy (xFa Eb Ar) ?_;refine Jy (xLd Ar) ?_;refine Jy xM1 ?_;refine Jy AmI ?_;refine Jy (xLa Ae) ?_;refine Jy (xCl func123 (VD2)) ?_;refine Jy DM ?_));refine gO xPk <| gO xM ?_;(first|iterate 7 refine Jd ?_|(refine Jy (xFa Eb Ar) ?_;refine Jy (xLd Ar) ?_;refine Jy xM1 ?_;refine Jy AmI ?_;refine Jy (xLa Ae) ?_;refine Jy (xCl func55 (SG)) ?_;refine Jy xLt ?_));refine gO xPk ?_;exact Z9.o)|(intro Z9;refine Tx 12 ?_;refine gO xF <| gO xD <| gO xM <| gO AmI <| gO xL <| gO AmH <| gO xM ?_;(first|iterate 3 refine Jd ?_|(refine Jy (xFa Cs Ae) ?_;refine Jy (xLa Ae) ?_;refine Jy AmH ?_));refine gO xPk <| gO xM ?_;(first|iterate 3 refine Jd ?_|(refine Jy (xFa AP Ae) ?_;refine Jy (xLa Ae) ?_;refine Jy AmH ?_));refine gO xPk ?_;exact Z9.o)|fail):p:=h ⟨k⟩
theorem MF (h:p:=by
 exact Ax rfl (.cons_ (Agc rfl (by decide) rfl) .nil_)):p:=h
theorem AqP (h:p:=by first|exact BV rfl Ap rfl (Li h0)|exact BV rfl Ap rfl (Qt (by first|rfl|omega))|exact BV rfl Ap rfl (Li (by first|assumption|omega))|exact BV rfl Ap rfl rfl):p:=h
theorem AqQ (h:p:=by first|exact xIr Ai (Aaa hq)|exact xIr Ai (hra)):p:=h
theorem Aay (t u:Bool) {ps:List Prt} {bs:List Bk} {os:List Int} (hl:FK ps bs os) (F:List Int) (qs:List (Rv × Rv)) (rs:List Rv) (hwq:∀ q∈qs,RvL q.1∧RvL q.2) (hwr:∀ r∈rs,RvL r) (hFl:F.length≤1000000) (hQl:qs.length≤1000000) (hRl:rs.length≤1000000):CV prog An 49 [aDg t ps bs os,.agg (dCr u F qs rs)] [aE (ckE ps bs os F qs rs)]:=by
 refine cvz func49 ntmps49 ?_
 have CK:=(PL t hl).cv
 have hl1:=hl.l1
 have hl2:=hl.l2
 by_cases h0:Bl ps bs os=0
 case neg =>
  have hb:ckE ps bs os F qs rs=Bl ps bs os:=by unfold ckE;rw [if_pos h0]
  rw [hb]
  repeat' (with_reducible first|refine qq ?_|refine Vd ?_|(refine Tx 2 ?_;refine gO xM <| gO AqP ?_)|(refine Tx 3 ?_;refine gO xM <| gO xA ?_))
  exact Ax rfl (.cons_ (Acf rfl rfl) .nil_)
 rw [h0] at CK
 by_cases hF:F.length=bs.length
 case neg =>
  have hb:ckE ps bs os F qs rs=11:=by unfold ckE;rw [if_neg (not_not_intro h0),if_neg (fun h=>hF h.1)]
  rw [hb]
  repeat' (with_reducible first|refine qq ?_|refine Vd ?_|refine YV ?_|(refine Tx 6 ?_;refine gO (xMi underlying109) <| gO xA ?_))
  exact MF
 by_cases hQ:qs.length=bs.length
 case neg =>
  have hb:ckE ps bs os F qs rs=11:=by unfold ckE;rw [if_neg (not_not_intro h0),if_neg (fun h=>hQ h.2.1)]
  rw [hb]
  repeat' (with_reducible first|refine qq ?_|refine Vd ?_|refine YV ?_|(refine Tx 6 ?_;refine gO (xMi underlying109) <| gO xA ?_))
  exact MF
 by_cases hR:rs.length=bs.length
 case neg =>
  have hb:ckE ps bs os F qs rs=11:=by unfold ckE;rw [if_neg (not_not_intro h0),if_neg (fun h=>hR h.2.2)]
  rw [hb]
  repeat' (with_reducible first|refine qq ?_|refine Vd ?_|refine YV ?_|(refine Tx 6 ?_;refine gO (xMi underlying109) <| gO xA ?_))
  exact MF
 have hb:ckE ps bs os F qs rs=ckL qs rs:=by unfold ckE;rw [if_neg (not_not_intro h0),if_pos ⟨hF,hQ,hR⟩]
 rw [hb]
 repeat' (with_reducible first|refine qq ?_|refine Vd ?_|refine YV ?_|(refine Tx 7 ?_;refine gO xF <| gO xD <| gO xN <| gO xM ?_))
 refine Bi (BE 2) (Aq (fun n Fr H=>∃ k:Nat,k≤qs.length∧n=qs.length - k∧(∀ (j:Nat) (x:Int),j<k→(List.zipWith Qp qs rs)[j]?=some x→x=0)∧Fr=ofL [(3,vr 1),(38,vd (AdP qs)),(39,vi qs.length),(40,vi ((k:Nat)))]∧H=[.box 26 [.d (Dh t ps),.d (DC t bs),.d (Ba t os)],.box 30 [.d (Ba u F),.d (AdP qs),.d (Yd rs)]]) (n0:=qs.length) ⟨0,ad _,rfl,(fun j x hj=>absurd hj (fk _)),rfl,rfl⟩ ?_)
 rintro n Fr H ⟨k,hk,rfl,hz,rfl,rfl⟩
 by_cases hlt:k<qs.length
 case pos =>
  obtain ⟨q,hq⟩:∃ q,qs[k]?=some q:=⟨_,gE hlt⟩
  obtain ⟨r,hr⟩:∃ r,rs[k]?=some r:=⟨_,gE (by omega)⟩
  have wq:=hwq q (gM hq)
  have wr:=hwr r (gM hr)
  have VI:CV prog An 122 [.agg (dIr false q)] [aB (ivC q)]:=Ro q.1 q.2 wq.1 wq.2
  have VD:=(Md (G:=An) false r wr.1 (by have:=wr.2;omega)).cv
  have hit:=AqN hz hq hr
  cases h1:ivC q
  case false =>
   have hc:Qp q r=2:=by unfold Qp;rw [if_pos (.inl h1)]
   rw [hit (by rw [hc];decide),hc]
   rw [h1] at VI
   repeat' (with_reducible first|refine qq ?_|(refine Tx 8 ?_;refine gO xLt ?_)|refine Ajo ?_|(refine Tx 11 ?_;refine gO (xMi underlying109) <| gO xA ?_))
   exact MF
  rw [h1] at VI
  cases h2:vdB r.rw
  case false =>
   have hc:Qp q r=2:=by unfold Qp;rw [if_pos (.inr (.inl h2))]
   rw [hit (by rw [hc];decide),hc]
   rw [h2] at VD
   repeat' (with_reducible first|refine qq ?_|(refine Tx 8 ?_;refine gO xLt ?_)|refine Ajo ?_|(refine Tx 11 ?_;refine gO (xMi underlying109) <| gO xA ?_))
   exact MF
  rw [h2] at VD
  obtain ⟨d0,n0,m0⟩:=AmD wr h2
  have SG:=PO (rvP r).1 (rvP r).2 n0 m0
  have hra:=Uy hr
  have hra:=Uy hr
  have VD2:CV prog An 123 [.agg (dyP (rvP r))] [aB true]:=by rw [←d0];exact VD
  rw [d0] at hra
  by_cases h3:sgI (rvP r).1<0
  case pos =>
   have hc:Qp q r=2:=by unfold Qp;rw [if_pos (.inr (.inr h3))]
   rw [hit (by rw [hc];decide),hc]
   repeat' (with_reducible first|refine qq ?_|(refine Tx 8 ?_;refine gO xLt ?_)|(refine Tx 9 ?_;refine gO xM <| gO (by first|exact xIr Aw (Aaa hq)|exact xIr Aw (hra)) <| gO xL <| gN (xAl AE) <| gO xA <| gZ (xSk Ag) ?_)|(refine Tx 10 ?_;refine gO xL <| gO (xCl func122 (VI)) <| gO DM <| gO xM ?_;(first|iterate 7 refine Jd ?_|(refine Jy (xFa Eb Ar) ?_;refine Jy (xLd Ar) ?_;refine Jy xM1 ?_;refine Jy AqQ ?_;refine Jy (xLa Ae) ?_;refine Jy (xCl func123 (VD2)) ?_;refine Jy DM ?_));refine gO xPk <| gO xM ?_;(first|iterate 7 refine Jd ?_|(refine Jy (xFa Eb Ar) ?_;refine Jy (xLd Ar) ?_;refine Jy xM1 ?_;refine Jy AqQ ?_;refine Jy (xLa Ae) ?_;refine Jy (xCl func55 (SG)) ?_;refine Jy xLt ?_));refine gO xPk ?_)|(refine Tx 11 ?_;refine gO (xMi underlying109) <| gO xA ?_))
   exact MF
  obtain ⟨sw,hdy,lw1,lw2⟩:=AdQ wq.1 wq.2 h1
  have hia:=Aaa hq
  have VI2:CV prog An 122 [.agg (dIw false (ivQ q))] [aB true]:=by rw [←hdy];exact VI
  rw [hdy] at hia
  have LR:=Qj (rvP r) n0 m0
  have L1:=Qj (rvP q.1) sw.s1.ok lw1
  have L2:=Qj (rvP q.2) sw.s2.ok lw2
  have hn2:¬ (ivC q=false∨vdB r.rw=false∨sgI (rvP r).1<0):=by rw [h1,h2];simpa using h3
  cases h4:CI (rvP r)
  case true =>
   have hc:Qp q r=4:=by unfold Qp;rw [if_neg hn2,if_pos (.inl h4)]
   rw [hit (by rw [hc];decide),hc]
   rw [h4] at LR
   repeat' (with_reducible first|refine qq ?_|(refine Tx 8 ?_;refine gO xLt ?_)|refine YW ?_|(refine Tx 13 ?_;refine gO (xMi underlying109) <| gO xA ?_))
   exact MF
  rw [h4] at LR
  cases h5:CI (rvP q.1)
  case true =>
   have hc:Qp q r=4:=by unfold Qp;rw [if_neg hn2,if_pos (.inr (.inl h5))]
   rw [hit (by rw [hc];decide),hc]
   rw [h5] at L1
   repeat' (with_reducible first|refine qq ?_|(refine Tx 8 ?_;refine gO xLt ?_)|refine YW ?_|(refine Tx 13 ?_;refine gO (xMi underlying109) <| gO xA ?_))
   exact MF
  rw [h5] at L1
  cases h6:CI (rvP q.2)
  case true =>
   have hc:Qp q r=4:=by unfold Qp;rw [if_neg hn2,if_pos (.inr (.inr h6))]
   rw [hit (by rw [hc];decide),hc]
   rw [h6] at L2
   repeat' (with_reducible first|refine qq ?_|(refine Tx 8 ?_;refine gO xLt ?_)|refine YW ?_|(refine Tx 13 ?_;refine gO (xMi underlying109) <| gO xA ?_))
   exact MF
  rw [h6] at L2
  have hc:Qp q r=0:=by unfold Qp;rw [if_neg hn2,if_neg (by simp [h4,h5,h6])]
  repeat' (with_reducible first|refine qq ?_|(refine Tx 8 ?_;refine gO xLt ?_)|refine YW ?_|(refine Tx 14 ?_;refine gO xAd <| gO xM ?_))
  exact ⟨_,_,Qu [(3,vr 1),(38,vd (AdP qs)),(39,vi qs.length),(40,vi (((k+1):Nat)))] 2 rfl (mB rfl rfl) ⟨Dl rfl,Dl rfl,trivial⟩,_,by omega,k+1,by omega,rfl,(fun j x hj hx=>by
    rcases ba j k with h|h
    ·exact hz j x h hx
    ·obtain rfl:j=k:=by omega
     rw [AeS hq hr] at hx
     cases hx
     exact hc),rfl,rfl⟩
 obtain rfl:k=qs.length:=by omega
 have he:ckL qs rs=0:=Qi fun x hx=>by
  obtain ⟨j,hj⟩:=dt hx
  exact hz j x (by have:=(gS.1 hj).1;rw [List.length_zipWith] at this;omega) hj
 rw [he]
 repeat' (with_reducible first|refine qq ?_|(refine Tx 8 ?_;refine gO xLt ?_)|(refine Tx 15 ?_;refine gO xA ?_))
 exact Ax rfl (.cons_ (Il rfl rfl) .nil_)
theorem Lv (t:Bool) {ps:List Prt} {bs:List Bk} {os:List Int} (hl:FK ps bs os) (F:List Int) (qs:List (Rv × Rv)) (rs:List Rv) (hwq:∀ q∈qs,RvL q.1∧RvL q.2) (hwr:∀ r∈rs,RvL r) (hFl:F.length≤1000000) (hQl:qs.length≤1000000) (hRl:rs.length≤1000000):CV prog An 12 [aDg t ps bs os,.agg (dCr false F qs rs)] [aB (vfE ps bs os F qs rs),.agg [dI (vfP ps bs os F qs rs).1,dI (vfP ps bs os F qs rs).2],aE (ckE ps bs os F qs rs)]:=by
 refine cvz func12 ntmps12 ?_
 have CK:=Aay t false hl F qs rs hwq hwr hFl hQl hRl
 have hl1:=hl.l1
 have hl2:=hl.l2
 by_cases h0:ckE ps bs os F qs rs=0
 case neg =>
  have e1:vfE ps bs os F qs rs=false:=by unfold vfE;rw [decide_eq_false h0];rfl
  have e2:vfP ps bs os F qs rs=(0,0):=if_neg h0
  rw [e1,e2]
  repeat' (with_reducible first|refine qq ?_|(refine Tx 0 ?_;refine gN xBo <| gN xBo <| gO xA <| gN (xAl Ei) <| gO xA ?_)|(refine Tx 1 ?_;refine gO xL <| gO xL <| gO (xCl func49 (CK)) <| gO xA ?_)|(refine Tx 2 ?_;refine gO xM <| gO AqP ?_)|(refine Tx 3 ?_;refine gO (by exact AC rfl Fq rfl rfl) <| gO xM <| gO xA <| gZ (xSk Bu) <| gO xA ?_))
  exact Ax rfl (.cons_ (DJ rfl rfl) (.cons_ (Asr Bu) (.cons_ (Acf rfl rfl) .nil_)))
 obtain ⟨hd,ok,hdc,_,_⟩:=AmE hwq hwr h0
 rw [h0] at CK
 rw [h0]
 have e2:vfP ps bs os F qs rs=vfF ps bs (AeR F qs rs):=if_pos h0
 have e1:vfE ps bs os F qs rs=(vfK ps bs (AeR F qs rs)).isNone:=by unfold vfE;rw [decide_eq_true h0,jh]
 rw [e1,e2]
 rw [hdc] at CK
 rw [hdc]
 generalize AeR F qs rs=c at *
 clear e1 e2 h0
 repeat' (with_reducible first|refine qq ?_|(refine Tx 0 ?_;refine gN xBo <| gN xBo <| gO xA <| gN (xAl Ei) <| gO xA ?_)|(refine Tx 1 ?_;refine gO xL <| gO xL <| gO (xCl func49 (CK)) <| gO xA ?_)|(refine Tx 2 ?_;refine gO xM <| gO (xNE Ap) ?_)|(refine Tx 4 ?_;refine gO xF <| gO xD <| gO xN <| gO xM ?_))
 refine Bi (BE 3) (Aq (fun n Fr H=>∃ k:Nat,k≤bs.length∧n=bs.length - k∧(∀ i,i<k→NW ps bs c i=0)∧Fr=ofL [(2,vr 0),(3,vr 1),(5,vr 2),(18,vd (DC t bs)),(19,vi bs.length),(20,vi ((k:Nat)))]∧H=[.box 26 [.d (Dh t ps),.d (DC t bs),.d (Ba t os)],.box 30 [.d (Ba false c.F),.d (.row false 6 c.R.length (AN (dIw false) c.R)),.d (.row false 3 c.E.length (AN dyP c.E))],.box 34 [.d (.val (.int .i64 0)),.d (.val (.int .i64 0))]]) (n0:=bs.length) ⟨0,ad _,rfl,(fun i hi=>absurd hi (fk _)),rfl,rfl⟩ ?_)
 rintro n Fr H ⟨k,hk,rfl,hz,rfl,rfl⟩
 by_cases hlt:k<bs.length
 case pos =>
  obtain ⟨y,hy⟩:∃ y,bs[k]?=some y:=⟨_,gE hlt⟩
  have LK:=Aax t false os c k hy (Asq hd hy) ok hl2 hl1
  have vs:=AmF hlt hz
  generalize hq:NW ps bs c k=q at *
  by_cases h1:q=0
  case neg =>
   have vs:=vs h1
   have e1:(vfK ps bs c).isNone=false:=by rw [vs];rfl
   have e2:vfF ps bs c=(q,(k:Int)):=by unfold vfF;rw [vs];show (NW ps bs c k,_)=_;rw [hq]
   rw [e1,e2]
   repeat' (with_reducible first|refine qq ?_|(refine Tx 5 ?_;refine gO xLt ?_)|(refine Tx 6 ?_;refine gO xM <| gO xA ?_)|(refine Tx 7 ?_;refine gO xL <| gO xL <| gO xM <| gO (xCl func50 (LK)) <| gO xA ?_)|(refine Tx 8 ?_;refine gO xM <| gO xNe ?_)|(refine Tx 9 ?_;refine gO xM <| gO xM <| gO (by exact AC rfl Fq rfl rfl) <| gO xA <| gZ (xSk Bu) <| gO xA ?_))
   exact Ax rfl (.cons_ (DJ rfl rfl) (.cons_ (Asr Bu) (.cons_ (Il rfl rfl) .nil_)))
  subst h1
  repeat' (with_reducible first|refine qq ?_|(refine Tx 5 ?_;refine gO xLt ?_)|(refine Tx 6 ?_;refine gO xM <| gO xA ?_)|(refine Tx 7 ?_;refine gO xL <| gO xL <| gO xM <| gO (xCl func50 (LK)) <| gO xA ?_)|(refine Tx 8 ?_;refine gO xM <| gO xNe ?_)|(refine Tx 10 ?_;refine gO xAd <| gO xM ?_))
  refine ⟨_,_,BE 3,_,by omega,k+1,by omega,rfl,Wp hz hq,rfl,rfl⟩
 obtain rfl:k=bs.length:=by omega
 have vn:=AeT.2 hz
 have e1:(vfK ps bs c).isNone=true:=by rw [vn];rfl
 have e2:vfF ps bs c=(0,0):=by unfold vfF;rw [vn]
 rw [e1,e2]
 repeat' (with_reducible first|refine qq ?_|(refine Tx 5 ?_;refine gO xLt ?_)|(refine Tx 11 ?_;refine gO (by exact AC rfl Fq rfl rfl) <| gO xA <| gZ (xSk Bu) <| gO xA ?_))
 exact Ax rfl (.cons_ (DJ rfl rfl) (.cons_ (Asr Bu) (.cons_ (Il rfl rfl) .nil_)))
def Gw (qs:List (Rv × Rv)):Bool:=(qs.all fun q=>decide (q.1.ws.length≤140∧q.2.ws.length≤140∧q.1.den≤9000∧q.2.den≤9000)) && decide (qs.length≤100)
theorem Aaz (h:Gw qs=true) (hw:∀ q∈qs,Ao q.1.ws∧Ao q.2.ws):(∀ q∈qs,RvL q.1∧RvL q.2)∧qs.length≤100∧∀ q∈qs,q.1.ws.length≤140∧q.2.ws.length≤140:=by
 unfold Gw at h
 rw [ah] at h
 have key:∀ q∈qs,q.1.ws.length≤140∧q.2.ws.length≤140:=fun q hq=>by
  have:=of_decide_eq_true (List.all_eq_true.1 h.1 q hq)
  exact ⟨this.1,this.2.1⟩
 exact ⟨fun q hq=>⟨⟨(hw q hq).1,by have:=(key q hq).1;omega⟩,(hw q hq).2,by have:=(key q hq).2;omega⟩,of_decide_eq_true h.2,key⟩
theorem Ve (k:p') (h:Hd9 p'→p:=by with_reducible first|(intro Z9;refine Tx 3 ?_;refine gO (xIr Aw (Aaa hq)) <| gO xL <| gN (xAl AE) <| gZ (xSk Ag) ?_;exact Z9.o)|(intro Z9;refine Tx 4 ?_;refine gO xF <| gO xF <| gO xD <| gO xN <| gO xGt <| gO xM ?_;(first|iterate 5 refine Jd ?_|(refine Jy (xFa AP Ae) ?_;refine Jy (xFa QW EP) ?_;refine Jy (xLd EP) ?_;refine Jy (xLn Pk) ?_;refine Jy xGt ?_));refine gO xPk <| gO xM ?_;(first|iterate 4 refine Jd ?_|(refine Jy (xFa Cs Ae) ?_;refine Jy (xFa Hv Ak) ?_;refine Jy (xLd Ak) ?_;refine Jy xGt ?_));refine gO xPk <| gO xM ?_;(first|iterate 4 refine Jd ?_|(refine Jy (xFa AP Ae) ?_;refine Jy (xFa Hv Ak) ?_;refine Jy (xLd Ak) ?_;refine Jy xGt ?_));refine gO xPk ?_;exact Z9.o)|fail):p:=h ⟨k⟩
theorem YX (h:p:=by
 exact Ax rfl (.cons_ (DJ rfl (by unfold Gw;rw [UO hq (decide_eq_false (by omega)),gh])) .nil_)):p:=h
theorem AeU (qs:List (Rv × Rv)) (hrl:(qs.length:Int)≤9223372036854775807):CV prog An 113 [.one (AdP qs)] [aB (Gw qs)]:=by
 refine cvz func113 ntmps113 ?_
 repeat' (with_reducible first|refine qq ?_|(refine Tx 0 ?_;refine gO xA ?_)|(refine Tx 1 ?_;refine gO xM <| gO xN <| gO xM ?_))
 refine Bi (BE 0) (Aq (fun n Fr H=>∃ k:Nat,k≤qs.length∧n=qs.length - k∧(qs.take k).all (fun q:Rv × Rv=>decide (q.1.ws.length≤140∧q.2.ws.length≤140∧q.1.den≤9000∧q.2.den≤9000))=true∧Fr=ofL [(0,vd (AdP qs)),(5,vd (AdP qs)),(6,vi qs.length),(7,vi ((k:Nat)))]∧H=[]) (n0:=qs.length) ⟨0,ad _,rfl,rfl,rfl,rfl⟩ ?_)
 rintro n Fr H ⟨k,hk,rfl,hall,rfl,rfl⟩
 by_cases hlt:k<qs.length
 case pos =>
  obtain ⟨q,hq⟩:∃ q,qs[k]?=some q:=⟨_,gE hlt⟩
  by_cases c1:q.1.ws.length≤140
  case neg =>
   repeat' (with_reducible first|refine qq ?_|(refine Tx 2 ?_;refine gO xLt ?_)|refine Ve ?_|(refine Tx 5 ?_;refine gO xA ?_))
   exact YX
  by_cases c2:q.2.ws.length≤140
  case neg =>
   repeat' (with_reducible first|refine qq ?_|(refine Tx 2 ?_;refine gO xLt ?_)|refine Ve ?_|(refine Tx 5 ?_;refine gO xA ?_))
   exact YX
  by_cases c3:q.1.den≤9000
  case neg =>
   repeat' (with_reducible first|refine qq ?_|(refine Tx 2 ?_;refine gO xLt ?_)|refine Ve ?_|(refine Tx 5 ?_;refine gO xA ?_))
   exact YX
  by_cases c4:q.2.den≤9000
  case neg =>
   repeat' (with_reducible first|refine qq ?_|(refine Tx 2 ?_;refine gO xLt ?_)|refine Ve ?_|(refine Tx 5 ?_;refine gO xA ?_))
   exact YX
  repeat' (with_reducible first|refine qq ?_|(refine Tx 2 ?_;refine gO xLt ?_)|refine Ve ?_|(refine Tx 6 ?_;refine gO xAd <| gO xM ?_))
  refine ⟨_,_,BE 0,_,by omega,k+1,by omega,rfl,Gr hq hall (decide_eq_true ⟨c1,c2,c3,c4⟩),rfl,rfl⟩
 obtain rfl:k=qs.length:=by omega
 rw [ay] at hall
 by_cases c3:qs.length≤100
 case pos =>
  repeat' (with_reducible first|refine qq ?_|(refine Tx 2 ?_;refine gO xLt ?_)|(refine Tx 7 ?_;refine gO xM <| gO xN <| gO xLe <| gO xA ?_))
  exact Ax rfl (.cons_ (DJ rfl (by unfold Gw;rw [hall,decide_eq_true c3];rfl)) .nil_)
 case neg =>
  repeat' (with_reducible first|refine qq ?_|(refine Tx 2 ?_;refine gO xLt ?_)|(refine Tx 7 ?_;refine gO xM <| gO xN <| gO xLe <| gO xA ?_))
  exact Ax rfl (.cons_ (DJ rfl (by unfold Gw;rw [hall,decide_eq_false c3];rfl)) .nil_)
def AqR (r:Rv):Bool:=decide (r.ws.length≤140∧r.den≤9000)
def Qk (ps:List Prt) (bs:List Bk) (os F:List Int) (qs:List (Rv × Rv)) (rs:List Rv):Bool:=Mu ps bs os && Gw qs && decide (F.length≤100∧rs.length≤100) && rs.all AqR
theorem AaA (h:Qk ps bs os F qs rs=true):Mu ps bs os=true∧Gw qs=true∧F.length≤100∧rs.length≤100∧∀ r∈rs,r.ws.length≤140:=by
 unfold Qk at h
 rw [ah,ah,ah] at h
 have:=of_decide_eq_true h.1.2
 exact ⟨h.1.1.1,h.1.1.2,this.1,this.2,fun r hr=>(of_decide_eq_true (List.all_eq_true.1 h.2 r hr)).1⟩
theorem Vf (k:p') (h:Hd9 p'→p:=by with_reducible first|(intro Z9;refine Tx 0 ?_;refine gN xBo <| gN xBo <| gO xA ?_;exact Z9.o)|(intro Z9;refine Tx 1 ?_;refine gO xL <| gO (xCl func31 (LT)) <| gO DM <| gO xM ?_;(first|iterate 4 refine Jd ?_|(refine Jy (xFa LO BB) ?_;refine Jy (xLd BB) ?_;refine Jy (xCl func113 (LE)) ?_;refine Jy DM ?_));refine gO xPk <| gO xM ?_;(first|iterate 4 refine Jd ?_|(refine Jy (xFa Od Bd) ?_;refine Jy (xLd Bd) ?_;refine Jy (xLn Af) ?_;refine Jy xGt ?_));refine gO xPk <| gO xM ?_;(first|iterate 4 refine Jd ?_|(refine Jy (xFa Eb Ar) ?_;refine Jy (xLd Ar) ?_;refine Jy (xLn Ai) ?_;refine Jy xGt ?_));refine gO xPk ?_;exact Z9.o)|fail):p:=h ⟨k⟩
theorem AeV (k:p') (h:Hd9 p'→p:=by with_reducible first|(intro Z9;refine Tx 5 ?_;refine gO (xIr Ai (Uy hr)) <| gO xL <| gN (xAl Av) <| gZ (xSk Ae) ?_;exact Z9.o)|(intro Z9;refine Tx 6 ?_;refine gO xF <| gO xD <| gO xN <| gO xGt <| gO xM ?_;(first|iterate 3 refine Jd ?_|(refine Jy (xFa Hv Ak) ?_;refine Jy (xLd Ak) ?_;refine Jy xGt ?_));refine gO xPk ?_;exact Z9.o)|fail):p:=h ⟨k⟩
theorem AaB (t u:Bool) (ps:List Prt) (bs:List Bk) (os F:List Int) (qs:List (Rv × Rv)) (rs:List Rv) (hqn:(qs.length:Int)≤9223372036854775807) (hfn:(F.length:Int)≤9223372036854775807) (hrn:(rs.length:Int)≤9223372036854775807):CV prog An 43 [aDg t ps bs os,.agg (dCr u F qs rs)] [aB (Qk ps bs os F qs rs)]:=by
 refine cvz func43 ntmps43 ?_
 have LT:=AdB t ps bs os
 have LE:=AeU qs hqn
 unfold Qk
 cases h1:Mu ps bs os
 case false =>
  rw [h1] at LT
  repeat' (with_reducible first|refine qq ?_|refine Vf ?_|(refine Tx 2 ?_;refine gO xA ?_))
  exact Eu
 rw [h1] at LT
 cases h2:Gw qs
 case false =>
  rw [h2] at LE
  repeat' (with_reducible first|refine qq ?_|refine Vf ?_|(refine Tx 2 ?_;refine gO xA ?_))
  exact Eu
 rw [h2] at LE
 by_cases c1:F.length≤100
 case neg =>
  repeat' (with_reducible first|refine qq ?_|refine Vf ?_|(refine Tx 2 ?_;refine gO xA ?_))
  exact Ax rfl (.cons_ (DJ rfl (by rw [decide_eq_false (fun h=>c1 h.1)];rfl)) .nil_)
 by_cases c2:rs.length≤100
 case neg =>
  repeat' (with_reducible first|refine qq ?_|refine Vf ?_|(refine Tx 2 ?_;refine gO xA ?_))
  exact Ax rfl (.cons_ (DJ rfl (by rw [decide_eq_false (fun h=>c2 h.2)];rfl)) .nil_)
 rw [decide_eq_true (show F.length≤100∧rs.length≤100 from ⟨c1,c2⟩)]
 repeat' (with_reducible first|refine qq ?_|refine Vf ?_|(refine Tx 3 ?_;refine gO xF <| gO xD <| gO xN <| gO xM ?_))
 refine Bi (BE 0) (Aq (fun n Fr H=>∃ k:Nat,k≤rs.length∧n=rs.length - k∧(rs.take k).all AqR=true∧Fr=ofL [(29,vd (Yd rs)),(30,vi rs.length),(31,vi ((k:Nat)))]∧H=[]) (n0:=rs.length) ⟨0,ad _,rfl,rfl,rfl,rfl⟩ ?_)
 rintro n Fr H ⟨k,hk,rfl,hall,rfl,rfl⟩
 by_cases hlt:k<rs.length
 case pos =>
  obtain ⟨r,hr⟩:∃ r,rs[k]?=some r:=⟨_,gE hlt⟩
  by_cases c3:r.ws.length≤140
  case neg =>
   repeat' (with_reducible first|refine qq ?_|(refine Tx 4 ?_;refine gO xLt ?_)|refine AeV ?_|(refine Tx 7 ?_;refine gO xA ?_))
   exact Ax rfl (.cons_ (DJ rfl (by rw [UO hr (decide_eq_false (by omega))];rfl)) .nil_)
  by_cases c4:r.den≤9000
  case neg =>
   repeat' (with_reducible first|refine qq ?_|(refine Tx 4 ?_;refine gO xLt ?_)|refine AeV ?_|(refine Tx 7 ?_;refine gO xA ?_))
   exact Ax rfl (.cons_ (DJ rfl (by rw [UO hr (decide_eq_false (by omega))];rfl)) .nil_)
  repeat' (with_reducible first|refine qq ?_|(refine Tx 4 ?_;refine gO xLt ?_)|refine AeV ?_|(refine Tx 8 ?_;refine gO xAd <| gO xM ?_))
  refine ⟨_,_,BE 0,_,by omega,k+1,by omega,rfl,Gr hr hall (decide_eq_true ⟨c3,c4⟩),rfl,rfl⟩
 obtain rfl:k=rs.length:=by omega
 rw [ay] at hall
 rw [hall]
 repeat' (with_reducible first|refine qq ?_|(refine Tx 4 ?_;refine gO xLt ?_)|(refine Tx 9 ?_;refine gO xA ?_))
 exact Eu
def AqS (s z:Int) (v:Pq):Pq:=IG (Ee (Ac z 0 (-s)) (Vk v))
theorem AqT {s z:Int} (s0:0≤s) (s1:s≤30) (z0 : -2147483648≤z) (z1:z<2147483648):Sm (Ac z 0 (-s)) 300 200∧gv (Ac z 0 (-s))=z*uN s:=by
 have sm:Sm (Ac z 0 (-s)) 300 200:=(Sm.shift (n:=32) (x:=z) (k := -s) (by omega) (by omega) (by omega)).more (by decide) (by decide)
 refine ⟨sm,?_⟩
 have h1:=Mh (p:=(z,0)) (n:=s.toNat) (by show 0+_≤GQ;unfold GQ;omega) (by omega)
 rw [show -((s.toNat:Nat):Int) = -s by omega,Mi] at h1
 refine en (Rg s.toNat) ?_
 rw [show gv (Ac z 0 (-s))*2 ^ s.toNat=_ from h1,ai]
 unfold uN
 rw [←ao]
 congr 2
 unfold GQ
 omega
theorem AqU {c:Ct} (ok:Ark bs c) {o:Nat} {z:Int} {v:Pq} (s0:0≤scA c.F o) (s1:scA c.F o≤30) (C:Gf c o z v) (sv:Sm v LB LB):Sm (AqS (scA c.F o) z v) (LB+LB+1) LB∧ZI (AqS (scA c.F o) z v) (c.E[o]?.getD (0,0))≤0∧iIn (v,v) (c.R[o]?.getD iZ)=true:=by
 obtain ⟨sm,hg⟩:=AqT s0 s1 C.z0 C.z1
 have ss:=Sm.sum (sm.more (n':=LB) (d':=LB) (by decide) (by decide)) sv.neg (by decide)
 have so:=ss.abs
 refine ⟨so,(NF so.le (CL ok.sE o).le).2 ?_,(Aqd (IwS.pt sv) (Bp ok.sR o)).2 C.vin⟩
 have e1:gv (AqS (scA c.F o) z v)=_:=ND _
 have e2:gv (Ee (Ac z 0 (-scA c.F o)) (Vk v))=_:=DN sm.le sv.neg.le
 have e3:gv (Vk v)=_:=Mf v
 have hn:=C.nr
 unfold Nr at hn
 show gv (AqS (scA c.F o) z v)≤_
 rw [e1,e2,e3,hg]
 omega
def Lw (ls:List (List Int)):Bool:=(ls.all fun l=>decide (l.length≤40)) && decide (ls.length≤40)
theorem WW {ls:List (List Int)} (h:Lw ls=true):(∀ l∈ls,l.length≤40)∧ls.length≤40:=by
 unfold Lw at h
 rw [ah,decide_eq_true_eq] at h
 exact ⟨fun l hl=>of_decide_eq_true (List.all_eq_true.1 h.1 l hl),h.2⟩
theorem AaC (t:Bool) (ls:List (List Int)) (hn:(ls.length:Int)≤9223372036854775807):CV prog An 44 [.one (Ws t ls)] [aB (Lw ls)]:=by
 refine cvz func44 ntmps44 ?_
 repeat' (with_reducible first|refine qq ?_|(refine Tx 0 ?_;refine gO xA ?_)|(refine Tx 1 ?_;refine gO xM <| gO xN <| gO xM ?_))
 refine Bi (BE 0) (Aq (fun n Fr H=>∃ k:Nat,k≤ls.length∧n=ls.length - k∧(ls.take k).all (fun l:List Int=>decide (l.length≤40))=true∧Fr=ofL [(0,vd (Ws t ls)),(5,vd (Ws t ls)),(6,vi ls.length),(7,vi ((k:Nat)))]∧H=[]) (n0:=ls.length) ⟨0,ad _,rfl,rfl,rfl,rfl⟩ ?_)
 rintro n Fr H ⟨k,hk,rfl,hall,rfl,rfl⟩
 by_cases hlt:k<ls.length
 case pos =>
  obtain ⟨l,hx⟩:∃ l,ls[k]?=some l:=⟨_,gE hlt⟩
  by_cases c1:l.length≤40
  case neg =>
   repeat' (with_reducible first|refine qq ?_|(refine Tx 2 ?_;refine gO xLt ?_)|(refine Tx 3 ?_;refine gO (xIr Hw (Adp hx)) <| gO xD <| gO xA ?_)|(refine Tx 4 ?_;refine gO xM <| gO xN <| gO xGt ?_)|(refine Tx 5 ?_;refine gO xA ?_))
   exact Ax rfl (.cons_ (DJ rfl (by unfold Lw;rw [UO hx (decide_eq_false (by omega)),gh])) .nil_)
  repeat' (with_reducible first|refine qq ?_|(refine Tx 2 ?_;refine gO xLt ?_)|(refine Tx 3 ?_;refine gO (xIr Hw (Adp hx)) <| gO xD <| gO xA ?_)|(refine Tx 4 ?_;refine gO xM <| gO xN <| gO xGt ?_)|(refine Tx 6 ?_;refine gO xAd <| gO xM ?_))
  refine ⟨_,_,BE 0,_,by omega,k+1,by omega,rfl,Gr hx hall (decide_eq_true c1),rfl,rfl⟩
 obtain rfl:k=ls.length:=by omega
 rw [ay] at hall
 by_cases c3:ls.length≤40
 case pos =>
  repeat' (with_reducible first|refine qq ?_|(refine Tx 2 ?_;refine gO xLt ?_)|(refine Tx 7 ?_;refine gO xM <| gO xN <| gO xLe <| gO xA ?_))
  exact Ax rfl (.cons_ (DJ rfl (by unfold Lw;rw [hall,decide_eq_true c3];rfl)) .nil_)
 case neg =>
  repeat' (with_reducible first|refine qq ?_|(refine Tx 2 ?_;refine gO xLt ?_)|(refine Tx 7 ?_;refine gO xM <| gO xN <| gO xLe <| gO xA ?_))
  exact Ax rfl (.cons_ (DJ rfl (by unfold Lw;rw [hall,decide_eq_false c3];rfl)) .nil_)
theorem Ajp (k:p') (h:Hd9 p'→p:=by with_reducible first|(intro Z9;refine Tx 8 ?_;refine gO (xIr Hw (Adp hx)) <| gO xD <| gO xA ?_;exact Z9.o)|(intro Z9;refine Tx 9 ?_;refine gO xL <| gO xM <| gO (xCl func114 (FT)) <| gO xA ?_;exact Z9.o)|(intro Z9;refine Tx 10 ?_;refine gO xL <| gO xM <| gO xM <| gO (xCl func54 (ST)) <| gO xMt <| gO xEx <| gO xEx <| gO xEx <| gO xA <| gO xA <| gO xA ?_;exact Z9.o)|fail):p:=h ⟨k⟩
theorem AeW (h:p:=by first|exact xIr Af (AF hzr)|exact xIr Af (AF hz)|exact xIr Af (AF hFi)|exact xIr Af (Um hw)|exact xIr Af (hEi)|exact xIr Af (hRi)):p:=h
theorem AeX (h:p:=by first|exact xIr Ai (Um hw)|exact xIr Ai (hEi)|exact xIr Ai (hRi)):p:=h
theorem Ajq (k:p') (h:Hd9 p'→p:=by with_reducible first|(intro Z9;refine Tx 18 ?_;refine gO xM <| gO (by first|exact xIr Aj (DK hy)|exact xIr Aj (Um hw)|exact xIr Aj (hEi)|exact xIr Aj (hRi)) <| gO xL <| gN (xAl Bw) <| gO xA <| gZ (xSk Bm) ?_;exact Z9.o)|(intro Z9;refine Tx 19 ?_;refine gO xF <| gO xD <| gO xM <| gO AeW <| gO xD <| gO xA ?_;exact Z9.o)|(intro Z9;refine Tx 20 ?_;refine gO xF <| gO xD <| gO xEq ?_;exact Z9.o)|(intro Z9;refine AJ (id:=22) 16 AX (by kernel_rfl) ?_;dsimp only [List.take,List.drop];refine gP xM <| gP (xCl func39 (OF.cv)) <| gP xF <| gP xD <| gP xM <| gP AeW <| gP xD <| gP DM <| gP (xCl func38 (SH.cv)) <| gP xM <| gP xM <| gP AeX <| gP xL <| gP (xCl func42 (SB.cv)) <| gP (xCl func101 (AB.cv)) <| gQ (xAl Av) ?_;refine Ke ?_;refine gZ (xSk Ae) ?_;exact Z9.o)|(intro Z9;refine BX (id:=23) AX (by kernel_rfl) ?_;refine gP xL <| gP xF <| gP xD <| gP xM <| gP AeX <| gP xL <| gP (xCl func29 (CM.cv)) <| gP xGt <| gP xM ?_;(first|iterate 11 refine Kd ?_|(refine Ky (xFa LO BB) ?_;refine Ky (xLd BB) ?_;refine Ky xM1 ?_;refine Ky (by first|exact xIr Aw (Um hw)|exact xIr Aw (hEi)|exact xIr Aw (hRi)) ?_;refine Ky (xLa Ag) ?_;refine Ky xM1 ?_;refine Ky xM1 ?_;refine Ky AeX ?_;refine Ky (xLa Ae) ?_;refine Ky (xCl func116 (CT)) ?_;refine Ky DM ?_));refine gP xPk ?_;refine Ke ?_;exact Z9.o)|(intro Z9;refine Tx 25 ?_;refine gO xAd <| gO xM ?_;exact Z9.o)|fail):p:=h ⟨k⟩
theorem Ajr (h:p:=by
 refine ⟨_,_,Qu _ 4 ?_ ?_ ?_,_,by omega,u+1,by omega,rfl,rfl,rfl⟩
 ·rfl
 ·exact mB rfl rfl
 ·exact ⟨Dl rfl,Dl rfl,Dl rfl,Dl rfl,trivial⟩):p:=h
theorem Ajs (h:p:=by first|assumption|omega):p:=h
theorem Ajt (h:p:=by first|rfl|omega):p:=h
theorem AeY (t v:Bool) {ps:List Prt} {bs:List Bk} {os:List Int} (hl:FK ps bs os) (F:List Int) (qs:List (Rv × Rv)) (rs:List Rv) (hwq:∀ q∈qs,RvL q.1∧RvL q.2) (hwr:∀ r∈rs,RvL r) (h0:ckE ps bs os F qs rs=0) (A:He ps bs os (AeR F qs rs)) (ls:List (List Int)) (hll:∀ l∈ls,l.length≤40) (hln:ls.length≤40):CV prog An 45 [aDg t ps bs os,.agg (dCr false F qs rs),.one (Ws v ls)] [aB true]:=by
 refine cvz func45 ntmps45 ?_
 obtain ⟨hd,ok,hdc,_,_⟩:=AmE hwq hwr h0
 rw [hdc]
 clear hdc h0
 generalize AeR F qs rs=c at *
 have hn:=hl.l2
 have hpn:=hl.l1
 have hlF:=ok.lF
 have hlR:=ok.lR
 have hlE:=ok.lE
 have hcp:=Amv A
 have CP:=Aei t false (F:=c.F) hl (by omega)
 have hE:Io ps bs os c.F=0:=by unfold Io;rw [if_pos hd];exact hcp
 rw [hE,UQ rfl,UQ rfl,UQ rfl,UQ rfl] at CP
 have hpr:=Amm (F:=c.F) hd (Aep hcp)
 have SS:=Ahz false hpr
 have SC:=Adq t hl
 rw [hd,ZQ rfl] at SC
 unfold AlI at SC
 have sim0:=Aav A
 repeat' (with_reducible first|refine qq ?_|(refine Tx 0 ?_;refine gN xBo <| gN xBo <| gO xA ?_)|(refine Tx 1 ?_;refine gO xL <| gO xF <| gO xD <| gO (xCl func46 (CP)) <| gO xMt <| gO (by exact Nz rfl rfl rfl) <| gO xEx <| gN (xAl MZ) <| gZ (xSk Br) <| gO xA ?_)|(refine Tx 2 ?_;refine gO xL <| gO (xCl func53 (SC)) <| gO xMt <| gO xEx <| gO xEx <| gO xA <| gO xA ?_)|(refine Tx 3 ?_;refine gO xL <| gO (xCl func47 (SS)) <| gO xMt <| gO xEx <| gO xEx <| gO xA <| gO xA ?_)|(refine Tx 4 ?_;refine gO xM <| gO (xNE Ap) <| gO xM ?_;(first|iterate 2 refine Jd ?_|(refine Jy xM1 ?_;refine Jy (xNE Ap) ?_));refine gO xPk <| gO xM ?_;(first|iterate 2 refine Jd ?_|(refine Jy xM1 ?_;refine Jy (xNE Ap) ?_));refine gO xPk <| gO xM ?_;(first|iterate 7 refine Jd ?_|(refine Jy (xFa LO BB) ?_;refine Jy (xLd BB) ?_;refine Jy (xLn Aw) ?_;refine Jy (xFa BM AQ) ?_;refine Jy (xLd AQ) ?_;refine Jy (xLn Aj) ?_;refine Jy xNe ?_));refine gO xPk <| gO xM ?_;(first|iterate 7 refine Jd ?_|(refine Jy (xFa Eb Ar) ?_;refine Jy (xLd Ar) ?_;refine Jy (xLn Ai) ?_;refine Jy (xFa BM AQ) ?_;refine Jy (xLd AQ) ?_;refine Jy (xLn Aj) ?_;refine Jy xNe ?_));refine gO xPk <| gO xM ?_;(first|iterate 7 refine Jd ?_|(refine Jy (xFa Od Bd) ?_;refine Jy (xLd Bd) ?_;refine Jy (xLn Af) ?_;refine Jy (xFa BM AQ) ?_;refine Jy (xLd AQ) ?_;refine Jy (xLn Aj) ?_;refine Jy xNe ?_));refine gO xPk ?_)|(refine Tx 6 ?_;refine gO xM <| gO xN <| gO xM ?_))
 refine Bi (BE 3) (Aq (fun n Fr H=>∃ (j:Nat) (cs:List Int) (st:List Pq),j≤ls.length∧n=ls.length - j∧Aqx bs c cs st∧Fr=ofL [(3,vr 0),(4,vr 1),(7,vr 2),(9,vd (.row false 3 st.length (AN dyP st))),(11,vd (Ba false cs)),(79,vd (Ws v ls)),(80,vi ls.length),(81,vi ((j:Nat)))]∧H=[.box 26 [.d (Dh t ps),.d (DC t bs),.d (Ba t os)],.box 30 [.d (Ba false c.F),.d (.row false 6 c.R.length (AN (dIw false) c.R)),.d (.row false 3 c.E.length (AN dyP c.E))],.box 94 [.d (Dh false ps),.d (Ba false (Cv bs c.F)),.d (AaG false (Cg ps bs c.F)),.d (Ba false os)]]) (n0:=ls.length) ⟨0,_,_,ad _,rfl,sim0,rfl,rfl⟩ ?_)
 clear sim0 SC CP SS
 rintro n Fr H ⟨j,cs,st,hj,rfl,S,rfl,rfl⟩
 by_cases hlt:j<ls.length
 case pos =>
  obtain ⟨x,hx⟩:∃ x,ls[j]?=some x:=⟨_,gE hlt⟩
  have hxl:=hll x (gM hx)
  have FT:=Aea t v x hl (by omega)
  have hinl:=Wx ps x
  have hT4:=Aeb hd (st:=st) (l:=x)
  have hio:=AiG hd x
  have hfit:=fun k p z=>Amo (inn:=x) hpr k p z
  generalize Lx ps x ps.length=ins at *
  have hsl:=S.sok.len
  have hdb:=Ado bs
  have RU:=Aqq false false false hpr S.cok.len S.cok.short hinl hfit
  have ST:=AgT t false hl (st.map II) (fun r hr=>by obtain ⟨p,hp,rfl⟩:=List.mem_map.1 hr;exact ⟨Az _,lT ((S.sok.sm p hp).lenN 128 (by decide)) (by decide)⟩) (by rw [af];omega) ins (by omega)
  rw [Wr,Yk,ApD hd S.sok] at ST
  unfold AlI at ST
  have hcl:=S.cok.len
  have hil:=Ib bs c.F
  by_cases hT:Lp ps bs st ins=0
  case neg =>
   have h4:=hT4 hT
   rw [h4] at ST
   have IS:=ApK 4 4
   rw [show isB 4 4=true by decide] at IS
   generalize okQ 4 (Fk ps bs st ins)=Q1 at *
   generalize okQ 4 (Qn ps bs st ins)=Q2 at *
   repeat' (with_reducible first|refine qq ?_|(refine Tx 7 ?_;refine gO xLt ?_)|refine Ajp ?_|(refine Tx 11 ?_;refine gO xM <| gO (by first|exact BV rfl Ap rfl (Li (by decide))|exact BV rfl Ap rfl (Qt Ajt)|exact BV rfl Ap rfl (Li Ajs)|exact BV rfl Ap rfl rfl) ?_)|(refine Tx 12 ?_;refine gO xM <| gO (xCl func115 (IS.cv)) <| gO xA ?_))
   exact Eu
  obtain ⟨hov,hS2,hout⟩:=AeI A S hio hinl hT
  rw [hT,ZQ rfl,ZQ rfl] at ST
  rw [hov] at RU
  have hve:(Qn ps bs st ins).length=bs.length:=Yi
  have hvs:=Adm hd S.sok.len S.sok.nf hT
  have hrl:=hS2.cok.len
  generalize Qn ps bs st ins=VV at *
  generalize Fk ps bs st ins=XX at *
  generalize hRV:(Gk ins (Cg ps bs c.F) cs).1=RV at *
  generalize Ls RV os=OO at *
  clear hRV hT4
  repeat' (with_reducible first|refine qq ?_|(refine Tx 7 ?_;refine gO xLt ?_)|refine Ajp ?_|(refine Tx 11 ?_;refine gO xM <| gO (xNE Ap) ?_)|(refine Tx 13 ?_;refine gO xL <| gO xM <| gO xM <| gO (xCl func48 (RU)) <| gO xMt <| gO (by exact Nz rfl rfl rfl) <| gO xEx <| gN (xAl Na) <| gZ (xSk DV) <| gO xA ?_)|(refine Tx 14 ?_;refine gO xM <| gO (xNE Ap) <| gO xM ?_;(first|iterate 2 refine Jd ?_|(refine Jy (xFa Ph DA) ?_;refine Jy (xLd DA) ?_));refine gO xPk <| gO xM ?_;(first|iterate 6 refine Jd ?_|(refine Jy xM1 ?_;refine Jy (xLn Ai) ?_;refine Jy (xFa BM AQ) ?_;refine Jy (xLd AQ) ?_;refine Jy (xLn Aj) ?_;refine Jy xNe ?_));refine gO xPk <| gO xM ?_;(first|iterate 7 refine Jd ?_|(refine Jy (xFa Pg Bd) ?_;refine Jy (xLd Bd) ?_;refine Jy (xLn Af) ?_;refine Jy (xFa BM AQ) ?_;refine Jy (xLd AQ) ?_;refine Jy (xLn Aj) ?_;refine Jy xLt ?_));refine gO xPk <| gO xM ?_;(first|iterate 6 refine Jd ?_|(refine Jy xM1 ?_;refine Jy (xLn Af) ?_;refine Jy (xFa BM AQ) ?_;refine Jy (xLd AQ) ?_;refine Jy (xLn Aj) ?_;refine Jy xLt ?_));refine gO xPk ?_)|(refine Tx 16 ?_;refine gO xF <| gO xD <| gO xN <| gO xM ?_))
  refine Bi (BE 4) (Aq (fun n Fr H=>∃ u:Nat,u≤bs.length∧n=bs.length - u∧Fr=ofL [(3,vr 0),(4,vr 1),(7,vr 2),(11,vd (Ba false cs)),(16,vd (.row false 3 XX.length (AN dyP XX))),(17,vd (.row false 3 VV.length (AN dyP VV))),(19,vr 3),(79,vd (Ws v ls)),(80,vi ls.length),(81,vi ((j:Nat))),(139,vd (DC t bs)),(140,vi bs.length),(141,vi ((u:Nat)))]∧H=[.box 26 [.d (Dh t ps),.d (DC t bs),.d (Ba t os)],.box 30 [.d (Ba false c.F),.d (.row false 6 c.R.length (AN (dIw false) c.R)),.d (.row false 3 c.E.length (AN dyP c.E))],.box 94 [.d (Dh false ps),.d (Ba false (Cv bs c.F)),.d (AaG false (Cg ps bs c.F)),.d (Ba false os)],.box 99 [.d (Ba false RV),.d (Ba false OO),.d (.val (.bool false))]]) (n0:=bs.length) ⟨0,ad _,rfl,rfl,rfl⟩ ?_)
  rintro n Fr H ⟨u,hu,rfl,rfl,rfl⟩
  by_cases hlu:u<bs.length
  case pos =>
   obtain ⟨y,hy⟩:∃ y,bs[u]?=some y:=⟨_,gE hlu⟩
   obtain ⟨z,w,hz,hw,C⟩:=hout u y hy
   obtain ⟨_,_,_,_,s0,s1⟩:=A.parts hy
   have sw:=hvs w (gM hw)
   obtain ⟨so,hcm,hin⟩:=AqU ok s0 s1 C sw
   obtain ⟨sm,_⟩:=AqT s0 s1 C.z0 C.z1
   have z0:=C.z0
   have z1:=C.z1
   have hFi:=WS (F:=c.F) (k:=u) (by omega)
   have hEi:=Ajj (E:=c.E) (k:=u) (by omega)
   have hRi:=Ajk (R:=c.R) (k:=u) (by omega)
   have se:=CL ok.sE u
   have sr:=Bp ok.sR u
   unfold AqS at so hcm
   obtain ⟨zr,hzr⟩:∃ zr,RV[u]?=some zr:=⟨_,gE (by omega)⟩
   generalize c.E[u]?.getD (0,0)=e at *
   generalize c.R[u]?.getD iZ=r at *
   generalize hs:scA c.F u=s at *
   have OF:=Acp (G:=An) z (by omega) (by omega)
   have SH:=Px (G:=An) false z 0 (-s) ⟨by decide,fun h=>absurd rfl h⟩ (lT (AY (k:=2) (by omega)) (by decide)) (by omega)
   generalize Ac z 0 (-s)=p at *
   have SB:=AkX An false false p.1 p.2 w.1 w.2 sm.ok sw.ok sm.lz sw.lz
   have ss:Sm (Cb p.1 p.2 (-w.1) w.2) (LB+LB+1) LB:=Sm.sum (sm.more (n':=LB) (d':=LB) (by decide) (by decide)) sw.neg (by decide)
   have so:Sm ((((Cb p.1 p.2 (-w.1) w.2).1.natAbs:Nat):Int),(Cb p.1 p.2 (-w.1) w.2).2) (LB+LB+1) LB:=so
   have hcm2:Cm (((Cb p.1 p.2 (-w.1) w.2).1.natAbs:Nat):Int) (Cb p.1 p.2 (-w.1) w.2).2 e.1 e.2≤0:=hcm
   clear hcm
   generalize Cb p.1 p.2 (-w.1) w.2=q at *
   have AB:=AkW An false q.1 q.2 ss.ok ss.lz
   have CM:=Sn (G:=An) false false ((q.1.natAbs:Nat):Int) q.2 e.1 e.2 so.ok se.ok so.lz se.lz
   generalize Cm ((q.1.natAbs:Nat):Int) q.2 e.1 e.2=m at *
   have CT:=SL r w (sr.more LBx LBx) (sw.more (by decide) (by decide))
   rw [hin] at CT
   by_cases hk:y.kind=2
   case pos =>
    rw [if_pos hk] at hz
    repeat' (with_reducible first|refine qq ?_|(refine Tx 17 ?_;refine gO xLt ?_)|refine Ajq ?_|(refine Tx 21 ?_;refine gO xM <| gO xM <| gO AeW <| gO xD <| gO xA ?_))
    exact Ajr
   rw [if_neg hk] at hz
   rw [hz] at hzr
   cases hzr
   repeat' (with_reducible first|refine qq ?_|(refine Tx 17 ?_;refine gO xLt ?_)|refine Ajq ?_)
   exact Ajr
  obtain rfl:u=bs.length:=by omega
  repeat' (with_reducible first|refine qq ?_|(refine Tx 17 ?_;refine gO xLt ?_)|(refine BX (id:=26) AX (by kernel_rfl) ?_;refine gP xM <| gP xF <| gP xD <| gP xA <| gP xA ?_;refine Ke ?_)|(refine Tx 27 ?_;refine gO xAd <| gO xM ?_))
  refine ⟨_,_,BE 3,_,by omega,j+1,RV,XX,by omega,rfl,hS2,rfl,rfl⟩
 obtain rfl:j=ls.length:=by omega
 repeat' (with_reducible first|refine qq ?_|(refine Tx 7 ?_;refine gO xLt ?_)|(refine Tx 28 ?_;refine gO xA ?_))
 exact Eu
def eiV (ns:List Int):List Pq:=ns.map fun n=>Ac n 0 (-3)
theorem Ass {ns:List Int} {k:Nat} {n:Int} (h:ns[k]?=some n):(eiV ns)[k]?=some (Ac n 0 (-3)):=by unfold eiV;rw [ag,h];rfl
def WX:List Int:=[4,4,4,4]
def AmJ:List Iq:=[Dd [(-1,0),(1,0)],Dd [(-1,0),(1,0)],Dd [(-2,0),(2,0)],Dd [(-2,0),(2,0)]]
def Anb:List Pq:=eiV [0,1,1,1]
def exCt:Ct:=⟨WX,AmJ,Anb⟩
theorem El {t:Bool} {H:List Ob} {cs:List C} {ds:List D} (hc:cs=ds.map C.d) (h:∀ d∈ds,Dg d):AV (Gj t H) cs ds:=by
 subst hc
 exact AV.map_l.2 ⟨rfl,fun j a b ha hb=>by rw [ha] at hb;cases hb;exact .d fun _=>h _ (gM ha)⟩
theorem Ql:∀ d∈AN (dIw false) AmJ,Dg d:=fun d hd=>Dp (f:=dIw false) (fun a=>AcV a) AmJ d hd
def AaD:List (Rv × Rv):=AmJ.map rvI2
def AmK:List Rv:=Anb.map II
theorem Ast:dCr false WX AaD AmK=dCt false exCt:=by
 unfold dCr dCt AaD AmK
 rw [AdR,Wr]
 rfl
theorem AqV:∀ q∈AaD,RvL q.1∧RvL q.2:=fun q hq=>by
 obtain ⟨a,ha,rfl⟩:=List.mem_map.1 hq
 have key:(AmJ.all fun a=>decide ((Ad a.1.1.natAbs).length≤40000) && decide ((Ad a.2.1.natAbs).length≤40000))=true:=by decide +kernel
 have:=List.all_eq_true.1 key a ha
 rw [ah,decide_eq_true_eq,decide_eq_true_eq] at this
 exact ⟨⟨Az _,this.1⟩,⟨Az _,this.2⟩⟩
theorem Asu:∀ r∈AmK,RvL r:=fun r hr=>by
 obtain ⟨a,ha,rfl⟩:=List.mem_map.1 hr
 have key:(Anb.all fun a=>decide ((Ad a.1.natAbs).length≤40000))=true:=by decide +kernel
 exact ⟨Az _,of_decide_eq_true (List.all_eq_true.1 key a ha)⟩
theorem Asv:ckE flP flB flO WX AaD AmK=0:=by decide +kernel
theorem Asw:vfE flP flB flO WX AaD AmK=true:=by decide +kernel
theorem Aju:FK flP flB flO:=⟨by decide,by decide,by decide,by decide⟩
structure Nw where
 ty:TypeId
 s:Nat
 n:Nat
 ds:List D
def Nw.ob (r:Nw):Ob:=.row r.ty r.s r.n (r.ds.map C.d)
inductive Yr where
 | d (x:D)
 | own (k n:Nat)
inductive YT where
 | one (y:Yr)
 | agg (ys:List Yr)
inductive YR where
 | one (y:Yr)
 | agg (ys:List Yr)
 | tup (l:List YT)
def Yr.c (n0:Nat):Yr→C
 | .d x=>.d x
 | .own k n=>.own (n0+k) n
def YT.t (n0:Nat):YT→TC
 | .one y=>.one (y.c n0)
 | .agg ys=>.agg (ys.map (Yr.c n0))
def YR.x (n0:Nat):YR→X
 | .one y=>.one (y.c n0)
 | .agg ys=>.agg (ys.map (Yr.c n0))
 | .tup l=>.tupC (l.map (YT.t n0))
def QE (S:Du) (w w':World) (es:List Et):Du:=fun t b=>t=false∧(S false b∨(w.heap.size≤b∧b<w'.heap.size∧∀ e∈es,e.own≠some b))
def Anc (w:World) (S:Du) (rows:List Nw) (es:List Et):Yr→Value→Prop
 | .d x,v=>Bh w S x v
 | .own k n,v=>v.oneCell'=true∧∃ e r,es[k]?=some e∧rows[k]?=some r∧r.n=n∧v=e.hv
def AqW (w:World) (S:Du) (rows:List Nw) (es:List Et):YT→Value→Prop
 | .one y,v=>Anc w S rows es y v
 | .agg ys,v=>∃ vs:List Value,v=.agg vs.toArray∧AV (Anc w S rows es) ys vs
def AqX (w:World) (S:Du) (rows:List Nw) (es:List Et):YR→Value→Prop
 | .one y,v=>Anc w S rows es y v
 | .agg ys,v=>∃ vs:List Value,v=.agg vs.toArray∧AV (Anc w S rows es) ys vs
 | .tup l,v=>∃ vs:List Value,v=.tuple vs.toArray∧AV (AqW w S rows es) l vs
structure AqY (w w':World) (S:Du) (rows:List Nw) (es:List Et):Prop where
 len:es.length=rows.length
 each:∀ (k:Nat) (e:Et),es[k]?=some e→∃ (r:Nw) (v:Value) (xs:List Value),rows[k]?=some r∧e=.row v r.ty r.s r.n xs∧e.at_ w' w.heap.size∧AV (Bh w' S) r.ds xs
 apart:es.Pairwise Abr
def CVN (P:Program) (G:World→Prop) (f:FuncId) (args:List A) (rows:List Nw) (res:YR):Prop :=
 ∀ (w:World) (S:Du) (vs:List Value),G w→(∀ t b,S t b→b<w.heap.size)→AV (Em w S) args vs →
  Calls P f vs.toArray w fun e w'=>∃ v es,e=.returned v∧AqY w w' (QE S w w' es) rows es∧AqX w' (QE S w w' es) rows es res v∧Below w.heap.size w w'
def YC (ids:List Nat) (rows:List Nw):Yr→C→Prop
 | .d x,c=>c=.d x∧Dg x
 | .own k n,c=>∃ id r,ids[k]?=some id∧rows[k]?=some r∧r.n=n∧c=.own id n
inductive RVT (P:Program) (F:Frm) (H:List Ob) (ids:List Nat) (rows:List Nw):ResultVar→YT→Prop
 | tmp {t:Tmp} {y:Yr} {c:C} (hF:F t=.one c) (h:YC ids rows y c):RVT P F H ids rows (.tmp t) (.one y)
 | cell {t:Tmp} {ty ty' id:Nat} {d:TypeDesc} {cs:List C} {ys:List Yr} (hF:F t=.one (.ref id 0 none)) (hH:H[id]?=some (.box ty' cs)) (hu:P.underlying ty=some d) (hd:d.isRow=true) (hi:(P.info? ty).map (·.size)=some cs.length) (h:AV (YC ids rows) ys cs):RVT P F H ids rows (.cell t ty) (.agg ys)
inductive AqZ (P:Program) (fn:Func) (F:Frm) (H:List Ob) (ids:List Nat) (rows:List Nw):YR→Prop
 | tmp {t:Tmp} {y:Yr} {c:C} (hr:fn.results=#[.tmp t]) (hF:F t=.one c) (h:YC ids rows y c):AqZ P fn F H ids rows (.one y)
 | cell {t:Tmp} {ty ty' id:Nat} {d:TypeDesc} {cs:List C} {ys:List Yr} (hr:fn.results=#[.cell t ty]) (hF:F t=.one (.ref id 0 none)) (hH:H[id]?=some (.box ty' cs)) (hu:P.underlying ty=some d) (hd:d.isRow=true) (hi:(P.info? ty).map (·.size)=some cs.length) (h:AV (YC ids rows) ys cs):AqZ P fn F H ids rows (.agg ys)
 | tup {r1 r2:ResultVar} {rs:List ResultVar} {l:List YT} (hr:fn.results.toList=r1::r2::rs) (h:AV (RVT P F H ids rows) (r1::r2::rs) l):AqZ P fn F H ids rows (.tup l)
theorem Qm {tmps:Array Value} {r:ResultVar} {v:Value} (hr:fn.results=#[r]) (h:(TA tmps r).run P w=.ok v w):(results fn tmps).run P w=.ok v w:=by
 have h1:(fn.results.mapM (TA tmps)).run P w=.ok #[v] w:=by
  rw [hr,←jt (xs:=#[r]),ju,map_eq_pure_bind,aj]
  simp [js,aj,h]
 have hb':∀ (s:Sem (Array Value)) (k:Array Value→Sem Value),(s.bind k).run P w=(s.run P w).andThen fun a w=>(k a).run P w:=fun s k=>aj (x:=s) (f:=k) ..
 rw [Hr,hb',h1]
 rfl
theorem Vg {P:Program} {w:World} {R:YT→Value→Prop} {f:ResultVar→Sem Value}:∀ {rs:List ResultVar} {res:List YT},AV (fun r y=>∃ v,(f r).run P w=.ok v w∧R y v) rs res→∃ vs:List Value,(rs.mapM f).run P w=.ok vs w∧AV R res vs
 | [],res,h=>by
  rw [h.unnil]
  exact ⟨[],by simp,AV.nil_⟩
 | r::rs,res,h=>by
  obtain ⟨y,res',rfl,⟨v,h1,h2⟩,h3⟩:=h.uncons
  obtain ⟨vs,h4,h5⟩:=Vg h3
  exact ⟨v::vs,by simp [js,aj,h1,h4],AV.cons_ h2 h5⟩
theorem Vh {tmps:Array Value} {R:YT→Value→Prop} {r1 r2:ResultVar} {rs:List ResultVar} {l:List YT} (hr:fn.results.toList=r1::r2::rs) (h:AV (fun r y=>∃ v,(TA tmps r).run P w=.ok v w∧R y v) (r1::r2::rs) l):∃ vs:List Value,(results fn tmps).run P w=.ok (.tuple vs.toArray) w∧AV R l vs:=by
 obtain ⟨vs,h1,h2⟩:=Vg h
 have h1':(fn.results.mapM (TA tmps)).run P w=.ok vs.toArray w:=by
  rw [←jt (xs:=fn.results),hr,ju,map_eq_pure_bind,aj,h1]
  rfl
 have hb':∀ (s:Sem (Array Value)) (k:Array Value→Sem Value),(s.bind k).run P w=(s.run P w).andThen fun a w=>(k a).run P w:=fun s k=>aj (x:=s) (f:=k) ..
 refine ⟨vs,?_,h2⟩
 have hl:2≤vs.length:=by rw [←h2.1,←h.1];show 2≤rs.length+2;omega
 rw [Hr,hb',h1']
 simp only [av,bg]
 match vs,hl with
 | a::b::l,_=>rfl
theorem ents {m:Mm} (ht:Tot m):∀ {ids:List Nat} {rows:List Nw},AV (fun id (r:Nw)=>m.H[id]?=some r.ob∧∀ d∈r.ds,Dg d) ids rows→∃ es:List Et,AV (fun id e=>m.E id=some e) ids es
 | [],_,_=>⟨[],.nil_⟩
 | id::ids,rows,h=>by
  obtain ⟨r,rs,rfl,h1,h2⟩:=h.uncons
  obtain ⟨es,h3⟩:=ents ht h2
  obtain ⟨e,he⟩:=Option.isSome_iff_exists.1 (ht id r.ob h1.1 rfl)
  exact ⟨e::es,.cons_ he h3⟩
theorem Ajv (h:p:=by
 exact run_loadVar_mid m'.w g 0 ty us d (fun j v hj=>by rw [ArC,cell_of_row m'.w g j us.toArray ty' (0,0) hg'];simpa using hj) hu hd (by rw [hi,hl2.1])):p:=h
theorem Ajw {G:World→Prop} (hG:∀ w w',Below w.heap.size w w'→G w→G w') {f:FuncId} {fn:Func} {c:Code} {N:Nat} {args:List A} {rows:List Nw} {res:YR} (hf:P.funcs[f]?=some fn) (hb:fn.body=some c) (hN:fn.ntmps=N) (ha:args.length≤N)
  (h:CW P G N c (F0 args) [] (fun e F H=>(e=.ret∨e=.normal)∧∃ ids:List Nat,ids.Nodup∧AV (fun id (r:Nw)=>H[id]?=some r.ob∧∀ d∈r.ds,Dg d) ids rows∧AqZ P fn F H ids rows res)):CVN P G f args rows res:=by
 intro w S vs hg hlt hargs
 refine calls_of_wp hf hb ?_
 refine wp_mono (h w.heap.size w ⟨S,[]⟩ _ ⟨w,S,[],fun _=>none⟩ (fun w' hb'=>hG w w' hb' hg) rfl (LI hN ha hlt hargs)) fun e a' w' ⟨F',m',hw,hs,hret⟩=>?_
 subst hw
 obtain ⟨he,ids,hnd,hids,hres⟩:=hret
 obtain ⟨es,hes⟩:=ents hs.tot hids
 have hS:∀ b,m'.S false b→QE S w m'.w es false b:=fun b hb'=>⟨rfl,(hs.S b hb').elim .inl fun hle=>.inr ⟨hle,hs.cx.lt _ _ hb',fun e he hown=>by
  obtain ⟨k,hk⟩:=dt he
  obtain ⟨id,hid⟩:∃ id,ids[k]?=some id:=⟨_,gE (by have:=(gS.1 hk).1;have:=hes.1;omega)⟩
  exact hs.cx.far id e b false (hes.2 k id e hid hk) hown hb'⟩⟩
 have hdat:∀ {x:D} {v:Value},Dg x→Bh m'.w m'.S x v→Bh m'.w (QE S w m'.w es) x v:=fun hx hv=>Bh.free hS hv hx
 have hnew:AqY w m'.w (QE S w m'.w es) rows es:=by
  refine ⟨by rw [←hes.1,hids.1],fun k e hk=>?_,List.pairwise_iff_getElem.2 fun i j hi hj hij=>?_⟩
  ·obtain ⟨id,hid⟩:∃ id,ids[k]?=some id:=⟨_,gE (by have:=(gS.1 hk).1;have:=hes.1;omega)⟩
   obtain ⟨r,hr,hHr,hfr⟩:=hids.at_ hid
   have hE:=hes.2 k id e hid hk
   obtain ⟨hat,ob,hob,hrel⟩:=hs.cx.each id e hE
   rw [hHr] at hob
   cases hob
   cases e with
   | box g vs t=>exact hrel.elim
   | row v' ty' s' n' xs =>
    obtain ⟨rfl,rfl,rfl,hl⟩:=hrel
    refine ⟨r,v',xs,hr,rfl,hat,⟨by rw [←hl.1,af],fun j d v hd hv=>?_⟩⟩
    exact hdat (hfr d (gM hd)) (hl.2 j (.d d) v (by rw [ag,hd];rfl) hv)
  ·have h1:=hes.1
   refine hs.cx.apart (ids[i]'(by omega)) (ids[j]'(by omega)) _ _ (List.pairwise_iff_getElem.1 hnd i j (by omega) (by omega) hij) ?_ ?_
   ·exact hes.2 i _ _ (gE _) (gE _)
   ·exact hes.2 j _ _ (gE _) (gE _)
 have hyc:∀ {y:Yr} {c:C} {v:Value},YC ids rows y c→Eq m' c v→Anc m'.w (QE S w m'.w es) rows es y v:=fun {y c v} hy hv=>by
  cases y with
  | d x =>
   obtain ⟨rfl,hx⟩:=hy
   exact hdat hx hv
  | own k n =>
   obtain ⟨id,r,hid,hr,rfl,rfl⟩:=hy
   obtain ⟨hone,ob,hob,_,hk⟩:=hv
   have hHr:=(hids.2 k id r hid hr).1
   rw [hHr] at hob
   cases hob
   obtain ⟨e,hE,hve⟩:=hk rfl
   obtain ⟨e',he',hE'⟩:=hes.at_ hid
   rw [hE] at hE'
   cases hE'
   exact ⟨hone,e,r,he',hr,rfl,hve⟩
 have hfin:∃ v,(results fn a'.tmps).run P m'.w=.ok v m'.w∧AqX m'.w (QE S w m'.w es) rows es res v:=by
  cases hres with
  | @tmp t y c hr hF hy =>
   have hx:=hs.frame t
   rw [hF] at hx
   exact ⟨_,Qm hr rfl,hyc hy hx⟩
  | @cell t ty ty' id d cs ys hr hF hH hu hd hi hl =>
   have hx:=hs.frame t
   rw [hF] at hx
   obtain ⟨g,us,hv,hE,_,hg',hl2⟩:=FS hs.cx hx hH
   refine ⟨.agg us.toArray,Qm hr ?_,us,rfl,by rw [hl.1,hl2.1],fun j y u hy hu'=>?_⟩
   ·simp only [TA,hv,asAddr,aj,bg,av]
    exact Ajv
   ·obtain ⟨c,hc,hyj⟩:=hl.at_ hy
    exact hyc hyj (hl2.2 j c u hc hu')
  | tup hr hq =>
   obtain ⟨vs,h1,h2⟩:=Vh (R:=AqW m'.w (QE S w m'.w es) rows es) (tmps:=a'.tmps) (P:=P) (w:=m'.w) hr (hq.imp fun r y hry=>by
    cases hry with
    | @tmp t y c hF hy =>
     have hx:=hs.frame t
     rw [hF] at hx
     exact ⟨_,rfl,hyc hy hx⟩
    | @cell t ty ty' id d cs ys hF hH hu hd hi hl =>
     have hx:=hs.frame t
     rw [hF] at hx
     obtain ⟨g,us,hv,hE,_,hg',hl2⟩:=FS hs.cx hx hH
     refine ⟨.agg us.toArray,?_,us,rfl,by rw [hl.1,hl2.1],fun j y u hy hu'=>?_⟩
     ·simp only [TA,hv,asAddr,aj,bg,av]
      exact Ajv
     ·obtain ⟨c,hc,hyj⟩:=hl.at_ hy
      exact hyc hyj (hl2.2 j c u hc hu'))
   exact ⟨_,h1,vs,rfl,h2⟩
 obtain ⟨v,hrun,hv⟩:=hfin
 rcases he with rfl|rfl
 ·exact ⟨hs.defers,v,hrun,v,es,rfl,hnew,hv,hs.below⟩
 ·exact ⟨hs.defers,v,hrun,v,es,rfl,hnew,hv,hs.below⟩
section
variable {P:Program} {G:World→Prop} {o:Oper} {F:Frm} {H:List Ob}
theorem YY {c:Code} (ho:o.op=.call { callee:=.value (.func f),args:=xs,argTypes:=ts })
  (hf : P.funcs[f]? = some fn) (hn : (fn.name == "runtime.NumGoroutine") = false) (hb : fn.body = some c) {args : List A} {rows : List Nw} {res : YR} (h : CVN P G f args rows res) (ha : AV (fun x y => Ik true H (F.ev x) y) xs.toList args) :
  Bb P G o F H (res.x H.length) (rows.map Nw.ob):=by
 intro b0 m a hp hx hg hb0 hE hor K Q hK
 have hp0:H <+: m.H:=(List.prefix_append _ _).trans hp
 have hxs:∀ x∈xs.toList,EH m (F.ev x) (a.eval x):=fun x hm=>Bg hor (by
  rw [ho]
  simp only [Op.operands,Call.operands,gr,eh]
  exact .inr hm)
 let Sx:Du:=fun t b=>m.S t b∨(t=true∧∃ id e,m.E id=some e∧e.own=some b)
 have hcalls:=h m.w Sx (xs.toList.map a.eval) hg (fun t b hb=>by
  rcases hb with hb|⟨_,id,e,he,hown⟩
  ·exact hx.lt t b hb
  ·exact (Et.lt (hx.each id e he).1 hown).2) ⟨by rw [af];exact ha.1.symm,fun j y v hy hv=>by
   simp only [ag,dq] at hv
   obtain ⟨x,hxj,rfl⟩:=hv
   exact Ik.rel hx (fun b hb=>.inl hb) (fun _ b hb=>.inl hb) (fun id e g he hg=>.inr ⟨rfl,id,e,he,hg⟩) ((ha.2 j x y hxj hy).pre hp0) (hxs x (gM hxj))⟩
 unfold Oper.wp execOp
 simp only [ho,resolve,Act.eval,Deferred.ofValue,aj,bg,av,invoke]
 rw [Dz hf hn hb]
 rw [gd]
 have he:((#[]:Array Value)++xs.map a.eval++#[])=(xs.toList.map a.eval).toArray:=fh (by simp)
 simp only [he]
 refine hcalls.mono fun e w' ⟨v,es,hev,hnew,hres,hbel⟩=>?_
 subst hev
 have hS:∀ t b,QE Sx m.w w' es t b→(m.plus w' H.length es).S t b:=fun t b hb=>by
  obtain ⟨rfl,h1|h1⟩:=hb
  ·rcases h1 with h1|⟨h1,_⟩
   ·exact .inl h1
   ·cases h1
  ·exact .inr ⟨rfl,h1.1,h1.2.1,h1.2.2⟩
 have hobs:∀ (k:Nat) (r:Nw),rows[k]?=some r→m.H[H.length+k]?=some r.ob:=fun k r hk=>getElem?_pre hp (by
  rw [dg (by omega),show H.length+k - H.length=k by omega,ag,hk]
  rfl)
 have hEe:∀ (k:Nat) (e:Et),es[k]?=some e→(m.plus w' H.length es).E (H.length+k)=some e:=fun k e hk=>by
  have hlt:=(gS.1 hk).1
  show (if H.length≤H.length+k∧H.length+k<H.length+es.length then es[H.length+k - H.length]? else _)=some _
  rw [if_pos ⟨by omega,by omega⟩,show H.length+k - H.length=k by omega]
  exact hk
 have hyr:∀ {y:Yr} {u:Value},Anc w' (QE Sx m.w w' es) rows es y u→Eq (m.plus w' H.length es) (y.c H.length) u:=fun {y u} hy=>by
  cases y with
  | d x=>exact Bh.mono hS (fun _ _ _=>rfl) hy
  | own k n =>
   obtain ⟨hone,e,r,he,hr,rfl,rfl⟩:=hy
   exact ⟨hone,_,hobs k r hr,(fun n1 n2 h1 h2=>by cases h1;cases h2;exact aa _),fun _=>⟨_,hEe k e he,rfl⟩⟩
 refine hK v w' es ⟨by rw [hnew.len,af],hbel,fun k e hk=>?_,hnew.apart⟩ ?_
 ·obtain ⟨r,v',xs',hr,rfl,hat,hl⟩:=hnew.each k e hk
  refine ⟨⟨hat.1,hat.2.imp id fun ⟨g,cap,cur,e,hb,r⟩=>⟨g,cap,cur,e,lT hb0 hb,r⟩⟩,fun g hg'=>(Et.lt hat hg').1,r.ob,by rw [ag,hr];rfl,rfl,rfl,rfl,⟨by rw [af];exact hl.1,fun j c u hc hu=>?_⟩⟩
  rw [ag,dq] at hc
  obtain ⟨d,hd,rfl⟩:=hc
  exact Bh.mono hS (fun _ _ _=>rfl) (hl.2 j d u hd hu)
 ·cases res with
  | one y=>exact hyr hres
  | agg ys =>
   obtain ⟨us,rfl,hl⟩:=hres
   exact ⟨us,rfl,by rw [af];exact hl.1,fun j c u hc hu=>by
    rw [ag,dq] at hc
    obtain ⟨y,hy,rfl⟩:=hc
    exact hyr (hl.2 j y u hy hu)⟩
  | tup l =>
   obtain ⟨us,rfl,hl⟩:=hres
   exact ⟨us,rfl,by rw [af];exact hl.1,fun j c u hc hu=>by
    rw [ag,dq] at hc
    obtain ⟨y,hy,rfl⟩:=hc
    have h1:=hl.2 j y u hy hu
    cases y with
    | one y=>exact hyr h1
    | agg ys =>
     obtain ⟨xs,rfl,h2⟩:=h1
     exact ⟨xs,rfl,by rw [af];exact h2.1,fun j c u hc hu=>by
      rw [ag,dq] at hc
      obtain ⟨y,hy,rfl⟩:=hc
      exact hyr (h2.2 j y u hy hu)⟩⟩
theorem AeZ {c:Code} {args:List A} {ty:TypeId} {ds:List D} (ho:o.op=.call { callee:=.value (.func f),args:=xs,argTypes:=ts })
  (hf : P.funcs[f]? = some fn) (hn : (fn.name == "runtime.NumGoroutine") = false) (hb : fn.body = some c) (h : CVN P G f args [⟨ty, s, n, ds⟩] (.one (.own 0 n))) (ha : AV (fun x y => Ik true H (F.ev x) y) xs.toList args) :
  Bb P G o F H (.one (.own H.length n)) [.row ty s n (ds.map C.d)]:=YY ho hf hn hb h ha
theorem Afa {c:Code} {args:List A} {ty ty' ty2:TypeId} {s' s2 n' n2:Nat} {ds ds' ds2:List D} (ho:o.op=.call { callee:=.value (.func f),args:=xs,argTypes:=ts })
  (hf : P.funcs[f]? = some fn) (hn : (fn.name == "runtime.NumGoroutine") = false) (hb : fn.body = some c) (h : CVN P G f args [⟨ty, s, n, ds⟩, ⟨ty', s', n', ds'⟩, ⟨ty2, s2, n2, ds2⟩] (.agg [.own 0 n, .own 1 n', .own 2 n2])) (ha : AV (fun x y => Ik true H (F.ev x) y) xs.toList args) :
  Bb P G o F H (.agg [.own H.length n,.own (H.length+1) n',.own (H.length+2) n2]) [.row ty s n (ds.map C.d),.row ty' s' n' (ds'.map C.d),.row ty2 s2 n2 (ds2.map C.d)]:=YY ho hf hn hb h ha
theorem Jl {ops:Array Oper} {l:List Oper} {K:Frm→List Ob→Prop} {d:Tmp} {xx:X} {obs:List Ob} (h:Bb P G o F H xx obs) (k:Ti P G ops l (F.put (some d) xx) (H++obs) K) (hg:o.guard=none:=by with_unfolding_all exact rfl) (hd:o.dst=some d:=by with_unfolding_all exact rfl):Ti P G ops (o::l) F H K:=by
 refine AnC hg h ?_
 rw [congrArg (fun q=>F.put q xx) hd]
 exact k
def D.pl:D→Bool
 | .val _=>true
 | _=>false
def A.pl:A→Bool
 | .one d=>d.pl
 | .agg ds=>ds.all D.pl
theorem Afb {w':World} {S S':Du} {d:D} {v:Value} (hd:d.pl=true) (h:Bh w S d v):Bh w' S' d v:=by
 cases h with
 | val hv=>exact .val hv
 | row=>cases hd
 | ptr=>cases hd
theorem Afc {S S':Du} {x:A} {v:Value} (hd:x.pl=true) (h:Em w S x v):Em w S' x v:=by
 cases x with
 | one d=>exact Afb hd h
 | agg ds =>
  obtain ⟨xs,h1,h2⟩:=h
  exact ⟨xs,h1,h2.1,fun j d u hj hu=>Afb (List.all_eq_true.1 hd d (gM hj)) (h2.2 j d u hj hu)⟩
theorem YZ {c:Code} (ho:o.op=.call { callee:=.value (.func f),args:=xs,argTypes:=ts })
  (hf : P.funcs[f]? = some fn) (hn : (fn.name == "runtime.NumGoroutine") = false) (hb : fn.body = some c) {args res : List A} (hpl : res.all A.pl = true) (h : CV P G f args res) (ha : AV (fun x y => ∃ t, Ik t H (F.ev x) y) xs.toList args) :
  Bb P G o F H (Aka res) []:=by
 intro b0 m a hp hx hg hb0 _ hor K Q hK
 rw [az] at hp
 have hxs:∀ x∈xs.toList,EH m (F.ev x) (a.eval x):=fun x hm=>Bg hor (by
  rw [ho]
  simp only [Op.operands,Call.operands,gr,eh]
  exact .inr hm)
 let Sx:Du:=fun t b=>m.S t b∨(∃ id e,m.E id=some e∧e.own=some b)
 have hcalls:=h m.w Sx (xs.toList.map a.eval) hg (fun t b hb=>by
  rcases hb with hb|⟨id,e,he,hown⟩
  ·exact hx.lt t b hb
  ·exact (Et.lt (hx.each id e he).1 hown).2) ⟨by rw [af];exact ha.1.symm,fun j y v hy hv=>by
   simp only [ag,dq] at hv
   obtain ⟨x,hxj,rfl⟩:=hv
   obtain ⟨_,hxe⟩:=ha.2 j x y hxj hy
   exact Ik.rel hx (fun b hb=>.inl hb) (fun _ b hb=>.inl hb) (fun id e g he hg=>.inr ⟨id,e,he,hg⟩) (hxe.pre hp) (hxs x (gM hxj))⟩
 unfold Oper.wp execOp
 simp only [ho,resolve,Act.eval,Deferred.ofValue,aj,bg,av,invoke]
 rw [Dz hf hn hb]
 rw [gd]
 have he:((#[]:Array Value)++xs.map a.eval++#[])=(xs.toList.map a.eval).toArray:=fh (by simp)
 simp only [he]
 refine hcalls.mono fun e w' ⟨v,hev,hres,hbel⟩=>?_
 subst hev
 refine hK v w' [] ⟨rfl,hbel,fun k e hk=>by simp at hk,List.Pairwise.nil⟩ (RR ?_)
 have hall:∀ y∈res,y.pl=true:=List.all_eq_true.1 hpl
 have hl:∀ {l:List A} {vs:List Value},(∀ y∈l,y.pl=true)→AV (Em w' (Afp Sx m.w w')) l vs→AV (Em w' (m.plus w' H.length []).S) l vs:=fun hl h=>⟨h.1,fun j y u hy hu=>Afc (hl y (gM hy)) (h.2 j y u hy hu)⟩
 match res,hres,hall with
 | [],hres,ha=>obtain ⟨vs,h1,h2⟩:=hres;exact ⟨vs,h1,hl ha h2⟩
 | [x],hres,ha=>exact Afc (ha x (by simp)) hres
 | x::y::l,hres,ha=>obtain ⟨vs,h1,h2⟩:=hres;exact ⟨vs,h1,hl ha h2⟩
end
theorem Afd {F:Frm} {H:List Ob} {ids:List Nat} {rows:List Nw} {t:Tmp} {ty ty' id k:Nat} {cs:List C} {ys:List Yr} (hk:TyK P ty true k) (hr:fn.results=#[.cell t ty]) (hF:F t=.one (.ref id 0 none)) (hH:H[id]?=some (.box ty' cs)) (hi:cs.length=k) (h:AV (YC ids rows) ys cs):AqZ P fn F H ids rows (.agg ys):=by
 obtain ⟨⟨d,hu,hd⟩,hz⟩:=hk
 exact .cell hr hF hH hu hd (by rw [hz,hi]) h
theorem Oz (l:List Pq):∀ d∈AN dyP l,Dg d:=fun d hd=>Dp (f:=dyP) (fun p=>PI _ _) l d hd
theorem Gi (l:List Int):∀ d∈l.map dI,Dg d:=fun d hd=>by
 obtain ⟨z,_,rfl⟩:=List.mem_map.1 hd
 exact .val _
theorem WY (a b c d:Int) (w:World):(Op.equalIn 10000 34 (.agg #[.int .i64 a,.int .i64 b]) (.agg #[.int .i64 c,.int .i64 d])).run prog w=.ok (a == c && b == d) w:=by
 have hS:prog.underlying 34=some (.struct (prog.fieldsOf 34)):=by kernel_rfl
 have hp:prog.stoodInHeld 34=false:=by kernel_rfl
 have hi:prog.underlying 3=some (.int .i64):=by kernel_rfl
 rw [show (10000:Nat)=9999+1 from rfl,run_equalIn_agg w 9999 34 _ _ hS hp]
 simp only [Program.fieldsOf,underlying34]
 go_simp
 cases h1:(a == c) <;> cases h2:(b == d) <;> simp_all
section
variable {G:World→Prop} {o:Oper} {F:Frm} {H:List Ob} {t':TypeId} {x y:Operand} {a b c d:Int} {r:Bool}
theorem AmL (ho:o.op=.binOp .eql 34 x y t') (hx:F.ev x=.agg [.d (.val (.int .i64 a)),.d (.val (.int .i64 b))]) (hy:F.ev y=.agg [.d (.val (.int .i64 c)),.d (.val (.int .i64 d))]) (hr:(a == c && b == d)=r):Bb prog G o F H (.one (.d (.val (.bool r)))) [] :=
 Ame (xs:=[.int .i64 a,.int .i64 b]) (ys:=[.int .i64 c,.int .i64 d]) ho (by kernel_rfl) (.inl ⟨rfl,hr.symm⟩) hx hy (WY a b c d)
end
def Arl:List Pq:=Anb.set 1 (Ac 1 0 (-4))
def exC2:Ct:=⟨WX,AmJ,Arl⟩
def AmM:List Rv:=Arl.map II
theorem Ara:dCr false WX AaD AmM=dCt false exC2:=by
 unfold dCr dCt AaD AmM
 rw [AdR,Wr]
 rfl
theorem Arb:∀ r∈AmM,RvL r:=fun r hr=>by
 obtain ⟨a,ha,rfl⟩:=List.mem_map.1 hr
 have key:(Arl.all fun a=>decide ((Ad a.1.natAbs).length≤40000))=true:=by decide +kernel
 exact ⟨Az _,of_decide_eq_true (List.all_eq_true.1 key a ha)⟩
theorem Arc:ckE flP flB flO WX AaD AmM=0:=by decide +kernel
theorem Ajx:vfE flP flB flO WX AaD AmM=false∧vfP flP flB flO WX AaD AmM=(3,1):=by decide +kernel
theorem Afe:∀ d∈dDg false flP flB flO,Dg d:=fun d hd=>by
 simp only [dDg,bo,bp,or_false] at hd
 rcases hd with rfl|rfl|rfl
 ·refine .row fun d hd=>?_
  simp [flP,AN,Agb] at hd
  rcases hd with rfl|rfl|rfl <;> exact .val _
 ·refine .row fun d hd=>?_
  obtain ⟨l,hl,hd⟩:=List.mem_flatten.1 hd
  obtain ⟨b,_,rfl⟩:=List.mem_map.1 hl
  simp only [dBk,bo,bp,or_false] at hd
  rcases hd with rfl|rfl|rfl|rfl|rfl|rfl
  ·exact .val _
  ·exact .row (Gi _)
  all_goals exact .val _
 ·exact .row (Gi _)
theorem WZ (t:Bool) (ns:List Int) (hn:∀ z∈ns,-1000≤z∧z≤1000) (hl:ns.length≤1000000):CVN prog An 166 [.one (Ba t ns)] [⟨43,3,(eiV ns).length,AN dyP (eiV ns)⟩] (.one (.own 0 (eiV ns).length)):=by
 refine Ajw Uf func166 rfl ntmps166 (bf rfl) ?_
 repeat' (with_reducible first|refine qq ?_|(refine Tx 0 ?_;refine gO xA ?_)|(refine Tx 1 ?_;refine gO xA ?_))
 refine Bi (LM 3 43 3 rfl) ?_
 repeat' (with_reducible first|refine qq ?_|(refine Tx 2 ?_;refine gO xM <| gO xN <| gO xM ?_))
 refine Bi (BE 1) (Aq (fun n Fr H=>∃ k:Nat,k≤ns.length∧n=ns.length - k∧Fr=ofL [(3,vo 0 (((eiV ns).take k).length)),(6,vd (Ba t ns)),(7,vi ns.length),(8,vi ((k:Nat)))]∧H=[.row 43 3 ((eiV ns).take (k)).length ((AN dyP ((eiV ns).take (k))).map C.d)]) (n0:=ns.length) ⟨0,ad _,rfl,rfl,rfl⟩ ?_)
 rintro n Fr H ⟨k,hk,rfl,rfl,rfl⟩
 by_cases hlt:k<ns.length
 case pos =>
  obtain ⟨z,hz⟩:∃ z,ns[k]?=some z:=⟨_,gE hlt⟩
  have hb:=hn z (gM hz)
  have OF:=Acp (G:=An) z (by omega) (by omega)
  have SH:=Px (G:=An) false z 0 (-3) ⟨by decide,fun h=>absurd rfl h⟩ (lT (AY (k:=2) (by omega)) (by decide)) (by omega)
  obtain ⟨hap,hap2,hoL⟩:=UD (Ass hz)
  repeat' (with_reducible first|refine qq ?_|(refine Tx 3 ?_;refine gO xLt ?_)|(refine Tx 4 ?_;refine gO (xIr Af (AF hz)) <| gO xD <| gO xA ?_)|(refine Tx 5 ?_;refine gO xM <| gO xM <| gO (xCl func39 (OF.cv)) <| gO (xCl func38 (SH.cv)) <| gN (by exact Bj rfl Ai Av rfl rfl (by decide) (by decide)) <| gT (by exact Gx rfl rfl rfl rfl rfl rfl Ai Av (by omega) (by decide) (by decide) rfl hap hap2) <| gO xA ?_)|(refine Tx 6 ?_;refine gO xAd <| gO xM ?_))
  refine ⟨_,_,BE 1,_,?_,k+1,by omega,rfl,rfl,rfl⟩
  ·omega
 obtain rfl:k=ns.length:=by omega
 have hel:(eiV ns).length=ns.length:=af ..
 rw [←hel,ay]
 repeat' (with_reducible first|refine qq ?_|(refine Tx 3 ?_;refine gO xLt ?_)|(refine Tx 7 ?_;refine gO xM <| gO xA ?_))
 exact ⟨.inl rfl,[0],by decide,.cons_ ⟨rfl,Oz _⟩ .nil_,.tmp results166 rfl ⟨0,_,rfl,rfl,rfl,rfl⟩⟩
theorem Za (h:p:=by first|exact xCl func165 (I1)|exact xCl func165 (I2)):p:=h
theorem Xa  : CVN prog An 75 [] [⟨3,1,4,WX.map dI⟩,⟨45,6,4,AN (dIw false) AmJ⟩,⟨43,3,4,AN dyP Anb⟩] (.agg [.own 0 4,.own 1 4,.own 2 4]):=by
 refine Ajw Uf func75 rfl ntmps75 (bf rfl) ?_
 have I1:=UI (-1) 1 (by decide) (by decide)
 have I2:=UI (-2) 2 (by decide) (by decide)
 have EI:=WZ true [0,1,1,1] (by decide) (by decide)
 repeat' (with_reducible first|refine qq ?_|(refine Tx 0 ?_;refine gN (xAl AbH) ?_)|(refine Tx 1 ?_;refine gN (by exact EW rfl rfl Af Bz (by decide) (by decide) (by decide) rfl rfl rfl) <| gO Za <| gO Za <| gO Za <| gO Za <| gN (by exact EW rfl rfl Aw AE (by decide) (by decide) (by decide) rfl rfl rfl) <| gN (by exact EW rfl rfl Af Bz (by decide) (by decide) (by decide) rfl rfl rfl) <| gN (by exact AeZ rfl func166 (by kernel_rfl) (by with_unfolding_all exact rfl) EI (by with_unfolding_all first|((repeat' first|exact CF rfl rfl|refine BG rfl rfl ?_ ?_|refine GO rfl rfl ?_|refine EV rfl rfl ?_|exact CA rfl (fun h=>by cases h)|exact Fx rfl rfl|exact cexp_e rfl rfl|refine Ej rfl rfl rfl ?_) <;> fail)|fail)) <| gO (by exact AC rfl Akh rfl rfl) <| gZ (xSk GM) ?_))
 exact ⟨.inl rfl,[1,2,4],by decide,.cons_ ⟨rfl,Gi _⟩ (.cons_ ⟨rfl,Ql⟩ (.cons_ ⟨rfl,Oz _⟩ .nil_)),Afd GM results75 rfl rfl rfl (.cons_ ⟨1,_,rfl,rfl,rfl,rfl⟩ (.cons_ ⟨2,_,rfl,rfl,rfl,rfl⟩ (.cons_ ⟨4,_,rfl,rfl,rfl,rfl⟩ .nil_)))⟩
theorem Ajy (h:p:=by first|exact Eo rfl Ap rfl (TP rfl)|exact Eo rfl Ap rfl (TP (by first|rfl|omega))|exact Eo rfl Ap rfl (VJ (by first|assumption|omega))|exact Eo rfl Ap rfl rfl):p:=h
theorem AaE  : CV prog An 30 [] [aB true]:=by
 refine cvz func30 ntmps30 ?_
 have FC:=AdZ
 have XC:=Xa
 have VC1:=Lv false Aju WX AaD AmK AqV Asu (by decide) (by decide) (by decide)
 rw [Asw,Asv,Ast] at VC1
 generalize vfP flP flB flO WX AaD AmK=e1 at VC1
 have VC2:=Lv false Aju WX AaD AmM AqV Arb (by decide) (by decide) (by decide)
 rw [Ajx.1,Ajx.2,Arc,Ara] at VC2
 have OF:=Acp (G:=An) 1 (by decide) (by decide)
 have SH:=Px (G:=An) false 1 0 (-4) ⟨by decide,fun h=>absurd rfl h⟩ (by decide +kernel) (by decide)
 repeat' (with_reducible first|refine qq ?_|(refine Tx 0 ?_;refine gO xA ?_)|(refine Tx 1 ?_;refine gO (xCl func74 (FC)) ?_;refine Jl (by exact Afa rfl func75 (by kernel_rfl) (by with_unfolding_all exact rfl) XC (by with_unfolding_all first|((repeat' first|exact CF rfl rfl|refine BG rfl rfl ?_ ?_|refine GO rfl rfl ?_|refine EV rfl rfl ?_|exact CA rfl (fun h=>by cases h)|exact Fx rfl rfl|exact cexp_e rfl rfl|refine Ej rfl rfl rfl ?_) <;> fail)|fail)) ?_;refine gN (xAl QV) <| gN (xAl AbH) <| gZ (xSk CE) <| gZ (xSk GM) ?_)|(refine Tx 2 ?_;refine gO xL <| gO xL <| gO (by exact YZ rfl func12 (by kernel_rfl) (by with_unfolding_all exact rfl) rfl VC1 (by with_unfolding_all exact BG rfl rfl ⟨false,EV rfl rfl (El rfl Afe)⟩ (BG rfl rfl ⟨false,EV rfl rfl (BG rfl rfl (Ej rfl rfl rfl (El rfl (Gi WX))) (BG rfl rfl (Ej rfl rfl rfl (El rfl Ql)) (BG rfl rfl (Ej rfl rfl rfl (El rfl (Oz Anb))) (CF rfl rfl))))⟩ (CF rfl rfl)))) <| gO xMt <| gO xEx <| gO (by exact Nz rfl rfl rfl) <| gO xEx <| gN (xAl Ei) <| gO xA <| gZ (xSk Bu) <| gO xA ?_)|(refine AJ (id:=3) 5 AX (by kernel_rfl) ?_;dsimp only [List.take,List.drop];refine gP xF <| gP xD <| gP (xCl func39 (OF.cv)) <| gP (xCl func38 (SH.cv)) <| gP (xIo (i:=1) Ai) ?_;refine Ke ?_;refine gZ (xSk Ae) ?_)|(refine Tx 4 ?_;refine gO xL <| gO xL <| gO (by exact YZ rfl func12 (by kernel_rfl) (by with_unfolding_all exact rfl) rfl VC2 (by with_unfolding_all exact BG rfl rfl ⟨false,EV rfl rfl (El rfl Afe)⟩ (BG rfl rfl ⟨false,EV rfl rfl (BG rfl rfl (Ej rfl rfl rfl (El rfl (Gi WX))) (BG rfl rfl (Ej rfl rfl rfl (El rfl Ql)) (BG rfl rfl (Ej rfl rfl rfl (El rfl (Oz Arl))) (CF rfl rfl))))⟩ (CF rfl rfl)))) <| gO xMt <| gO xEx <| gO (by exact Nz rfl rfl rfl) <| gO xEx <| gN (xAl Ei) <| gO xA <| gZ (xSk Bu) <| gO xA ?_)|(refine Tx 5 ?_;refine gO xM <| gO Ajy <| gO xM ?_;(first|iterate 2 refine Jd ?_|(refine Jy xM1 ?_;refine Jy Ajy ?_));refine gO xPk <| gO xM ?_;(first|refine Jd ?_|refine Jy xM1 ?_);refine gO xPk <| gO xM ?_;(first|iterate 2 refine Jd ?_|(refine Jy xM1 ?_;refine Jy DM ?_));refine gO xPk <| gO xM ?_;(first|iterate 3 refine Jd ?_|(refine Jy (xLa Bu) ?_;refine Jy (by exact AC rfl Fq rfl rfl) ?_;refine Jy (by first|exact AmL rfl rfl rfl rfl|exact xEq) ?_));refine gO xPk <| gO xA ?_))
 exact Eu
theorem RH (k:p') (h:Hd9 p'→p:=by with_reducible first|(intro Z9;refine qq ?_;exact Z9.o)|(intro Z9;refine Tx 0 ?_;refine gN xBo <| gN xBo <| gO xA ?_;exact Z9.o)|fail):p:=h ⟨k⟩
theorem Ajz (k:p') (h:Hd9 p'→p:=by with_reducible first|(intro Z9;refine Tx 1 ?_;refine gO (xCl func30 (AW)) <| gO DM <| gO xM ?_;(first|iterate 4 refine Jd ?_|(refine Jy (xLa CE) ?_;refine Jy (xLa GM) ?_;refine Jy (xCl func43 (LT)) ?_;refine Jy DM ?_));refine gO xPk <| gO xM ?_;(first|iterate 3 refine Jd ?_|(refine Jy xM1 ?_;refine Jy (xCl func44 (SH)) ?_;refine Jy DM ?_));refine gO xPk <| gO xM ?_;(first|refine Jd ?_|refine Jy (xLa CE) ?_);refine Jd ?_;(first|refine Jd ?_|refine Jy xNe ?_);refine gO xPk ?_;exact Z9.o)|fail):p:=h ⟨k⟩
theorem Zb (k:p') (h:Hd9 p'→p:=by with_reducible first|(intro Z9;refine Tx 1 ?_;refine gO (xCl func30 (AW)) <| gO DM <| gO xM ?_;(first|iterate 4 refine Jd ?_|(refine Jy (xLa CE) ?_;refine Jy (xLa GM) ?_;refine Jy (xCl func43 (LT)) ?_;refine Jy DM ?_));refine gO xPk <| gO xM ?_;(first|iterate 3 refine Jd ?_|(refine Jy xM1 ?_;refine Jy (xCl func44 (SH)) ?_;refine Jy DM ?_));refine gO xPk <| gO xM ?_;(first|iterate 3 refine Jd ?_|(refine Jy (xLa CE) ?_;refine Jy (xCl func25 (RC.cv)) ?_;refine Jy xNe ?_));refine gO xPk ?_;exact Z9.o)|fail):p:=h ⟨k⟩
theorem Aff (k:p') (h:Hd9 p'→p:=by with_reducible first|(intro Z9;refine Tx 3 ?_;refine gO xL <| gO xL <| gO (xCl func12 (VC)) <| gO xMt <| gO xEx <| gO (by exact Nz rfl rfl rfl) <| gO xEx <| gN (xAl Ei) <| gO xA <| gZ (xSk Bu) <| gO xA ?_;exact Z9.o)|fail):p:=h ⟨k⟩
theorem Ir (ps:List Prt) (bs:List Bk) (os F:List Int) (qs:List (Rv × Rv)) (rs:List Rv) (hws:∀ q∈qs,Ao q.1.ws∧Ao q.2.ws) (hwsr:∀ r∈rs,Ao r.ws) (hfn:(F.length:Int)≤9223372036854775807) (hqn:(qs.length:Int)≤9223372036854775807) (hrn:(rs.length:Int)≤9223372036854775807) (ls:List (List Int)) (hln:(ls.length:Int)≤9223372036854775807):CV prog An 9 [aDg true ps bs os,.agg (dCr false F qs rs),.one (Ws true ls)] [aB true]:=by
 refine cvz func9 ntmps9 ?_
 have AW:=AaE
 have LT:=AaB true false ps bs os F qs rs hqn hfn hrn
 have SH:=AaC true ls hln
 cases h1:Qk ps bs os F qs rs
 case false =>
  rw [h1] at LT
  repeat' (with_reducible first|refine RH ?_|refine Ajz ?_|(refine Tx 2 ?_;refine gO (xCl func30 (AW)) <| gO xA ?_))
  exact Eu
 rw [h1] at LT
 cases h2:Lw ls
 case false =>
  rw [h2] at SH
  repeat' (with_reducible first|refine RH ?_|refine Ajz ?_|(refine Tx 2 ?_;refine gO (xCl func30 (AW)) <| gO xA ?_))
  exact Eu
 rw [h2] at SH
 obtain ⟨hlB,hlw,hFl,hRl,hrl⟩:=AaA h1
 have hl:=(AdC hlB).1
 obtain ⟨hwl,hql,_⟩:=Aaz hlw hws
 have hwr2:∀ r∈rs,RvL r:=fun r hr=>⟨hwsr r hr,by have:=hrl r hr;omega⟩
 have RC:=Adz true hl
 obtain ⟨hll,hlc⟩:=WW h2
 by_cases h0:Bl ps bs os=0
 case neg =>
  repeat' (with_reducible first|refine RH ?_|refine Zb ?_|(refine Tx 2 ?_;refine gO (xCl func30 (AW)) <| gO xA ?_))
  exact Eu
 rw [h0] at RC
 have VC:=Lv true hl F qs rs hwl hwr2 (by omega) (by omega) (by omega)
 by_cases hck:ckE ps bs os F qs rs=0
 case neg =>
  generalize vfE ps bs os F qs rs=e1 at *
  generalize vfP ps bs os F qs rs=e2 at *
  repeat' (with_reducible first|refine RH ?_|refine Zb ?_|refine Aff ?_|(refine Tx 4 ?_;refine gO xM <| gO (by first|exact BV rfl Ap rfl (Li hck)|exact BV rfl Ap rfl (Qt Ajt)|exact BV rfl Ap rfl (Li Ajs)|exact BV rfl Ap rfl rfl) <| gO xM ?_;(first|iterate 2 refine Jd ?_|(refine Jy xM1 ?_;refine Jy DM ?_));refine gO xPk ?_)|(refine Tx 5 ?_;refine gO xA ?_))
  exact Eu
 rw [hck] at VC
 cases hvf:vfE ps bs os F qs rs
 case false =>
  rw [hvf] at VC
  generalize vfP ps bs os F qs rs=e2 at *
  repeat' (with_reducible first|refine RH ?_|refine Zb ?_|refine Aff ?_|(refine Tx 4 ?_;refine gO xM <| gO (xNE Ap) <| gO xM ?_;(first|iterate 2 refine Jd ?_|(refine Jy xM1 ?_;refine Jy DM ?_));refine gO xPk ?_)|(refine Tx 5 ?_;refine gO xA ?_))
  exact Eu
 have A:=AmG hwl hwr2 hvf
 rw [hvf] at VC
 generalize vfP ps bs os F qs rs=e2 at *
 have FO:=AeY true true hl F qs rs hwl hwr2 hck A ls hll hlc
 repeat' (with_reducible first|refine RH ?_|refine Zb ?_|refine Aff ?_|(refine Tx 4 ?_;refine gO xM <| gO (xNE Ap) <| gO xM ?_;(first|iterate 2 refine Jd ?_|(refine Jy xM1 ?_;refine Jy DM ?_));refine gO xPk ?_)|(refine Tx 6 ?_;refine gO xL <| gO xL <| gO xM <| gO (xCl func45 (FO)) <| gO xA ?_))
 exact Eu
open Go.ChangeShapes Go.WideShapes Go.ChangeAt Go.Joins Go.Deep
def AmN (w:World):Du:=fun t b=>t=true∧b<w.heap.size
theorem Afg {A:Option Addr} {c:Nat} {cs:List D} {xs:List Value} (h:Al w w.heap.size A xs) (hc:n≤c) (hA:A=none→c=0) (hl:cs.length=n*s) (hr:AV (Bh w (AmN w)) cs xs):Bh w (AmN w) (.row true s n cs) (.slice A n c):=by
 refine .row xs hc hA hl hr.1 (fun hne=>?_) hr.2
 obtain ⟨b,off,h1,_,h2,h3⟩:=h (fun h0=>hne (by have:=hr.1;rw [h0] at this;exact bw (by simpa using this)))
 exact ⟨b,off,h1,⟨rfl,h2⟩,h3⟩
theorem SZ {zs:List Int}:∀ v∈Ii zs,v.oneCell'=true:=fun v hv=>by
 obtain ⟨z,_,rfl⟩:=List.mem_map.1 hv
 rfl
theorem Afh {A:Option Addr} {zs:List Int} {c:Nat} (h:Al w w.heap.size A (Ii zs)) (hc:zs.length≤c) (hA:A=none→c=0):Bh w (AmN w) (Ba true zs) (.slice A zs.length c):=by
 unfold Ba
 rw [XL]
 exact Afg h hc hA (by simp [Ii]) (LU SZ)
theorem AmO:∀ v∈MH Prt.cells ps,v.oneCell'=true:=fun v hv=>by
 obtain ⟨l,hl,hv⟩:=List.mem_flatten.1 hv
 obtain ⟨p,_,rfl⟩:=List.mem_map.1 hl
 simp only [Prt.cells,bo,bp,or_false] at hv
 rcases hv with rfl|rfl|rfl <;> rfl
theorem Vi {α:Type} {f:α→List Value} {s:Nat} (hf:∀ x,(f x).length=s):∀ l:List α,(MH f l).length=l.length*s
 | []=>by simp [MH]
 | x::l=>by
  have ih:=Vi hf l
  unfold MH at ih ⊢
  rw [ce,fp,ak,ih,hf,bk,bh]
  omega
theorem AmP {A:Option Addr} {c:Nat} (h:Al w w.heap.size A (MH Prt.cells ps)) (hc:ps.length≤c) (hA:A=none→c=0):Bh w (AmN w) (Dh true ps) (.slice A ps.length c):=by
 unfold Dh
 rw [Nb Ue]
 exact Afg h hc hA (by rw [af];exact Vi (f:=Prt.cells) (s:=3) (fun _=>rfl) ps) (LU AmO)
theorem AjA {w:World}:∀ {bs:List Bk},(∀ b∈bs,Al w w.heap.size b.A (Ii b.args)∧b.args.length≤b.cap∧(b.A=none→b.cap=0))→AV (Bh w (AmN w)) (AN (dBk true) bs) (MH Bk.cells bs)
 | [],_=>.nil_
 | b::bs,h=>by
  have ih:=AjA (w:=w) (bs:=bs) fun x hx=>h x (by simp [hx])
  obtain ⟨h1,h2,h3⟩:=h b (by simp)
  exact .cons_ (.val rfl) (.cons_ (Afh h1 h2 h3) (.cons_ (.val rfl) (.cons_ (.val rfl) (.cons_ (.val rfl) (.cons_ (.val rfl) ih)))))
theorem Afi (t:Bool):∀ bs:List Bk,(AN (dBk t) bs).length=bs.length*6
 | []=>rfl
 | b::bs=>by
  have ih:=Afi t bs
  show (AN (dBk t) ([b]++bs)).length=_
  rw [EU,ak,ih,bk,bh]
  show 6+bs.length*6=_
  omega
section
variable {H:Type} {enc:TypeId × Value→H} {w:World} {spare:Nat→Bool} {held:Bool}
theorem AhL {r:Go.Reach} {b0:Nat} {v:Value} {d:DataW H} {p:List MemPlace} (hv:Value.okWide prog w r b0 26 v) (h:DataW.Trod enc prog w 0 spare held 26 v d p) :
  ∃ (ps:List Prt) (bs:List Bk) (os:List Int),Em w (AmN w) (aDg true ps bs os) v:=by
 obtain ⟨v0,v1,v2,y0,y1,y2,m,rfl,rfl,rfl,g0,g1,g2⟩:=open_agg3 underlying26 (by kernel_rfl) (by kernel_rfl) hv h
 obtain ⟨A1,c1,ps,rfl,n1,k1,l1,h1,b1⟩:=TZ Aoq VO (fun _=>rfl) (by decide) underlying22 underlying81 (by kernel_rfl) (QZ (by kernel_rfl)) (by kernel_rfl) rfl g0
 obtain ⟨A2,c2,bs,e2,l2,h2,b2⟩:=Uc g1
 obtain ⟨A3,c3,os,rfl,n3,k3,l3,h3,b3⟩:=EB underlying24 underlying3 (by kernel_rfl) g2
 have hs:(A2=none→c2=0)∧bs.length≤c2:=by
  rcases open_slice underlying23 g1 with ⟨hcs,_⟩|⟨a,len,cap,m,n,D,Pl,hcs,_,hl,hm,hmm,_,hx⟩
  ·have e3:v1=.slice none 0 0:=by simpa using hcs
   rw [e2] at e3
   simp only [Value.slice.injEq] at e3
   exact ⟨fun _=>e3.2.2,by omega⟩
  ·have e3:v1=.slice (some a) len cap:=by simpa using hcs
   rw [e2] at e3
   simp only [Value.slice.injEq] at e3
   exact ⟨fun h0=>(by rw [e3.1] at h0;cases h0),by omega⟩
 refine ⟨ps,bs,os,[.slice A1 ps.length c1,v1,.slice A3 os.length c3],rfl,?_⟩
 rw [e2]
 exact .cons_ (AmP h1 k1 n1) (.cons_ (Afg h2 hs.2 hs.1 (Afi true bs) (AjA fun b hb=>⟨(b2 b hb).2.2.2.1,(b2 b hb).2.1,(b2 b hb).1⟩)) (.cons_ (Afh h3 k3 n3) .nil_))
end
def RI (w:World):Du:=fun _ b=>b<w.heap.size
theorem RI.of {x:A} {v:Value} (h:Em w (AmN w) x v):Em w (RI w) x v:=h.mono (fun _ _ hb=>hb.2) fun _ _ _=>rfl
theorem AmQ {args:List A} (h:CV prog An f args [aB true]) {w:World} (ht:An w) {vs:List Value} (ha:AV (Em w (RI w)) args vs) :
  Calls prog f vs.toArray w fun e w'=>e=.returned (.bool true)∧Below w.heap.size w w' :=
 (h w _ vs ht (fun t b hb=>hb) ha).mono fun e w' ⟨v,h1,h2,h3⟩=>by
  have h4:Bh w' _ (dB true) v:=h2
  cases h4
  exact ⟨h1,h3⟩
structure Afj (α:Type) (s:Nat) where
 cs:List Value
 len:cs.length=s
 a:α
instance {α:Type} {s:Nat} [Inhabited α]:Inhabited (Afj α s):=⟨⟨List.replicate s undef,fa,default⟩⟩
section
variable {H:Type} {enc:TypeId × Value→H} {P:Program} {w:World} {spare:Nat→Bool} {held:Bool}
theorem Ta {α:Type} [Inhabited α] {Q:α→List Value→Prop} (hs0:0<s) {t e:TypeId} {fuel:Nat} {v:Value} {x:DataW H × List MemPlace} (ht:P.underlying t=some (.slice e)) (hC:P.cellsOf e=s)
  (hrow:∀ (fuel:Nat) (cs:List Value) (x:DataW H × List MemPlace),DataW.trod enc P w 0 spare held fuel e cs=some x→cs.length=s→∃ a,Q a cs)
  (h:DataW.trod enc P w 0 spare held fuel t [v]=some x) :
  ∃ (A:Option Addr) (cap:Nat) (l:List (Afj α s)),v=.slice A l.length cap∧(A=none→cap=0)∧l.length≤cap∧l.length≤maxLen∧Al w w.heap.size A (MH Afj.cs l)∧∀ x∈l,Q x.a x.cs:=by
 rcases open_slice ht h with ⟨hcs,_⟩|⟨a,len,cap,m,n,D,Pl,hcs,_,hl,hm,hmm,_,hx⟩
 ·exact ⟨none,0,[],by simpa using hcs,fun _=>rfl,aa _,ad _,Al.nil_,by simp⟩
 ·have hle:len≤m:=by rw [hmm];split <;> omega
  rw [hC] at hx
  obtain ⟨R,hR⟩:=choose_lt (α:=Afj α s) (n:=len) (p:=fun i b=>Q b.a b.cs∧∀ j,j<s→w.cell? (a.add (i*s+j))=b.cs[j]?) (fun i hi=>by
   obtain ⟨cs',h1,h2⟩:=hx i (by omega)
   obtain ⟨_,hlen,hcell⟩:=World.cells?_some h1
   obtain ⟨b,hb⟩:=hrow _ _ _ h2 (by simpa using hlen)
   exact ⟨⟨cs',by simpa using hlen,b⟩,hb,fun j hj=>by rw [←add_add];exact hcell j hj⟩)
  refine ⟨some a,cap,(List.range len).map R,by simpa using hcs,by simp,by simpa using hl,by simp;omega,fun hne=>?_,?_⟩
  ·have hpos:0<len:=by
    rcases cn len with h0|h0
    ·subst h0;simp [MH] at hne
    ·exact h0
   obtain ⟨b,off,spot⟩:=a
   have h00:=(hR 0 hpos).2 0 hs0
   have hz0:(R 0).cs[0]?=some ((R 0).cs[0]'(by rw [(R 0).len];exact hs0)):=gE _
   rw [hz0] at h00
   have hspot:spot=none:=by simpa [Addr.add] using World.cell?_spot h00
   subst hspot
   have hb:b<w.heap.size:=by
    rcases ba b w.heap.size with h|h
    ·exact h
    ·simp [World.cell?,Addr.add,ep h] at h00
   refine ⟨b,off,rfl,hb,hb,fun j u hu=>?_⟩
   have hjl:j<len*s:=by
    have:=(gS.1 hu).1
    rw [Se (f:=Afj.cs) (s:=s) (fun x=>x.len)] at this
    simpa using this
   have hk:j / s<len:=kt (by rw [ar];exact hjl)
   have hr:j % s<s:=ew _ hs0
   have hj:j / s*s+j % s=j:=by rw [ar];exact dn j s
   have hg:((List.range len).map R)[j / s]?=some (R (j / s)):=by simp [hk]
   have h1:=Hm (f:=Afj.cs) (s:=s) (fun x=>x.len) hg hr
   rw [hj,hu] at h1
   have h2:=(hR _ hk).2 (j % s) hr
   rw [hj,←h1] at h2
   rw [←Go.WideShapes.add_plain]
   exact h2
  ·intro y hy
   obtain ⟨i,hi,rfl⟩:=List.mem_map.1 hy
   exact (hR i (by simpa using hi)).1
theorem Tb {tg:Bool} {A:Option Addr} {c:Nat} {cs:List D} {xs:List Value} (h:Al w w.heap.size A xs) (hc:n≤c) (hA:A=none→c=0) (hl:cs.length=n*s) (hr:AV (Bh w (RI w)) cs xs):Bh w (RI w) (.row tg s n cs) (.slice A n c):=by
 refine .row xs hc hA hl hr.1 (fun hne=>?_) hr.2
 obtain ⟨b,off,h1,_,h2,h3⟩:=h (fun h0=>hne (by have:=hr.1;rw [h0] at this;exact bw (by simpa using this)))
 exact ⟨b,off,h1,h2,h3⟩
theorem Afk {α:Type} [Inhabited α] (f:α→List D) (Q:α→Prop) {s:Nat} {tg:Bool} (hs0:0<s) (hfl:∀ a,(f a).length=s) {t e:TypeId} {fuel:Nat} {v:Value} {x:DataW H × List MemPlace} (ht:P.underlying t=some (.slice e)) (hC:P.cellsOf e=s)
  (hrow:∀ (fuel:Nat) (cs:List Value) (x:DataW H × List MemPlace),DataW.trod enc P w 0 spare held fuel e cs=some x→cs.length=s→∃ a,Q a∧AV (Bh w (RI w)) (f a) cs)
  (h:DataW.trod enc P w 0 spare held fuel t [v]=some x):∃ l:List α,Bh w (RI w) (.row tg s l.length (AN f l)) v∧(∀ a∈l,Q a)∧l.length≤maxLen:=by
 obtain ⟨A,cap,l,rfl,hA,hc,hm,hcl,hQ⟩:=Ta (Q:=fun a cs=>Q a∧AV (Bh w (RI w)) (f a) cs) hs0 ht hC hrow h
 refine ⟨l.map Afj.a,?_,fun a ha=>?_,by rw [af];exact hm⟩
 ·have key:∀ l:List (Afj α s),(∀ x∈l,Q x.a∧AV (Bh w (RI w)) (f x.a) x.cs)→AV (Bh w (RI w)) (AN f (l.map Afj.a)) (MH Afj.cs l):=fun l=>by
   induction l with
   | nil=>intro _;exact AV.nil_
   | cons y l ih=>intro hq;exact (hq y (ii ..)).2.app (ih fun z hz=>hq z (ij _ hz))
  have:=Tb (tg:=tg) (n:=(l.map Afj.a).length) hcl (by rw [af];exact hc) hA (AbM (f:=f) hfl _) (key l hQ)
  rwa [af] at this ⊢
 ·obtain ⟨y,hy,rfl⟩:=List.mem_map.1 ha
  exact (hQ y hy).1
end
theorem Tc (h:n≤maxLen):(n:Int)≤9223372036854775807:=by unfold maxLen at h;omega
theorem Afl {α:Type} (f:α→D) (l:List α):AN (fun a=>[f a]) l=l.map f:=by
 induction l with
 | nil=>rfl
 | cons a l ih=>show f a::AN (fun a=>[f a]) l=f a::l.map f;rw [ih]
section
variable {H:Type} {enc:TypeId × Value→H} {w:World} {spare:Nat→Bool} {held:Bool}
theorem Afm {tg:Bool} {A:Option Addr} {ws:List Nat} {c:Nat} (h:Al w w.heap.size A (w32 ws)) (hc:ws.length≤c) (hA:A=none→c=0):Bh w (RI w) (.row tg 1 ws.length (ws.map dW)) (.slice A ws.length c):=by
 rw [←ZB]
 exact Tb h hc hA (by rw [af,OB,cq]) (LU fun v hv=>VT hv)
theorem Afn (tg:Bool) {r:Rw} (h:Alm w w.heap.size r):AV (Bh w (RI w)) (dRv tg ⟨r.nb,r.ws,r.den⟩) r.cells :=
 .cons_ (.val rfl) (.cons_ (Afm h.at_ h.fit h.nul) (.cons_ (.val rfl) .nil_))
instance:Inhabited Rv:=⟨⟨false,[],0⟩⟩
def AhM (r:Rv):Prop:=Ao r.ws∧r.ws.length≤maxLen ∧ -9223372036854775808≤r.den∧r.den≤9223372036854775807
theorem AmR (tg:Bool) {fuel:Nat} {cs:List Value} {x:DataW H × List MemPlace} (h:DataW.trod enc prog w 0 spare held fuel 43 cs=some x):∃ r:Rv,AhM r∧AV (Bh w (RI w)) (dRv tg r) cs:=by
 obtain ⟨r,rfl,h1,h2,h3⟩:=AcB h
 exact ⟨⟨r.nb,r.ws,r.den⟩,⟨h1.ok,h2,h3⟩,Afn tg h1⟩
end
section
variable {H:Type} {enc:TypeId × Value→H} {w:World} {spare:Nat→Bool} {held:Bool}
theorem AmS (tg:Bool) {fuel:Nat} {cs:List Value} {x:DataW H × List MemPlace} (h:DataW.trod enc prog w 0 spare held fuel 45 cs=some x):∃ q:Rv × Rv,(AhM q.1∧AhM q.2)∧AV (Bh w (RI w)) (dIr tg q) cs:=by
 obtain ⟨a,rfl,h1,l1,l2,d1,d2⟩:=AoN h
 exact ⟨(⟨a.lo.nb,a.lo.ws,a.lo.den⟩,⟨a.hi.nb,a.hi.ws,a.hi.den⟩),⟨⟨h1.lo.ok,l1,d1⟩,h1.hi.ok,l2,d2⟩,(Afn tg h1.lo).app (Afn tg h1.hi)⟩
end
section
variable {H:Type} {enc:TypeId × Value→H} {w:World} {spare:Nat→Bool} {held:Bool}
theorem AmT {fuel:Nat} {v:Value} {x:DataW H × List MemPlace} (hf:DataW.trod enc prog w 0 spare held fuel 27 [v]=some x) :
  ∃ qs:List (Rv × Rv),Bh w (RI w) (AdP qs) v∧(∀ q∈qs,AhM q.1∧AhM q.2)∧(qs.length:Int)≤9223372036854775807:=by
 obtain ⟨qs,h1,h2,h3⟩:=Afk (s:=6) (tg:=false) (dIr false) (fun q:Rv × Rv=>AhM q.1∧AhM q.2) (by decide) (fun _=>rfl) underlying27 (by kernel_rfl) (fun fuel cs x hx _=>AmS false hx) hf
 exact ⟨qs,h1,h2,Tc h3⟩
theorem AmU {fuel:Nat} {v:Value} {x:DataW H × List MemPlace} (hf:DataW.trod enc prog w 0 spare held fuel 28 [v]=some x) :
  ∃ rs:List Rv,Bh w (RI w) (Yd rs) v∧(∀ r∈rs,AhM r)∧(rs.length:Int)≤9223372036854775807:=by
 obtain ⟨rs,h1,h2,h3⟩:=Afk (s:=3) (tg:=false) (dRv false) AhM (by decide) (fun _=>rfl) underlying28 (by kernel_rfl) (fun fuel cs x hx _=>AmR false hx) hf
 exact ⟨rs,h1,h2,Tc h3⟩
theorem Afo {r:Go.Reach} {b0:Nat} {v:Value} {d:DataW H} {p:List MemPlace} (hv:Value.okWide prog w r b0 30 v) (h:DataW.Trod enc prog w 0 spare held 30 v d p) :
  ∃ (F:List Int) (qs:List (Rv × Rv)) (rs:List Rv),Em w (RI w) (.agg (dCr false F qs rs)) v∧(∀ q∈qs,Ao q.1.ws∧Ao q.2.ws)∧(∀ r∈rs,Ao r.ws)∧(F.length:Int)≤9223372036854775807∧(qs.length:Int)≤9223372036854775807∧(rs.length:Int)≤9223372036854775807:=by
 obtain ⟨v0,v1,v2,y0,y1,y2,m,rfl,rfl,rfl,g0,g1,g2⟩:=open_agg3 underlying30 (by kernel_rfl) (by kernel_rfl) hv h
 obtain ⟨A,cp,zs,rfl,n,k,l,hc,b⟩:=EB underlying24 underlying3 (by kernel_rfl) g0
 obtain ⟨qs,h1,k1,l1⟩:=AmT g1
 obtain ⟨rs,h2,k2,l2⟩:=AmU g2
 have h0:Bh w (RI w) (Ba false zs) (.slice A zs.length cp):=by
  unfold Ba
  rw [XL]
  exact Tb hc k n (by simp [Ii]) (LU SZ)
 exact ⟨zs,qs,rs,⟨_,rfl,.cons_ h0 (.cons_ h1 (.cons_ h2 .nil_))⟩,fun q hq=>⟨(k1 q hq).1.1,(k1 q hq).2.1⟩,fun r hr=>(k2 r hr).1,Tc l,l1,l2⟩
end
section
variable {H:Type} {enc:TypeId × Value→H} {w:World} {spare:Nat→Bool} {held:Bool}
theorem Xb (tg:Bool) {r:Go.Reach} {b0:Nat} {v:Value} {d:DataW H} {p:List MemPlace} (hv:Value.okWide prog w r b0 31 v) (h:DataW.Trod enc prog w 0 spare held 31 v d p) :
  ∃ ls:List (List Int),Em w (RI w) (.one (.row tg 1 ls.length (ls.map (Ba tg)))) v∧(ls.length:Int)≤9223372036854775807:=by
 obtain ⟨a0,len,cap,rfl⟩:=okWide_slice underlying31 hv
 obtain ⟨fuel,hf⟩:=h
 obtain ⟨ls,h1,_,h3⟩:=Afk (s:=1) (tg:=tg) (fun l=>[Ba tg l]) (fun _=>True) (by decide) (fun _=>rfl) underlying31 (by kernel_rfl) (fun fuel cs x hx hl=>by
  match cs,hl with
  | [c],_ =>
   obtain ⟨A,cp,zs,rfl,n,k,l,hc,b⟩:=EB underlying24 underlying3 (by kernel_rfl) hx
   refine ⟨zs,trivial,.cons_ ?_ .nil_⟩
   unfold Ba
   rw [XL]
   exact Tb hc k n (by simp [Ii]) (LU SZ)) hf
 rw [Afl] at h1
 exact ⟨ls,h1,Tc h3⟩
end
end Go.Proofs.YtmdfjbpggbhgnaaGreatDoor
