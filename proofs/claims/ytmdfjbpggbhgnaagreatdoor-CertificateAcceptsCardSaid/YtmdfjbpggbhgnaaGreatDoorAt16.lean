/- What the proofs of this claim share, part 16. No conditions. -/
import Derived.Test.YtmdfjbpggbhgnaaGreatDoorAt15
import Derived.Test.YtmdfjbpggbhgnaaGreatDoorAt11
import Derived.Test.YtmdfjbpggbhgnaaGreatDoorAt7
import Derived.Test.YtmdfjbpggbhgnaaGreatDoorAt8
import Derived.Test.YtmdfjbpggbhgnaaGreatDoorAt9
set_option maxRecDepth 100000
set_option maxHeartbeats 8000000
set_option linter.all false
open Go.Proofs.Tryz
namespace Go.Proofs.YtmdfjbpggbhgnaaGreatDoor
open Go.RowKit
variable {f:FuncId} {E:List Pq} {F os:List Int} {ps:List Prt} {bs:List Bk} {p p':Prop} {id n s ty:Nat} {qs:List (Rv × Rv)} {rs:List Rv} {r:Rv} {w:World} {S:Dt} {P:Program} {fn:Func} {xs:Array Operand} {ts:Array TypeId} {H:List Ob}
section
variable {P:Program} {G:World→Prop} {o:Oper} {F:Frm} {H:List Ob}
theorem Ajj (ho:o.op=.assign (.func f)):AK P G o F H (.one (.clo (.func f) [])) []:=BB fun b0 m a _ _ hor=>by
 refine ⟨.func (.func f) #[] #[],?_,[],rfl,AG.nil_⟩
 unfold execOp
 simp [ho,Act.eval]
end
theorem Rs {R:List Iq} {k:Nat} (h:k<R.length):R[k]?=some (R[k]?.getD iZ):=by rw [gE h];rfl
theorem eg_c {k:Nat} (h:k<E.length):E[k]?=some (E[k]?.getD (0,0)):=by rw [gE h];rfl
theorem SF {k:Nat} (h:k<F.length):F[k]?=some (scA F k):=by unfold scA;rw [gE h];rfl
structure Agm (ps:List Prt) (n:Nat) (y:Bk):Prop where
 hk:y.kind=0∨y.kind=1∨y.kind=2∨y.kind=3∨y.kind=4∨y.kind=5∨y.kind=6∨y.kind=7∨y.kind=8∨y.kind=9∨y.kind=10∨y.kind=11
 a0:y.kind≠1→∃ a:Nat,y.args[0]?=some (a:Int)∧BQ y=(a:Int)∧(y.kind≠0→a<n)
 a1:(y.kind=3∨y.kind=4∨y.kind=7∨y.kind=8∨y.kind=9)→∃ a:Nat,y.args[1]?=some (a:Int)∧DX y=(a:Int)∧a<n
 all:y.kind≠0→∀ a∈y.args,0≤a∧a<(n:Int)
 len:y.args.length≤2
 port:y.kind=0→∃ (i:Nat) (p:Prt),y.args[0]?=some (i:Int)∧BQ y=(i:Int)∧ps[i]?=some p∧My p
 sv:(y.kind=1∨y.kind=2∨y.kind=6∨y.kind=11)→DJ y.vn y.ve
 su:y.kind=11→DJ y.un y.ue
 cl:y.kind=11→Hd (Ad y.vn 0 y.ve) (Ad y.un 0 y.ue)≤0
theorem SI (he:AP ps bs os=0) {i:Nat} {y:Bk} (hy:bs[i]?=some y):Agm ps bs.length y:=by
 have hac:=FV he hy
 have hcg:=hac.1
 have hck:=hac.2.1
 have hlen:y.args.length≤2:=by unfold Bp at hcg hck;(repeat' split at hck) <;> omega
 refine ⟨Ub he hy,fun h1=>?_,fun h2=>?_,fun h0 a ha=>?_,hlen,fun h0=>?_,fun h=>?_,fun h=>(Lj he hy h).2.1,fun h=>(Lj he hy h).2.2⟩
 ·have hl:1≤y.args.length:=by unfold Bp at hcg hck;(repeat' split at hck) <;> omega
  obtain ⟨a,ha⟩:∃ a,y.args[0]?=some a:=⟨_,gE (by omega)⟩
  have hb:=hac.2.2 a (gM ha)
  refine ⟨a.toNat,by rw [ha];congr 1;omega,by unfold BQ;rw [ha];show a=_;omega,fun h0=>?_⟩
  rw [show DU ps.length bs.length y.kind=bs.length from if_neg h0] at hb
  omega
 ·have hl:2≤y.args.length:=by unfold Bp at hcg hck;(repeat' split at hck) <;> omega
  obtain ⟨a,ha⟩:∃ a,y.args[1]?=some a:=⟨_,gE (by omega)⟩
  have hb:=hac.2.2 a (gM ha)
  rw [show DU ps.length bs.length y.kind=bs.length from if_neg (by omega)] at hb
  exact ⟨a.toNat,by rw [ha];congr 1;omega,by unfold DX;rw [ha];show a=_;omega,by omega⟩
 ·have hb:=hac.2.2 a ha
  rwa [show DU ps.length bs.length y.kind=bs.length from if_neg h0] at hb
 ·have hl:y.args.length=1:=by rw [h0] at hck;simp [Bp] at hck;omega
  obtain ⟨a,ha⟩:∃ a,y.args[0]?=some a:=⟨_,gE (by omega)⟩
  have hb:=hac.2.2 a (gM ha)
  rw [show DU ps.length bs.length y.kind=ps.length from if_pos h0] at hb
  obtain ⟨p,hp⟩:∃ p,ps[a.toNat]?=some p:=⟨_,gE (by omega)⟩
  exact ⟨a.toNat,p,by rw [ha];congr 1;omega,by unfold BQ;rw [ha];show a=_;omega,hp,Mz he hp⟩
 ·exact Mo he hy (by unfold PC;rcases h with h|h|h|h <;> rw [h] <;> rfl)
theorem Pv {i:Nat} {p:Prt} (h:ps[i]?=some p):Iy ps (i:Int)=p.fr:=by unfold Iy;rw [ak,h];rfl
theorem CJ (h:p:=by
 exact AE rfl (.cons_ (rvW Ab rfl) .nil_)):p:=h
theorem EF (h:p:=by first|exact xNt|exact xNg):p:=h
theorem MH (s:Int) (s0:0≤s) (s1:s≤62):CV prog Al 218 [aI s] [aDy false (pw (-s)).1 (pw (-s)).2]:=by
 refine cvz func218 ntmps218 ?_
 have OF:=Em 1 (by decide) (by decide)
 have SH:=Bo 1 0 (-s) ⟨by decide,fun h=>absurd rfl h⟩ (lT (Az (k:=2) (by decide)) (by decide)) (by omega)
 repeat' (with_reducible first|refine qq ?_|(refine Tx 0 ?_;refine gN (xAl Am) ?_)|(refine Tx 1 ?_;refine gO (xCl func68 (OF)) <| gO xM <| gO EF <| gO (xCl func21 (SH)) <| gZ (xSk Ab) ?_))
 exact CJ
theorem ES (n e:Int) (hs:DJ n e):CV prog Al 219 [.agg [dI n,dI e]] [aDy false (Ad n 0 e).1 (Ad n 0 e).2]:=by
 refine cvz func219 ntmps219 ?_
 have VA:=Pc n e
 rw [if_pos hs,if_pos hs] at VA
 repeat' (with_reducible first|refine qq ?_|(refine Tx 0 ?_;refine gN xBo <| gN (xAl Am) ?_)|(refine Tx 1 ?_;refine gO xL <| gO (xCl func20 (VA)) <| gO xMt <| gO (by exact DS rfl rfl rfl) <| gO xEx <| gN (xAl Am) <| gZ (xSk Ab) <| gO xA ?_)|(refine Tx 2 ?_;refine gO xL <| gZ (xSk Ab) ?_))
 exact CJ
theorem Ajk (k:p') (h:Hd9 p'→p:=by with_reducible first|(intro Z9;refine qq ?_;exact Z9.o)|(intro Z9;refine Tx 0 ?_;refine gN xBo <| gO xA ?_;exact Z9.o)|(intro Z9;refine Tx 1 ?_;refine gO xL <| gO (xCl func219 (RV)) <| gO xM <| gO (xCl func21 (SH)) <| gN (xAl Am) <| gZ (xSk Ab) ?_;exact Z9.o)|(intro Z9;refine Tx 2 ?_;refine gO xF <| gO xD <| gO xEq <| gO xA ?_;exact Z9.o)|fail):p:=h ⟨k⟩
theorem FZ (n e f:Int) (hs:DJ n e) (f0:0≤f) (f1:f≤30):CV prog Al 222 [.agg [dI n,dI e],aI f] [aB (BR n e f)]:=by
 refine cvz func222 ntmps222 ?_
 have RV:=ES n e hs
 have sm:=Fh hs
 have SH:=Bo (Ad n 0 e).1 (Ad n 0 e).2 f sm.ok sm.lz (by have:=sm.ok.1;omega)
 obtain ⟨q,hq⟩:∃ q,Ad (Ad n 0 e).1 (Ad n 0 e).2 f=q:=⟨_,rfl⟩
 rw [hq] at SH
 rw [show BR n e f=decide (q.2=0) by unfold BR;rw [←hq]]
 by_cases h0:q.2=0
 case pos =>
  repeat' (with_reducible first|refine Ajk ?_)
  exact AE rfl (.cons_ (Fd rfl ((decide_eq_true h0).symm)) .nil_)
 repeat' (with_reducible first|refine Ajk ?_)
 exact AE rfl (.cons_ (Fd rfl ((decide_eq_false h0).symm)) .nil_)
theorem Afq (k:p') (h:Hd9 p'→p:=by with_reducible first|(intro Z9;refine qq ?_;exact Z9.o)|(intro Z9;refine Tx 0 ?_;refine gO xA ?_;exact Z9.o)|(intro Z9;refine Tx 1 ?_;refine gO xM <| gO xGe <| gO xM ?_;(first|iterate 2 refine Jd ?_|(refine Jy xM1 ?_;refine Jy xLe ?_));refine gO xPk <| gO xA ?_;exact Z9.o)|fail):p:=h ⟨k⟩
theorem Ih (k:Int):CV prog Al 215 [aI k] [aB (inK k)]:=by
 refine cvz func215 ntmps215 ?_
 by_cases cf7:k < -62
 case pos =>
  repeat' (with_reducible first|refine Afq ?_)
  exact AE rfl (.cons_ (Fd rfl ((decide_eq_false (by omega)).symm)) .nil_)
 by_cases cf6:30<k
 case pos =>
  repeat' (with_reducible first|refine Afq ?_)
  exact AE rfl (.cons_ (Fd rfl ((decide_eq_false (by omega)).symm)) .nil_)
 repeat' (with_reducible first|refine Afq ?_)
 exact AE rfl (.cons_ (Fd rfl ((decide_eq_true (by omega)).symm)) .nil_)
theorem Ajl (h:p:=by first|assumption|omega):p:=h
theorem Ajm (h:p:=by first|rfl|omega):p:=h
theorem Lu (n e f:Int):CV prog Al 216 [.agg [dI n,dI e],.one (.ptr true [dI f])] [aB (rwB n e f)]:=by
 refine cvz func216 ntmps216 ?_
 have RA:=(Ajh n e f).cv
 unfold rwB
 by_cases h0:DW n e f=0
 case pos =>
  rw [h0] at RA
  repeat' (with_reducible first|refine qq ?_|(refine Tx 0 ?_;refine gN xBo <| gO xA ?_)|(refine Tx 1 ?_;refine gO xL <| gO xD <| gO (xCl func117 (RA)) <| gO xMt <| gO xEx <| gO xEx <| gO xA <| gO xA ?_)|(refine Tx 2 ?_;refine gO xM <| gO (by first|exact Du rfl Ai rfl (Qm rfl)|exact Du rfl Ai rfl (Qm Ajm)|exact Du rfl Ai rfl (RX Ajl)|exact Du rfl Ai rfl rfl) <| gO xA ?_))
  exact AE rfl (.cons_ (Fd rfl ((decide_eq_true h0).symm)) .nil_)
 repeat' (with_reducible first|refine qq ?_|(refine Tx 0 ?_;refine gN xBo <| gO xA ?_)|(refine Tx 1 ?_;refine gO xL <| gO xD <| gO (xCl func117 (RA)) <| gO xMt <| gO xEx <| gO xEx <| gO xA <| gO xA ?_)|(refine Tx 2 ?_;refine gO xM <| gO (by first|exact Du rfl Ai rfl (RX h0)|exact Du rfl Ai rfl (Qm Ajm)|exact Du rfl Ai rfl (RX Ajl)|exact Du rfl Ai rfl rfl) <| gO xA ?_))
 exact AE rfl (.cons_ (Fd rfl ((decide_eq_false h0).symm)) .nil_)
theorem Afr (k:p') (h:Hd9 p'→p:=by with_reducible first|(intro Z9;refine qq ?_;exact Z9.o)|(intro Z9;refine Tx 0 ?_;refine gO xA ?_;exact Z9.o)|(intro Z9;refine Tx 1 ?_;refine gO xF <| gO xD <| gO xM <| gO (xIr Ae (AY hF)) <| gO xD <| gO xLt <| gO xM ?_;(first|iterate 6 refine Jd ?_|(refine Jy (xFa Tw BW) ?_;refine Jy (xLd BW) ?_;refine Jy xM1 ?_;refine Jy (xIr Ae (AY hF)) ?_;refine Jy (xLd AQ) ?_;refine Jy xGt ?_));refine gO xPk <| gO xA ?_;exact Z9.o)|fail):p:=h ⟨k⟩
theorem Abg (u:Bool) (c:Ct) (a:Int) {k:Nat} (a0:0≤a) (hk:k=a.toNat) (h:k<c.F.length) (hl:c.F.length≤1000000):CV prog Al 214 [aI a,.one (.ptr true (dCt u c))] [aB (!frB (scA c.F a.toNat))]:=by
 refine cvz func214 ntmps214 ?_
 have hF:=SF h
 obtain rfl:k=a.toNat:=hk
 have ha:((a.toNat:Nat):Int)=a:=by omega
 rw [←ha]
 rw [ak]
 generalize a.toNat=j at *
 unfold frB
 generalize scA c.F j=z at *
 by_cases c5:z<0
 case pos =>
  repeat' (with_reducible first|refine Afr ?_)
  exact AE rfl (.cons_ (Fd rfl (by rw [decide_eq_false (by omega)];rfl)) .nil_)
 by_cases c6:30<z
 case pos =>
  repeat' (with_reducible first|refine Afr ?_)
  exact AE rfl (.cons_ (Fd rfl (by rw [decide_eq_false (by omega)];rfl)) .nil_)
 repeat' (with_reducible first|refine Afr ?_)
 exact AE rfl (.cons_ (Fd rfl (by rw [decide_eq_true (by omega)];rfl)) .nil_)
theorem Ii (k:p') (h:Hd9 p'→p:=by with_reducible first|(intro Z9;refine Tx 0 ?_;refine gN xBo <| gN xBo <| gO xA ?_;exact Z9.o)|(intro Z9;refine Tx 2 ?_;refine gO xD <| gO xLt <| gO xM ?_;(first|iterate 2 refine Jd ?_|(refine Jy (xLd AQ) ?_;refine Jy xGt ?_));refine gO xPk ?_;exact Z9.o)|fail):p:=h ⟨k⟩
theorem Vr (h:p:=by first|exact xS1 AQ|exact xSk AQ):p:=h
theorem Vs (k:p') (h:Hd9 p'→p:=by with_reducible first|(intro Z9;refine Tx 1 ?_;refine gO xF <| gO xD <| gO xM <| gO (xIr Ae (AY hFi)) <| gO xD <| gN (xAl CR) <| gZ Vr ?_;exact Z9.o)|fail):p:=h ⟨k⟩
theorem MI (k:p') (h:Hd9 p'→p:=by with_reducible first|(intro Z9;refine Tx 4 ?_;refine gO xF <| gO xD <| gO xM <| gO (xIr Ak (El hy)) <| gO xL <| gN (xAl BP) <| gZ (xSk BE) ?_;exact Z9.o)|fail):p:=h ⟨k⟩
theorem Ng (k:p') (h:Hd9 p'→p:=by with_reducible first|(intro Z9;refine Tx 7 ?_;refine gO (by first|exact Ajj rfl|exact TB rfl rfl) ?_;exact Z9.o)|(intro Z9;refine Tx 8 ?_;refine gO (by first|exact xMf [(2,0,none)]|exact Ck rfl (by repeat' first|exact Bt rfl rfl|refine AH rfl rfl rfl ?_)) <| gO xA ?_;exact Z9.o)|(intro Z9;refine Tx 9 ?_;refine gO xF <| gO xD ?_;exact Z9.o)|(intro Z9;refine Tx 10 ?_;refine gO xEq <| gO xA ?_;exact Z9.o)|fail):p:=h ⟨k⟩
theorem Nh (k:p') (h:Hd9 p'→p:=by with_reducible first|(intro Z9;refine Tx 5 ?_;refine gO xF <| gO xD <| gO xNe <| gO xM ?_;(first|iterate 4 refine Jd ?_|(refine Jy (xFa Ma BW) ?_;refine Jy (xLd BW) ?_;refine Jy (by first|exact xMf [(1,0,none)]|exact Ck rfl (by repeat' first|exact Bt rfl rfl|refine AH rfl rfl rfl ?_)) ?_;refine Jy (by exact AaJ Qw func213 CTN HC) ?_));refine gO xPk ?_;exact Z9.o)|fail):p:=h ⟨k⟩
theorem Abh (h:p:=by first|exact xIr Ae (AY hFi)|exact xIr Ae (AY hF0)):p:=h
theorem Vt (k:p') (h:Hd9 p'→p:=by with_reducible first|(intro Z9;refine Tx 1 ?_;refine gO xF <| gO xD <| gO xM <| gO Abh <| gO xD <| gN (xAl CR) <| gZ Vr ?_;exact Z9.o)|fail):p:=h ⟨k⟩
theorem Ajn (k:p') (h:Hd9 p'→p:=by with_reducible first|(intro Z9;refine Cj (id:=19) Bb (by kernel_rfl) ?_;refine gP xM <| gP xD <| gP xF <| gP xD <| gP xF <| gP xD <| gP (xIr Ae (AY hA0)) <| gP xD <| gP Abh <| gP xD <| gP xSb <| gP (xCc func215 SHC (args:=[_]) rfl) <| gP xM ?_;(first|iterate 4 refine Kd ?_|(refine Ky xM1 ?_;refine Ky (xFa Fm Bg) ?_;refine Ky (xLa Bg) ?_;refine Ky (xCc func216 (Lu y.vn y.ve s) (args:=[_]) rfl) ?_));refine gP xPk <| gP xA ?_;refine Ke ?_;exact Z9.o)|fail):p:=h ⟨k⟩
theorem YU (k:p') (h:Hd9 p'→p:=by with_reducible first|(intro Z9;refine Cj (id:=21) Bb (by kernel_rfl) ?_;refine gP xM <| gP xD <| gP xF <| gP xD <| gP xF <| gP xD <| gP (xIr Ae (AY hA0)) <| gP xD <| gP Abh <| gP xD <| gP xSb <| gP (xCc func215 SHC (args:=[_]) rfl) <| gP xM ?_;(first|iterate 4 refine Kd ?_|(refine Ky xM1 ?_;refine Ky (xFa Fm Bg) ?_;refine Ky (xLa Bg) ?_;refine Ky (xCc func216 RWC (args:=[_]) rfl) ?_));refine gP xPk <| gP xM ?_;(first|iterate 4 refine Kd ?_|(refine Ky xM1 ?_;refine Ky (xFa Fo Bg) ?_;refine Ky (xLa Bg) ?_;refine Ky (xCc func216 (Lu y.un y.ue s) (args:=[_]) rfl) ?_));refine gP xPk <| gP xA ?_;refine Ke ?_;exact Z9.o)|fail):p:=h ⟨k⟩
theorem Ajo (h:p:=by first|exact xIr Ae (AY hz)|exact xIr Ae (AY hFm)):p:=h
theorem Acr (k:p') (h:Hd9 p'→p:=by with_reducible first|(intro Z9;refine Tx 24 ?_;refine gO Ajo <| gO xD <| gO xA ?_;exact Z9.o)|(intro Z9;refine Cj (id:=25) Bb (by kernel_rfl) ?_;refine gP xM <| gP xD <| gP xF <| gP xD <| gP xM <| gP Ajo <| gP xD <| gP xSb <| gP (xCc func215 SHC (args:=[_]) rfl) <| gP EF ?_;refine Ke ?_;exact Z9.o)|fail):p:=h ⟨k⟩
theorem Cc (h:p:=by
 exact AE rfl (.cons_ (Fd rfl (rfl)) .nil_)):p:=h
theorem Afs (h:p:=by first|exact xIr Ae (AY hFi)|exact xIr Ae (AY hF0)|exact xIr Ae (AY hF1)):p:=h
theorem SJ (t u:Bool) {ps:List Prt} {bs:List Bk} (os:List Int) (c:Ct) (i:Nat) {y:Bk} (hy:bs[i]?=some y) (B:Agm ps bs.length y) (hF:c.F.length=bs.length) (hn:bs.length≤1000000) (hpn:ps.length≤1000000):CV prog Al 125 [aDg t ps bs os,.agg (dCt u c),aI (i:Int)] [aB (DB ps c.F y i)]:=by
 refine cvz func125 ntmps125 ?_
 have hil:=(gS.1 hy).1
 have hFi:=SF (F:=c.F) (k:=i) (by omega)
 obtain ⟨s,hs⟩:∃ s,scA c.F i=s:=⟨_,rfl⟩
 rw [hs] at hFi
 have hBl:=B.len
 by_cases c5:s<0
 case pos =>
  have hb:DB ps c.F y i=false:=by unfold DB;rw [hs,show frB s=false from decide_eq_false (by omega)];rfl
  rw [hb]
  repeat' (with_reducible first|refine qq ?_|refine Ii ?_|refine Vs ?_|(refine Tx 3 ?_;refine gO xA ?_))
  exact Cc
 by_cases c6:30<s
 case pos =>
  have hb:DB ps c.F y i=false:=by unfold DB;rw [hs,show frB s=false from decide_eq_false (by omega)];rfl
  rw [hb]
  repeat' (with_reducible first|refine qq ?_|refine Ii ?_|refine Vs ?_|(refine Tx 3 ?_;refine gO xA ?_))
  exact Cc
 have hfr:frB s=true:=decide_eq_true (by omega)
 by_cases k0:y.kind=0
 case pos =>
  obtain ⟨j,p,hA0,ha0,hp,P⟩:=B.port k0
  have f0:=P.f0
  have f1:=P.f1
  have hjl:=(gS.1 hp).1
  have hL0:=(gS.1 hA0).1
  have hb:DB ps c.F y i=inK (s - p.fr):=by unfold DB Rr;rw [hs,hfr,decide_eq_true k0,if_pos k0,ha0,Pv hp];rfl
  rw [hb]
  repeat' (with_reducible first|refine qq ?_|refine Ii ?_|refine Vs ?_|refine MI ?_|(refine Tx 5 ?_;refine gO xF <| gO xD <| gO xNe <| gO xM ?_;(first|iterate 3 refine Jd ?_|(refine Jy (xFa Ma BW) ?_;refine Jy (xLd BW) ?_;refine Jy (by exact Ck rfl (by repeat' first|exact Bt rfl rfl|refine AH rfl rfl rfl ?_)) ?_));refine Jd ?_;refine gO xPk ?_)|refine Ng ?_|(refine Cj (id:=11) Bb (by kernel_rfl) ?_;refine gP xM <| gP xD <| gP xF <| gP xD <| gP xF <| gP xD <| gP (xIr Ae (AY hA0)) <| gP xD <| gP (xIr CS (NQ hp)) <| gP xF <| gP xD <| gP xSb <| gP (xCc func215 (Ih (s - p.fr)) (args:=[_]) rfl) <| gP xA ?_;refine Ke ?_))
  exact Cc
 have HC:∀ a∈y.args,CV prog Al 214 [aI a,.one (.ptr true (dCt u c))] [aB ((fun a:Int=>!frB (scA c.F a.toNat)) a)]:=fun a ha=>by have h1:=B.all k0 a ha;exact Abg u c a h1.1 rfl (by omega) (by omega)
 have CTN:∀ vs,CV prog (Ace prog 214 vs (fun a:Int=>!frB (scA c.F a.toNat)) y.args) 213 [.one (Bw t y.args),.one (.val (.func (.func 214) #[] vs.toArray))] [aB (y.args.any (fun a:Int=>!frB (scA c.F a.toNat)))]:=fun vs=>Sq func214 (by kernel_rfl) rfl t vs _ y.args (by omega)
 have hna:y.args.any (fun a:Int=>!frB (scA c.F a.toNat))=!y.args.all (fun a=>frB (sG c.F a)):=(List.not_all_eq_any_not ..).symm
 by_cases hall:y.args.all (fun a=>frB (sG c.F a))=true
 case neg =>
  rw [bc] at hall
  rw [hall] at hna
  simp only [hna,dw] at CTN
  have hb:DB ps c.F y i=false:=by unfold DB;rw [hs,hfr,hall,decide_eq_false k0];rfl
  rw [hb]
  repeat' (with_reducible first|refine qq ?_|refine Ii ?_|refine Vs ?_|refine MI ?_|refine Nh ?_|(refine Tx 6 ?_;refine gO xA ?_))
  exact Cc
 rw [hall] at hna
 simp only [hna,et] at CTN
 have hb:DB ps c.F y i=Rr ps c.F y s:=by unfold DB;rw [hs,hfr,hall];simp
 rw [hb]
 have hall:∀ a∈y.args,0≤sG c.F a∧sG c.F a≤30:=fun a ha=>of_decide_eq_true (List.all_eq_true.1 hall a ha)
 clear hb hna
 by_cases k1:y.kind=1
 case pos =>
  rw [show Rr ps c.F y s=rwB y.vn y.ve s by unfold Rr;rw [if_neg k0,if_pos k1]]
  repeat' (with_reducible first|refine qq ?_|refine Ii ?_|refine Vs ?_|refine MI ?_|refine Nh ?_|refine Ng ?_|(refine Tx 12 ?_;refine gO xEq <| gO xA ?_)|(refine Tx 13 ?_;refine gO xM <| gO xF <| gO xL <| gO (xCc func216 (Lu y.vn y.ve s) (args:=[_]) rfl) <| gO xA ?_))
  exact Cc
 by_cases k6:y.kind=6
 case pos =>
  obtain ⟨a,hA0,ha0,hl0⟩:=B.a0 (by omega)
  have hL0:=(gS.1 hA0).1
  have hl0:=hl0 k0
  have hF0:=SF (F:=c.F) (k:=a) (by omega)
  have hr0:=hall a (gM hA0)
  obtain ⟨r0,hq0⟩:∃ r,scA c.F a=r:=⟨_,rfl⟩
  rw [show sG c.F ((a:Nat):Int)=r0 by unfold sG;rw [ak];exact hq0] at hr0
  rw [hq0] at hF0
  have hg0:sG c.F (BQ y)=r0:=by rw [ha0];unfold sG;rw [ak];exact hq0
  have hv:=B.sv (by omega)
  unfold DJ at hv
  rw [show Rr ps c.F y s=inK (s - r0+y.ve) by unfold Rr;rw [if_neg k0,if_neg k1,if_pos k6,hg0]]
  repeat' (with_reducible first|refine qq ?_|refine Ii ?_|refine Vt ?_|refine MI ?_|refine Nh ?_|refine Ng ?_|(refine Tx 12 ?_;refine gO xEq <| gO xA ?_)|(refine Tx 14 ?_;refine gO xEq <| gO xA ?_)|(refine Cj (id:=15) Bb (by kernel_rfl) ?_;refine gP xM <| gP xD <| gP xF <| gP xD <| gP xF <| gP xD <| gP (xIr Ae (AY hA0)) <| gP xD <| gP Abh <| gP xD <| gP xSb <| gP xF <| gP xF <| gP xD <| gP xAd <| gP (xCc func215 (Ih (s - r0+y.ve)) (args:=[_]) rfl) <| gP xA ?_;refine Ke ?_))
  exact Cc
 by_cases k7:y.kind=7
 case pos =>
  obtain ⟨a,hA0,ha0,hl0⟩:=B.a0 (by omega)
  have hL0:=(gS.1 hA0).1
  have hl0:=hl0 k0
  have hF0:=SF (F:=c.F) (k:=a) (by omega)
  have hr0:=hall a (gM hA0)
  obtain ⟨r0,hq0⟩:∃ r,scA c.F a=r:=⟨_,rfl⟩
  rw [show sG c.F ((a:Nat):Int)=r0 by unfold sG;rw [ak];exact hq0] at hr0
  rw [hq0] at hF0
  have hg0:sG c.F (BQ y)=r0:=by rw [ha0];unfold sG;rw [ak];exact hq0
  obtain ⟨b,hA1,ha1,hl1⟩:=B.a1 (by omega)
  have hL1:=(gS.1 hA1).1
  have hF1:=SF (F:=c.F) (k:=b) (by omega)
  have hr1:=hall b (gM hA1)
  obtain ⟨r1,hq1⟩:∃ r,scA c.F b=r:=⟨_,rfl⟩
  rw [show sG c.F ((b:Nat):Int)=r1 by unfold sG;rw [ak];exact hq1] at hr1
  rw [hq1] at hF1
  have hg1:sG c.F (DX y)=r1:=by rw [ha1];unfold sG;rw [ak];exact hq1
  rw [show Rr ps c.F y s=inK (s - r0 - r1) by unfold Rr;rw [if_neg k0,if_neg k1,if_neg k6,if_pos k7,hg0,hg1]]
  repeat' (with_reducible first|refine qq ?_|refine Ii ?_|(refine Tx 1 ?_;refine gO xF <| gO xD <| gO xM <| gO Afs <| gO xD <| gN (xAl CR) <| gZ Vr ?_)|refine MI ?_|refine Nh ?_|refine Ng ?_|(refine Tx 12 ?_;refine gO xEq <| gO xA ?_)|(refine Tx 14 ?_;refine gO xEq <| gO xA ?_)|(refine Tx 16 ?_;refine gO xEq <| gO xA ?_)|(refine Cj (id:=17) Bb (by kernel_rfl) ?_;refine gP xM <| gP xD <| gP xF <| gP xD <| gP xF <| gP xD <| gP (xIr Ae (AY hA0)) <| gP xD <| gP Afs <| gP xD <| gP xSb <| gP xF <| gP xD <| gP xF <| gP xD <| gP (xIr Ae (AY hA1)) <| gP xD <| gP Afs <| gP xD <| gP xSb <| gP (xCc func215 (Ih (s - r0 - r1)) (args:=[_]) rfl) <| gP xA ?_;refine Ke ?_))
  exact Cc
 by_cases k2:y.kind=2
 case pos =>
  obtain ⟨a,hA0,ha0,hl0⟩:=B.a0 (by omega)
  have hL0:=(gS.1 hA0).1
  have hl0:=hl0 k0
  have hF0:=SF (F:=c.F) (k:=a) (by omega)
  have hr0:=hall a (gM hA0)
  obtain ⟨r0,hq0⟩:∃ r,scA c.F a=r:=⟨_,rfl⟩
  rw [show sG c.F ((a:Nat):Int)=r0 by unfold sG;rw [ak];exact hq0] at hr0
  rw [hq0] at hF0
  have hg0:sG c.F (BQ y)=r0:=by rw [ha0];unfold sG;rw [ak];exact hq0
  rw [show Rr ps c.F y s=(inK (s - r0) && rwB y.vn y.ve s) by unfold Rr;rw [if_neg k0,if_neg k1,if_neg k6,if_neg k7,if_pos k2,hg0]]
  have SHC:=Ih (s - r0)
  cases hq:inK (s - r0)
  case false =>
   rw [hq] at SHC
   repeat' (with_reducible first|refine qq ?_|refine Ii ?_|refine Vt ?_|refine MI ?_|refine Nh ?_|refine Ng ?_|(refine Tx 12 ?_;refine gO xEq <| gO xA ?_)|(refine Tx 14 ?_;refine gO xEq <| gO xA ?_)|(refine Tx 16 ?_;refine gO xEq <| gO xA ?_)|(refine Tx 18 ?_;refine gO xEq <| gO xA ?_)|refine Ajn ?_)
   exact AE rfl (.cons_ (Fd rfl (by rw [gh])) .nil_)
  case true =>
   rw [hq] at SHC
   repeat' (with_reducible first|refine qq ?_|refine Ii ?_|refine Vt ?_|refine MI ?_|refine Nh ?_|refine Ng ?_|(refine Tx 12 ?_;refine gO xEq <| gO xA ?_)|(refine Tx 14 ?_;refine gO xEq <| gO xA ?_)|(refine Tx 16 ?_;refine gO xEq <| gO xA ?_)|(refine Tx 18 ?_;refine gO xEq <| gO xA ?_)|refine Ajn ?_)
   exact AE rfl (.cons_ (Fd rfl (by rw [dr])) .nil_)
 by_cases k11:y.kind=11
 case pos =>
  obtain ⟨a,hA0,ha0,hl0⟩:=B.a0 (by omega)
  have hL0:=(gS.1 hA0).1
  have hl0:=hl0 k0
  have hF0:=SF (F:=c.F) (k:=a) (by omega)
  have hr0:=hall a (gM hA0)
  obtain ⟨r0,hq0⟩:∃ r,scA c.F a=r:=⟨_,rfl⟩
  rw [show sG c.F ((a:Nat):Int)=r0 by unfold sG;rw [ak];exact hq0] at hr0
  rw [hq0] at hF0
  have hg0:sG c.F (BQ y)=r0:=by rw [ha0];unfold sG;rw [ak];exact hq0
  rw [show Rr ps c.F y s=(inK (s - r0) && rwB y.vn y.ve s && rwB y.un y.ue s) by unfold Rr;rw [if_neg k0,if_neg k1,if_neg k6,if_neg k7,if_neg k2,if_pos k11,hg0]]
  have SHC:=Ih (s - r0)
  have RWC:=Lu y.vn y.ve s
  cases hq:inK (s - r0)
  case false =>
   rw [hq] at SHC
   repeat' (with_reducible first|refine qq ?_|refine Ii ?_|refine Vt ?_|refine MI ?_|refine Nh ?_|refine Ng ?_|(refine Tx 12 ?_;refine gO xEq <| gO xA ?_)|(refine Tx 14 ?_;refine gO xEq <| gO xA ?_)|(refine Tx 16 ?_;refine gO xEq <| gO xA ?_)|(refine Tx 18 ?_;refine gO xEq <| gO xA ?_)|(refine Tx 20 ?_;refine gO xEq <| gO xA ?_)|refine YU ?_)
   exact AE rfl (.cons_ (Fd rfl (by rw [gh,gh])) .nil_)
  case true =>
   rw [hq] at SHC
   cases hq2:rwB y.vn y.ve s
   case false =>
    rw [hq2] at RWC
    repeat' (with_reducible first|refine qq ?_|refine Ii ?_|refine Vt ?_|refine MI ?_|refine Nh ?_|refine Ng ?_|(refine Tx 12 ?_;refine gO xEq <| gO xA ?_)|(refine Tx 14 ?_;refine gO xEq <| gO xA ?_)|(refine Tx 16 ?_;refine gO xEq <| gO xA ?_)|(refine Tx 18 ?_;refine gO xEq <| gO xA ?_)|(refine Tx 20 ?_;refine gO xEq <| gO xA ?_)|refine YU ?_)
    exact AE rfl (.cons_ (Fd rfl (by rw [dr,gh])) .nil_)
   case true =>
    rw [hq2] at RWC
    repeat' (with_reducible first|refine qq ?_|refine Ii ?_|refine Vt ?_|refine MI ?_|refine Nh ?_|refine Ng ?_|(refine Tx 12 ?_;refine gO xEq <| gO xA ?_)|(refine Tx 14 ?_;refine gO xEq <| gO xA ?_)|(refine Tx 16 ?_;refine gO xEq <| gO xA ?_)|(refine Tx 18 ?_;refine gO xEq <| gO xA ?_)|(refine Tx 20 ?_;refine gO xEq <| gO xA ?_)|refine YU ?_)
    exact AE rfl (.cons_ (Fd rfl (by rw [dr,dr])) .nil_)
 have hb:Rr ps c.F y s=y.args.all fun a=>inK (s - sG c.F a):=by unfold Rr;rw [if_neg k0,if_neg k1,if_neg k6,if_neg k7,if_neg k2,if_neg k11]
 rw [hb]
 repeat' (with_reducible first|refine qq ?_|refine Ii ?_|refine Vs ?_|refine MI ?_|refine Nh ?_|refine Ng ?_|(refine Tx 12 ?_;refine gO xEq <| gO xA ?_)|(refine Tx 14 ?_;refine gO xEq <| gO xA ?_)|(refine Tx 16 ?_;refine gO xEq <| gO xA ?_)|(refine Tx 18 ?_;refine gO xEq <| gO xA ?_)|(refine Tx 20 ?_;refine gO xEq <| gO xA ?_)|(refine Tx 22 ?_;refine gO xF <| gO xD <| gO xN <| gO xM ?_))
 refine Bm (Cb 3) (Aw (fun n Fr H=>∃ k:Nat,k≤y.args.length∧n=y.args.length - k∧(y.args.take k).all (fun a=>inK (s - sG c.F a))=true∧Fr=ofL [(4,vr 1),(7,vr 2),(9,.one (.clo (.func 215) [])),(150,vd (Bw t y.args)),(151,vi y.args.length),(152,vi ((k:Nat)))]∧H=[.box 26 [.d (EP t ps),.d (Ee t bs),.d (Bw t os)],.box 30 [.d (Bw u c.F),.d (.row false 6 c.R.length (Ay (dIw false) c.R)),.d (.row false 3 c.E.length (Ay dyP c.E))],.box 3 [.d (.val (.int .i64 s))]]) (n0:=y.args.length) ⟨0,ad _,rfl,rfl,rfl,rfl⟩ ?_)
 clear HC CTN
 rintro n Fr H ⟨k,hk,rfl,hal,rfl,rfl⟩
 by_cases hlt:k<y.args.length
 case pos =>
  obtain ⟨z,hz⟩:∃ z,y.args[k]?=some z:=⟨_,gE hlt⟩
  have hzm:=gM hz
  have hzb:=B.all k0 z hzm
  have hzr:=hall z hzm
  obtain ⟨m,rfl⟩:∃ m:Nat,z=(m:Int):=⟨z.toNat,by omega⟩
  have hFm:=SF (F:=c.F) (k:=m) (by omega)
  rw [show sG c.F ((m:Nat):Int)=scA c.F m by unfold sG;rw [ak]] at hzr
  have SHC:=Ih (s - scA c.F m)
  cases hq:inK (s - scA c.F m)
  case false =>
   rw [hq] at SHC
   repeat' (with_reducible first|refine qq ?_|(refine Tx 23 ?_;refine gO xLt ?_)|refine Acr ?_|(refine Tx 26 ?_;refine gO xA ?_))
   exact AE rfl (.cons_ (Fd rfl ((Acq (p:=fun a=>inK (s - sG c.F a)) hz hq).symm)) .nil_)
  rw [hq] at SHC
  repeat' (with_reducible first|refine qq ?_|(refine Tx 23 ?_;refine gO xLt ?_)|refine Acr ?_|(refine Tx 27 ?_;refine gO xAd <| gO xM ?_))
  refine ⟨_,_,Cb 3,_,by omega,k+1,by omega,rfl,TQ (p:=fun a=>inK (s - sG c.F a)) hz hal hq,rfl,rfl⟩
 obtain rfl:k=y.args.length:=by omega
 rw [bh] at hal
 repeat' (with_reducible first|refine qq ?_|(refine Tx 23 ?_;refine gO xLt ?_)|(refine Tx 28 ?_;refine gO xA ?_))
 exact AE rfl (.cons_ (Fd rfl (hal.symm)) .nil_)
theorem Aft {k:Nat} (h:k<E.length):((Ay dyP E).drop (k*3)).take 3=dyP (E[k]?.getD (0,0)):=AeC (eg_c h)
theorem Afu {R:List Iq} {k:Nat} (h:k<R.length):((Ay (dIw false) R).drop (k*6)).take 6=dIw false (R[k]?.getD iZ):=GE (Rs h)
theorem Uo (R:List Iq) (k:Nat):rG R (k:Int)=R[k]?.getD iZ:=by unfold rG;rw [ak]
theorem Ok (E:List Pq) (k:Nat):eG E (k:Int)=E[k]?.getD (0,0):=by unfold eG;rw [ak]
theorem II (F:List Int) (k:Nat):sG F (k:Int)=scA F k:=by unfold sG;rw [ak]
theorem zdy:([.val (.bool false),.row false 1 0 [],.val (.int .i64 0)]:List D)=dDy false 0 0:=(A.agg.inj Gy).symm
theorem BI (t u:Bool) (c:Ct) (y:Bk) (k:Nat) {r:Nat} (hk:y.args[k]?=some (r:Int)) (hr:r<c.R.length) (ha:y.args.length≤1000000) (hv:c.R.length≤1000000):CV prog Al 217 [aI (k:Int),.one (.ptr true (dCt u c)),.one (.ptr true (dBk t y))] [aIw false (c.R[r]?.getD iZ)]:=by
 refine cvz func217 ntmps217 ?_
 have l1:=(gS.1 hk).1
 repeat' (with_reducible first|refine qq ?_|(refine Tx 0 ?_;refine gN (xAl Ah) ?_)|(refine AM (id:=1) 9 Bb (by kernel_rfl) ?_;dsimp only [List.take,List.drop];refine gP xF <| gP xD <| gP xF <| gP xD <| gP xM <| gP (by first|exact xIr Ae (AY hk)|exact xIr Ae (Afu hr)) <| gP xD <| gP (xIr Af (Afu hr)) <| gP xL ?_;refine Ke ?_;refine gZ (xSk Ac) ?_))
 exact AE rfl (.cons_ (rvJ Ac rfl) .nil_)
theorem EY (k:p') (h:Hd9 p'→p:=by with_reducible first|(intro Z9;refine qq ?_;exact Z9.o)|(intro Z9;refine Tx 0 ?_;refine gN xBo <| gN xBo <| gO xA ?_;exact Z9.o)|(intro Z9;refine Tx 1 ?_;refine gO xF <| gO xD <| gO xM <| gO (by first|exact xIr Ak (El hy)|exact xIr Ak (hwi)) <| gO xL <| gN (xAl BP) <| gZ (xSk BE) ?_;exact Z9.o)|(intro Z9;refine Tx 2 ?_;refine gO (by first|exact xMf [(1,0,none),(2,0,none)]|exact Ck rfl (by repeat' first|exact Bt rfl rfl|refine AH rfl rfl rfl ?_)) <| gO xA ?_;exact Z9.o)|(intro Z9;refine Tx 3 ?_;refine gN (xAl Ah) ?_;exact Z9.o)|(intro Z9;refine Tx 4 ?_;refine gO xF <| gO xD ?_;exact Z9.o)|(intro Z9;refine Tx 6 ?_;refine gO xEq <| gO xA ?_;exact Z9.o)|(intro Z9;refine Cj (id:=29) Bb (by kernel_rfl) ?_;refine gP xL <| gP xF <| gP xD <| gP xM <| gP (xIr Af (hwi)) <| gP xL <| gP (xCl func151 (IS)) <| gP xA ?_;refine Ke ?_;exact Z9.o)|fail):p:=h ⟨k⟩
theorem FH (k:p') (h:Hd9 p'→p:=by with_reducible first|(intro Z9;refine Tx 9 ?_;refine gO xEq <| gO xA ?_;exact Z9.o)|fail):p:=h ⟨k⟩
theorem Gk (k:p') (h:Hd9 p'→p:=by with_reducible first|(intro Z9;refine Tx 11 ?_;refine gO xEq <| gO xA ?_;exact Z9.o)|fail):p:=h ⟨k⟩
theorem Gl (h:p:=by
 exact this.more (by decide) (by decide)):p:=h
theorem Ajp (h:p:=by first|exact xCl func219 (RV)|exact xCl func219 (RU)):p:=h
theorem SL (t u:Bool) {ps:List Prt} {bs:List Bk} (os:List Int) (c:Ct) (i:Nat) {y:Bk} (hy:bs[i]?=some y) (B:Agm ps bs.length y) (hR:c.R.length=bs.length) (sR:∀ p∈c.R,IwS p LB LB) (hn:bs.length≤1000000) (hpn:ps.length≤1000000):CV prog Al 126 [aDg t ps bs os,.agg (dCt u c),aI (i:Int)] [aB (Cs ps c.R y i)]:=by
 refine cvz func126 ntmps126 ?_
 have hil:=(gS.1 hy).1
 have hBl:=B.len
 have wi:=(Bl sR i).more LBx LBx
 have hwi:=Afu (R:=c.R) (k:=i) (by omega)
 rcases B.hk with h|h|h|h|h|h|h|h|h|h|h|h
 ·
  obtain ⟨j,pp,hA0,ha0,hp,PS⟩:=B.port h
  have l3:=(gS.1 hp).1
  have hL0:=(gS.1 hA0).1
  have f0:=PS.l0
  have f1:=PS.le
  have f2:=PS.h1
  have f3:=PS.f0
  have f4:=PS.f1
  have IN:=QN pp.lo pp.hi (by omega) (by omega)
  have UN:=MH pp.fr (by omega) (by omega)
  have SC:=FY (Co [(pp.lo,0),(pp.hi,0)]) (pw (-pp.fr)) (FE (GB pp.lo (by omega) (by decide)) (GB pp.hi (by omega) (by decide))).2.2 ((Ra f3 f4).more (by decide) (by decide))
  rw [show IA (Co [(pp.lo,0),(pp.hi,0)]) (pw (-pp.fr))=Gc pp from PS.scale] at SC
  have hb:Ig ps c.R y=Gc pp:=by unfold Ig AZ;rw [if_neg (by omega),if_pos h,hA0];simp [hp]
  have ws:IwS (Gc pp) 20000 20000:=PS.iw.more (by decide) (by decide)
  unfold Cs
  rw [hb]
  have IS:=Bv _ _ ws wi
  repeat' (with_reducible first|refine EY ?_|(refine AM (id:=7) 9 Bb (by kernel_rfl) ?_;dsimp only [List.take,List.drop];refine gP xF <| gP xD <| gP xF <| gP xD <| gP (by first|exact xIr Ae (hwi)|exact xIr Ae (AY hA0)) <| gP xD <| gP (by first|exact xIr CS (hwi)|exact xIr CS (NQ hp)) <| gP xL <| gQ (xAl Mb) ?_;refine Ke ?_;refine gZ (xSk Gx) ?_)|(refine AM (id:=8) 9 Bb (by kernel_rfl) ?_;dsimp only [List.take,List.drop];refine gP xF <| gP xD <| gP xF <| gP xD <| gP (xCl func139 (IN)) <| gP xF <| gP xD <| gP (xCl func218 (UN)) <| gP (xCl func138 (SC)) ?_;refine Ke ?_;refine gZ (xSk Ac) ?_))
  exact Cc
 ·
  have hv:=B.sv (by omega)
  have RV:=ES y.vn y.ve hv
  have sv:=(Fh hv).more LBx LBx
  have PT:=CI (Ad y.vn 0 y.ve) sv.ok sv.lz
  have hb:Ig ps c.R y=((Ad y.vn 0 y.ve),(Ad y.vn 0 y.ve)):=by unfold Ig AZ Dx;simp [h]
  have ws:IwS (((Ad y.vn 0 y.ve),(Ad y.vn 0 y.ve))) 20000 20000:=by
   have:=FG (y:=y) (Di (y:=y) sR) (fun h2=>B.sv (by omega)) (fun h2=>B.su h2) (by omega)
   rw [show Dx y (Cr c.R y)=((Ad y.vn 0 y.ve),(Ad y.vn 0 y.ve)) by unfold Dx;simp [h]] at this
   exact Gl
  unfold Cs
  rw [hb]
  have IS:=Bv _ _ ws wi
  repeat' (with_reducible first|refine EY ?_|refine FH ?_|(refine Tx 10 ?_;refine gO xF <| gO xL <| gO (xCl func219 (RV)) <| gO (xCl func140 (PT)) <| gZ (xSk Ac) ?_))
  exact Cc
 ·
  obtain ⟨a,hA0,ha0,hl0⟩:=B.a0 (by omega)
  have hl0:=hl0 (by omega)
  have hL0:=(gS.1 hA0).1
  obtain ⟨P,hP⟩:∃ P,c.R[a]?.getD iZ=P:=⟨_,rfl⟩
  have sp:=(Bl sR a).more LBx LBx
  have A0:=BI t u c y 0 hA0 (by omega) (by omega) (by omega)
  have hj0:(Cr c.R y)[0]?=some P:=Ca (by omega) hA0 (by rw [ak,←hP];exact Rs (by omega))
  rw [hP] at sp A0
  have hv:=B.sv (by omega)
  have RV:=ES y.vn y.ve hv
  have sv:=(Fh hv).more LBx LBx
  have PT:=CI (Ad y.vn 0 y.ve) sv.ok sv.lz
  have C:=Mw ((Ad y.vn 0 y.ve),(Ad y.vn 0 y.ve)) P (.pt sv) sp
  have hb:Ig ps c.R y=GA ((Ad y.vn 0 y.ve),(Ad y.vn 0 y.ve)) P:=by unfold Ig;rw [if_pos h,ha0,Uo,hP]
  have ws:IwS (GA ((Ad y.vn 0 y.ve),(Ad y.vn 0 y.ve)) P) 20000 20000:=(IwS.pt (Fh hv)).hull (hP ▸ Bl sR a) |>.more LBx LBx
  unfold Cs
  rw [hb]
  have IS:=Bv _ _ ws wi
  repeat' (with_reducible first|refine EY ?_|refine FH ?_|refine Gk ?_|(refine Tx 12 ?_;refine gO xF <| gO xL <| gO (xCl func219 (RV)) <| gO (xCl func140 (PT)) <| gO xM <| gO (xCc func217 A0 (args:=[_]) rfl) <| gO (xCl func142 (C)) <| gZ (xSk Ac) ?_))
  exact Cc
 ·
  obtain ⟨a,hA0,ha0,hl0⟩:=B.a0 (by omega)
  have hl0:=hl0 (by omega)
  have hL0:=(gS.1 hA0).1
  obtain ⟨P,hP⟩:∃ P,c.R[a]?.getD iZ=P:=⟨_,rfl⟩
  have sp:=(Bl sR a).more LBx LBx
  have A0:=BI t u c y 0 hA0 (by omega) (by omega) (by omega)
  have hj0:(Cr c.R y)[0]?=some P:=Ca (by omega) hA0 (by rw [ak,←hP];exact Rs (by omega))
  rw [hP] at sp A0
  obtain ⟨b,hA1,ha1,hl1⟩:=B.a1 (by omega)
  have hL1:=(gS.1 hA1).1
  obtain ⟨Q,hQ⟩:∃ Q,c.R[b]?.getD iZ=Q:=⟨_,rfl⟩
  have sq:=(Bl sR b).more LBx LBx
  have A1:=BI t u c y 1 hA1 (by omega) (by omega) (by omega)
  have hj1:(Cr c.R y)[1]?=some Q:=Ca (by omega) hA1 (by rw [ak,←hQ];exact Rs (by omega))
  rw [hQ] at sq A1
  have C:=Pi P Q sp sq
  have hb:Ig ps c.R y=Acf P Q:=by unfold Ig AZ Dx;simp [h,hj0,hj1]
  have ws:IwS (Acf P Q) 20000 20000:=by
   have:=FG (y:=y) (Di (y:=y) sR) (fun h2=>B.sv (by omega)) (fun h2=>B.su h2) (by omega)
   rw [show Dx y (Cr c.R y)=Acf P Q by unfold Dx;simp [h,hj0,hj1]] at this
   exact Gl
  unfold Cs
  rw [hb]
  have IS:=Bv _ _ ws wi
  repeat' (with_reducible first|refine EY ?_|refine FH ?_|refine Gk ?_|(refine Tx 13 ?_;refine gO xEq <| gO xA ?_)|(refine Tx 14 ?_;refine gO xM <| gO (xCc func217 A0 (args:=[_]) rfl) <| gO xM <| gO (xCc func217 A1 (args:=[_]) rfl) <| gO (xCl func143 (C)) <| gZ (xSk Ac) ?_))
  exact Cc
 ·
  obtain ⟨a,hA0,ha0,hl0⟩:=B.a0 (by omega)
  have hl0:=hl0 (by omega)
  have hL0:=(gS.1 hA0).1
  obtain ⟨P,hP⟩:∃ P,c.R[a]?.getD iZ=P:=⟨_,rfl⟩
  have sp:=(Bl sR a).more LBx LBx
  have A0:=BI t u c y 0 hA0 (by omega) (by omega) (by omega)
  have hj0:(Cr c.R y)[0]?=some P:=Ca (by omega) hA0 (by rw [ak,←hP];exact Rs (by omega))
  rw [hP] at sp A0
  obtain ⟨b,hA1,ha1,hl1⟩:=B.a1 (by omega)
  have hL1:=(gS.1 hA1).1
  obtain ⟨Q,hQ⟩:∃ Q,c.R[b]?.getD iZ=Q:=⟨_,rfl⟩
  have sq:=(Bl sR b).more LBx LBx
  have A1:=BI t u c y 1 hA1 (by omega) (by omega) (by omega)
  have hj1:(Cr c.R y)[1]?=some Q:=Ca (by omega) hA1 (by rw [ak,←hQ];exact Rs (by omega))
  rw [hQ] at sq A1
  have C:=Uf P Q sp sq
  have hb:Ig ps c.R y=AeT P Q:=by unfold Ig AZ Dx;simp [h,hj0,hj1]
  have ws:IwS (AeT P Q) 20000 20000:=by
   have:=FG (y:=y) (Di (y:=y) sR) (fun h2=>B.sv (by omega)) (fun h2=>B.su h2) (by omega)
   rw [show Dx y (Cr c.R y)=AeT P Q by unfold Dx;simp [h,hj0,hj1]] at this
   exact Gl
  unfold Cs
  rw [hb]
  have IS:=Bv _ _ ws wi
  repeat' (with_reducible first|refine EY ?_|refine FH ?_|refine Gk ?_|(refine Tx 13 ?_;refine gO xEq <| gO xA ?_)|(refine Tx 15 ?_;refine gO xEq <| gO xA ?_)|(refine Tx 16 ?_;refine gO xM <| gO (xCc func217 A0 (args:=[_]) rfl) <| gO xM <| gO (xCc func217 A1 (args:=[_]) rfl) <| gO (xCl func144 (C)) <| gZ (xSk Ac) ?_))
  exact Cc
 ·
  obtain ⟨a,hA0,ha0,hl0⟩:=B.a0 (by omega)
  have hl0:=hl0 (by omega)
  have hL0:=(gS.1 hA0).1
  obtain ⟨P,hP⟩:∃ P,c.R[a]?.getD iZ=P:=⟨_,rfl⟩
  have sp:=(Bl sR a).more LBx LBx
  have A0:=BI t u c y 0 hA0 (by omega) (by omega) (by omega)
  have hj0:(Cr c.R y)[0]?=some P:=Ca (by omega) hA0 (by rw [ak,←hP];exact Rs (by omega))
  rw [hP] at sp A0
  have C:=Ph P sp
  have hb:Ig ps c.R y=VM P:=by unfold Ig AZ Dx;simp [h,hj0]
  have ws:IwS (VM P) 20000 20000:=by
   have:=FG (y:=y) (Di (y:=y) sR) (fun h2=>B.sv (by omega)) (fun h2=>B.su h2) (by omega)
   rw [show Dx y (Cr c.R y)=VM P by unfold Dx;simp [h,hj0]] at this
   exact Gl
  unfold Cs
  rw [hb]
  have IS:=Bv _ _ ws wi
  repeat' (with_reducible first|refine EY ?_|refine FH ?_|refine Gk ?_|(refine Tx 13 ?_;refine gO xEq <| gO xA ?_)|(refine Tx 15 ?_;refine gO xEq <| gO xA ?_)|(refine Tx 17 ?_;refine gO xEq <| gO xA ?_)|(refine Tx 19 ?_;refine gO xEq <| gO xA ?_)|(refine Tx 20 ?_;refine gO xM <| gO (xCc func217 A0 (args:=[_]) rfl) <| gO (xCl func146 (C)) <| gZ (xSk Ac) ?_))
  exact Cc
 ·
  obtain ⟨a,hA0,ha0,hl0⟩:=B.a0 (by omega)
  have hl0:=hl0 (by omega)
  have hL0:=(gS.1 hA0).1
  obtain ⟨P,hP⟩:∃ P,c.R[a]?.getD iZ=P:=⟨_,rfl⟩
  have sp:=(Bl sR a).more LBx LBx
  have A0:=BI t u c y 0 hA0 (by omega) (by omega) (by omega)
  have hj0:(Cr c.R y)[0]?=some P:=Ca (by omega) hA0 (by rw [ak,←hP];exact Rs (by omega))
  rw [hP] at sp A0
  have hv:=B.sv (by omega)
  have RV:=ES y.vn y.ve hv
  have sv:=(Fh hv).more LBx LBx
  have C:=FY P (Ad y.vn 0 y.ve) sp sv
  have hb:Ig ps c.R y=IA P (Ad y.vn 0 y.ve):=by unfold Ig AZ Dx;simp [h,hj0]
  have ws:IwS (IA P (Ad y.vn 0 y.ve)) 20000 20000:=by
   have:=FG (y:=y) (Di (y:=y) sR) (fun h2=>B.sv (by omega)) (fun h2=>B.su h2) (by omega)
   rw [show Dx y (Cr c.R y)=IA P (Ad y.vn 0 y.ve) by unfold Dx;simp [h,hj0]] at this
   exact Gl
  unfold Cs
  rw [hb]
  have IS:=Bv _ _ ws wi
  repeat' (with_reducible first|refine EY ?_|refine FH ?_|refine Gk ?_|(refine Tx 13 ?_;refine gO xEq <| gO xA ?_)|(refine Tx 15 ?_;refine gO xEq <| gO xA ?_)|(refine Tx 17 ?_;refine gO xEq <| gO xA ?_)|(refine Tx 19 ?_;refine gO xEq <| gO xA ?_)|(refine Tx 21 ?_;refine gO xEq <| gO xA ?_)|(refine Tx 23 ?_;refine gO xEq <| gO xA ?_)|(refine AM (id:=24) 6 Bb (by kernel_rfl) ?_;dsimp only [List.take,List.drop];refine gP xM <| gP (xCc func217 A0 (args:=[_]) rfl) <| gP xF <| gP xL <| gP (xCl func219 (RV)) <| gP (xCl func138 (C)) ?_;refine Ke ?_;refine gZ (xSk Ac) ?_))
  exact Cc
 ·
  obtain ⟨a,hA0,ha0,hl0⟩:=B.a0 (by omega)
  have hl0:=hl0 (by omega)
  have hL0:=(gS.1 hA0).1
  obtain ⟨P,hP⟩:∃ P,c.R[a]?.getD iZ=P:=⟨_,rfl⟩
  have sp:=(Bl sR a).more LBx LBx
  have A0:=BI t u c y 0 hA0 (by omega) (by omega) (by omega)
  have hj0:(Cr c.R y)[0]?=some P:=Ca (by omega) hA0 (by rw [ak,←hP];exact Rs (by omega))
  rw [hP] at sp A0
  obtain ⟨b,hA1,ha1,hl1⟩:=B.a1 (by omega)
  have hL1:=(gS.1 hA1).1
  obtain ⟨Q,hQ⟩:∃ Q,c.R[b]?.getD iZ=Q:=⟨_,rfl⟩
  have sq:=(Bl sR b).more LBx LBx
  have A1:=BI t u c y 1 hA1 (by omega) (by omega) (by omega)
  have hj1:(Cr c.R y)[1]?=some Q:=Ca (by omega) hA1 (by rw [ak,←hQ];exact Rs (by omega))
  rw [hQ] at sq A1
  have C:=Pm P Q sp sq
  have hb:Ig ps c.R y=Acg P Q:=by unfold Ig AZ Dx;simp [h,hj0,hj1]
  have ws:IwS (Acg P Q) 20000 20000:=by
   have:=FG (y:=y) (Di (y:=y) sR) (fun h2=>B.sv (by omega)) (fun h2=>B.su h2) (by omega)
   rw [show Dx y (Cr c.R y)=Acg P Q by unfold Dx;simp [h,hj0,hj1]] at this
   exact Gl
  unfold Cs
  rw [hb]
  have IS:=Bv _ _ ws wi
  repeat' (with_reducible first|refine EY ?_|refine FH ?_|refine Gk ?_|(refine Tx 13 ?_;refine gO xEq <| gO xA ?_)|(refine Tx 15 ?_;refine gO xEq <| gO xA ?_)|(refine Tx 17 ?_;refine gO xEq <| gO xA ?_)|(refine Tx 18 ?_;refine gO xM <| gO (xCc func217 A0 (args:=[_]) rfl) <| gO xM <| gO (xCc func217 A1 (args:=[_]) rfl) <| gO (xCl func145 (C)) <| gZ (xSk Ac) ?_))
  exact Cc
 ·
  obtain ⟨a,hA0,ha0,hl0⟩:=B.a0 (by omega)
  have hl0:=hl0 (by omega)
  have hL0:=(gS.1 hA0).1
  obtain ⟨P,hP⟩:∃ P,c.R[a]?.getD iZ=P:=⟨_,rfl⟩
  have sp:=(Bl sR a).more LBx LBx
  have A0:=BI t u c y 0 hA0 (by omega) (by omega) (by omega)
  have hj0:(Cr c.R y)[0]?=some P:=Ca (by omega) hA0 (by rw [ak,←hP];exact Rs (by omega))
  rw [hP] at sp A0
  obtain ⟨b,hA1,ha1,hl1⟩:=B.a1 (by omega)
  have hL1:=(gS.1 hA1).1
  obtain ⟨Q,hQ⟩:∃ Q,c.R[b]?.getD iZ=Q:=⟨_,rfl⟩
  have sq:=(Bl sR b).more LBx LBx
  have A1:=BI t u c y 1 hA1 (by omega) (by omega) (by omega)
  have hj1:(Cr c.R y)[1]?=some Q:=Ca (by omega) hA1 (by rw [ak,←hQ];exact Rs (by omega))
  rw [hQ] at sq A1
  have C:=Pj P Q sp sq
  have hb:Ig ps c.R y=Yl P Q:=by unfold Ig AZ Dx;simp [h,hj0,hj1]
  have ws:IwS (Yl P Q) 20000 20000:=by
   have:=FG (y:=y) (Di (y:=y) sR) (fun h2=>B.sv (by omega)) (fun h2=>B.su h2) (by omega)
   rw [show Dx y (Cr c.R y)=Yl P Q by unfold Dx;simp [h,hj0,hj1]] at this
   exact Gl
  unfold Cs
  rw [hb]
  have IS:=Bv _ _ ws wi
  repeat' (with_reducible first|refine EY ?_|refine FH ?_|refine Gk ?_|(refine Tx 13 ?_;refine gO xEq <| gO xA ?_)|(refine Tx 15 ?_;refine gO xEq <| gO xA ?_)|(refine Tx 17 ?_;refine gO xEq <| gO xA ?_)|(refine Tx 19 ?_;refine gO xEq <| gO xA ?_)|(refine Tx 21 ?_;refine gO xEq <| gO xA ?_)|(refine Tx 23 ?_;refine gO xEq <| gO xA ?_)|(refine Tx 25 ?_;refine gO xEq <| gO xA ?_)|(refine Tx 26 ?_;refine gO xM <| gO (xCc func217 A0 (args:=[_]) rfl) <| gO xM <| gO (xCc func217 A1 (args:=[_]) rfl) <| gO (xCl func148 (C)) <| gZ (xSk Ac) ?_))
  exact Cc
 ·
  obtain ⟨a,hA0,ha0,hl0⟩:=B.a0 (by omega)
  have hl0:=hl0 (by omega)
  have hL0:=(gS.1 hA0).1
  obtain ⟨P,hP⟩:∃ P,c.R[a]?.getD iZ=P:=⟨_,rfl⟩
  have sp:=(Bl sR a).more LBx LBx
  have A0:=BI t u c y 0 hA0 (by omega) (by omega) (by omega)
  have hj0:(Cr c.R y)[0]?=some P:=Ca (by omega) hA0 (by rw [ak,←hP];exact Rs (by omega))
  rw [hP] at sp A0
  obtain ⟨b,hA1,ha1,hl1⟩:=B.a1 (by omega)
  have hL1:=(gS.1 hA1).1
  obtain ⟨Q,hQ⟩:∃ Q,c.R[b]?.getD iZ=Q:=⟨_,rfl⟩
  have sq:=(Bl sR b).more LBx LBx
  have A1:=BI t u c y 1 hA1 (by omega) (by omega) (by omega)
  have hj1:(Cr c.R y)[1]?=some Q:=Ca (by omega) hA1 (by rw [ak,←hQ];exact Rs (by omega))
  rw [hQ] at sq A1
  have C:=Pk P Q sp sq
  have hb:Ig ps c.R y=VN P Q:=by unfold Ig AZ Dx;simp [h,hj0,hj1]
  have ws:IwS (VN P Q) 20000 20000:=by
   have:=FG (y:=y) (Di (y:=y) sR) (fun h2=>B.sv (by omega)) (fun h2=>B.su h2) (by omega)
   rw [show Dx y (Cr c.R y)=VN P Q by unfold Dx;simp [h,hj0,hj1]] at this
   exact Gl
  unfold Cs
  rw [hb]
  have IS:=Bv _ _ ws wi
  repeat' (with_reducible first|refine EY ?_|refine FH ?_|refine Gk ?_|(refine Tx 13 ?_;refine gO xEq <| gO xA ?_)|(refine Tx 15 ?_;refine gO xEq <| gO xA ?_)|(refine Tx 17 ?_;refine gO xEq <| gO xA ?_)|(refine Tx 19 ?_;refine gO xEq <| gO xA ?_)|(refine Tx 21 ?_;refine gO xEq <| gO xA ?_)|(refine Tx 23 ?_;refine gO xEq <| gO xA ?_)|(refine Tx 25 ?_;refine gO xEq <| gO xA ?_)|(refine Tx 27 ?_;refine gO xEq <| gO xA ?_)|(refine Tx 28 ?_;refine gO xM <| gO (xCc func217 A0 (args:=[_]) rfl) <| gO xM <| gO (xCc func217 A1 (args:=[_]) rfl) <| gO (xCl func149 (C)) <| gZ (xSk Ac) ?_))
  exact Cc
 ·
  obtain ⟨a,hA0,ha0,hl0⟩:=B.a0 (by omega)
  have hl0:=hl0 (by omega)
  have hL0:=(gS.1 hA0).1
  obtain ⟨P,hP⟩:∃ P,c.R[a]?.getD iZ=P:=⟨_,rfl⟩
  have sp:=(Bl sR a).more LBx LBx
  have A0:=BI t u c y 0 hA0 (by omega) (by omega) (by omega)
  have hj0:(Cr c.R y)[0]?=some P:=Ca (by omega) hA0 (by rw [ak,←hP];exact Rs (by omega))
  rw [hP] at sp A0
  have C:=Pn P sp
  have hb:Ig ps c.R y=Rq P:=by unfold Ig AZ Dx;simp [h,hj0]
  have ws:IwS (Rq P) 20000 20000:=by
   have:=FG (y:=y) (Di (y:=y) sR) (fun h2=>B.sv (by omega)) (fun h2=>B.su h2) (by omega)
   rw [show Dx y (Cr c.R y)=Rq P by unfold Dx;simp [h,hj0]] at this
   exact Gl
  unfold Cs
  rw [hb]
  have IS:=Bv _ _ ws wi
  repeat' (with_reducible first|refine EY ?_|refine FH ?_|refine Gk ?_|(refine Tx 13 ?_;refine gO xEq <| gO xA ?_)|(refine Tx 15 ?_;refine gO xEq <| gO xA ?_)|(refine Tx 17 ?_;refine gO xEq <| gO xA ?_)|(refine Tx 19 ?_;refine gO xEq <| gO xA ?_)|(refine Tx 21 ?_;refine gO xEq <| gO xA ?_)|(refine Tx 22 ?_;refine gO xM <| gO (xCc func217 A0 (args:=[_]) rfl) <| gO (xCl func147 (C)) <| gZ (xSk Ac) ?_))
  exact Cc
 ·
  obtain ⟨a,hA0,ha0,hl0⟩:=B.a0 (by omega)
  have hl0:=hl0 (by omega)
  have hL0:=(gS.1 hA0).1
  obtain ⟨P,hP⟩:∃ P,c.R[a]?.getD iZ=P:=⟨_,rfl⟩
  have sp:=(Bl sR a).more LBx LBx
  have A0:=BI t u c y 0 hA0 (by omega) (by omega) (by omega)
  have hj0:(Cr c.R y)[0]?=some P:=Ca (by omega) hA0 (by rw [ak,←hP];exact Rs (by omega))
  rw [hP] at sp A0
  have hv:=B.sv (by omega)
  have RV:=ES y.vn y.ve hv
  have sv:=(Fh hv).more LBx LBx
  have hu:=B.su h
  have RU:=ES y.un y.ue hu
  have su:=(Fh hu).more LBx LBx
  have C:=QO P (Ad y.vn 0 y.ve) (Ad y.un 0 y.ue) sp sv su (B.cl h)
  have hb:Ig ps c.R y=Sr P (Ad y.vn 0 y.ve) (Ad y.un 0 y.ue):=by unfold Ig AZ Dx;simp [h,hj0]
  have ws:IwS (Sr P (Ad y.vn 0 y.ve) (Ad y.un 0 y.ue)) 20000 20000:=by
   have:=FG (y:=y) (Di (y:=y) sR) (fun h2=>B.sv (by omega)) (fun h2=>B.su h2) (by omega)
   rw [show Dx y (Cr c.R y)=Sr P (Ad y.vn 0 y.ve) (Ad y.un 0 y.ue) by unfold Dx;simp [h,hj0]] at this
   exact Gl
  unfold Cs
  rw [hb]
  have IS:=Bv _ _ ws wi
  repeat' (with_reducible first|refine EY ?_|refine FH ?_|refine Gk ?_|(refine Tx 13 ?_;refine gO xEq <| gO xA ?_)|(refine Tx 15 ?_;refine gO xEq <| gO xA ?_)|(refine Tx 17 ?_;refine gO xEq <| gO xA ?_)|(refine Tx 19 ?_;refine gO xEq <| gO xA ?_)|(refine Tx 21 ?_;refine gO xEq <| gO xA ?_)|(refine Tx 23 ?_;refine gO xEq <| gO xA ?_)|(refine Tx 25 ?_;refine gO xEq <| gO xA ?_)|(refine Tx 27 ?_;refine gO xEq <| gO xA ?_)|(refine IY (id:=5) 12 [(12,11)] Bb (by kernel_rfl) ?_;dsimp only [List.take,List.drop];refine gP xM <| gP (xCc func217 A0 (args:=[_]) rfl) <| gP xF <| gP xL <| gP Ajp <| gP xF <| gP xL <| gP Ajp <| gP (xCl func150 (C)) <| gP xMt <| gP (by exact DS rfl rfl rfl) <| gP xEx ?_;refine Ke ?_;refine gZ (xSk Ac) ?_))
  exact Cc
def Abi (mk:Bool) (E:List Pq):D:=.row mk 3 E.length (Ay dyP E)
def dCx (u:Bool) (c:Ct) (xd:D):List D:=[Bw u c.F,.row false 6 c.R.length (Ay (dIw false) c.R),xd]
theorem Ajq (h:p:=by first|exact xIr Ae (AY hk)|exact xIr Ae (AY hFr)|exact xIr Ae (hEr)):p:=h
theorem Acs (k:p') (h:Hd9 p'→p:=by with_reducible first|(intro Z9;refine qq ?_;exact Z9.o)|(intro Z9;refine Tx 0 ?_;refine gN (xAl Am) ?_;exact Z9.o)|(intro Z9;refine Tx 1 ?_;refine gO xF <| gO xD <| gO xM <| gO Ajq <| gO xD <| gO xA ?_;exact Z9.o)|(intro Z9;refine Cj (id:=2) Bb (by kernel_rfl) ?_;refine gP xD <| gP xF <| gP xD <| gP xM <| gP Ajq <| gP xD <| gP xGe ?_;refine Ke ?_;exact Z9.o)|(intro Z9;refine Tx 3 ?_;refine gO xD <| gO xM <| gO (xIr Ag (hEr)) <| gO xL <| gZ (xSk Ab) ?_;exact Z9.o)|(intro Z9;refine AM (id:=4) 6 Bb (by kernel_rfl) ?_;dsimp only [List.take,List.drop];refine gP xD <| gP xM <| gP (xIr Ag (hEr)) <| gP xL <| gP xL <| gP (xCl func152 (AD)) ?_;refine Ke ?_;refine gZ (xSk Ab) ?_;exact Z9.o)|fail):p:=h ⟨k⟩
theorem Dz (mk:Bool) (xd:D) (t u:Bool) (c:Ct) (E:List Pq) (y:Bk) (s:Int) (s0:0≤s) (s1:s≤30) (sE:∀ p∈E,Sm p LB LB) (k:Nat) {r:Nat} (hk:y.args[k]?=some (r:Int)) (hr:r<c.F.length) (hr2:r<E.length) (ha:y.args.length≤1000000) (hv:c.F.length≤1000000) (hv2:E.length≤1000000):CV prog Al 220 [aI (k:Int),.one (.ptr true (dBk t y)),.one (.ptr true [dI s]),.one (.ptr true (dCx u c xd)),.one (.ptr true [Abi mk E]),.one (.ptr true (dDy false (pw (-s)).1 (pw (-s)).2))] [aDy false (mvP c.F E s (r:Int)).1 (mvP c.F E s (r:Int)).2]:=by
 refine cvz func220 ntmps220 ?_
 have l1:=(gS.1 hk).1
 have hFr:=SF (F:=c.F) (k:=r) (by omega)
 have hEr:=Aft (E:=E) (k:=r) (by omega)
 have sm:=En sE r
 obtain ⟨e,he⟩:∃ e,E[r]?.getD (0,0)=e:=⟨_,rfl⟩
 rw [he] at sm hEr
 have um:=Ra s0 s1
 have AD:=CX e.1 e.2 (pw (-s)).1 (pw (-s)).2 sm.ok um.ok sm.lz um.lz
 by_cases h:scA c.F r≤s
 case pos =>
  rw [show mvP c.F E s (r:Int)=e by unfold mvP;rw [II,if_pos h,Ok,he]]
  repeat' (with_reducible first|refine Acs ?_)
  exact CJ
 rw [show mvP c.F E s (r:Int)=Ep e (pw (-s)) by unfold mvP;rw [II,if_neg h,Ok,he]]
 repeat' (with_reducible first|refine Acs ?_)
 exact CJ
theorem Ij (b:Bool) (s:Int):CV prog Al 221 [aB b,.one (.ptr true (dDy false (pw (-s)).1 (pw (-s)).2))] [aDy false (ixP b s).1 (ixP b s).2]:=by
 refine cvz func221 ntmps221 ?_
 cases b
 case true =>
  rw [show ixP true s=pw (-s) from rfl]
  repeat' (with_reducible first|refine qq ?_|(refine Tx 0 ?_;refine gN (xAl Am) ?_)|(refine Tx 1 ?_;refine gO xM ?_)|(refine Tx 2 ?_;refine gO xL <| gZ (xSk Ab) ?_))
  exact CJ
 case false =>
  rw [show ixP false s=(0,0) from rfl,Gy]
  repeat' (with_reducible first|refine qq ?_|(refine Tx 0 ?_;refine gN (xAl Am) ?_)|(refine Tx 1 ?_;refine gO xM ?_)|(refine Tx 3 ?_;refine gO (by exact AU rfl GR rfl rfl) <| gZ (xSk Ab) ?_))
  exact AE rfl (.cons_ (Ale Ab rfl) .nil_)
theorem EG (k:p') (h:Hd9 p'→p:=by with_reducible first|(intro Z9;refine qq ?_;exact Z9.o)|(intro Z9;refine Tx 0 ?_;refine gN xBo <| gN xBo <| gN xBo <| gN (xAl Am) ?_;exact Z9.o)|(intro Z9;refine Tx 3 ?_;refine gO xD <| gO (xCl func218 (UN)) <| gN (xAl Am) <| gZ (xSk Ab) ?_;exact Z9.o)|(intro Z9;refine Tx 4 ?_;refine gO (by first|exact xMf [(4,0,none),(5,0,none),(1,0,none),(2,0,none),(6,0,none)]|exact Ck rfl (by repeat' first|exact Bt rfl rfl|refine AH rfl rfl rfl ?_)) <| gO xA ?_;exact Z9.o)|(intro Z9;refine Tx 5 ?_;refine gO (by first|exact xMf [(6,0,none)]|exact Ck rfl (by repeat' first|exact Bt rfl rfl|refine AH rfl rfl rfl ?_)) <| gO xA ?_;exact Z9.o)|(intro Z9;refine Tx 6 ?_;refine gO xF <| gO xD ?_;exact Z9.o)|(intro Z9;refine Tx 7 ?_;refine gO xEq <| gO xA ?_;exact Z9.o)|fail):p:=h ⟨k⟩
theorem FI (k:p') (h:Hd9 p'→p:=by with_reducible first|(intro Z9;refine Tx 1 ?_;refine gO xF <| gO xD <| gO xM <| gO (xIr Ak (El hy)) <| gO xL <| gN (xAl BP) <| gZ (xSk BE) ?_;exact Z9.o)|(intro Z9;refine Tx 2 ?_;refine gO xF <| gO xD <| gO xM <| gO (xIr Ae (AY hFi)) <| gO xD <| gN (xAl CR) <| gZ Vr ?_;exact Z9.o)|fail):p:=h ⟨k⟩
theorem EZ (k:p') (h:Hd9 p'→p:=by with_reducible first|(intro Z9;refine Tx 9 ?_;refine gO xEq <| gO xA ?_;exact Z9.o)|fail):p:=h ⟨k⟩
theorem FJ (k:p') (h:Hd9 p'→p:=by with_reducible first|(intro Z9;refine Tx 11 ?_;refine gO xEq <| gO xA ?_;exact Z9.o)|fail):p:=h ⟨k⟩
theorem Gm (k:p') (h:Hd9 p'→p:=by with_reducible first|(intro Z9;refine Tx 12 ?_;refine gO xEq <| gO xA ?_;exact Z9.o)|fail):p:=h ⟨k⟩
theorem Ajr (h:p:=by first|exact xCl func222 (WH)|exact xCl func222 (WU)):p:=h
theorem Acu (k:p') (h:Hd9 p'→p:=by with_reducible first|(intro Z9;refine AM (id:=27) 17 Bb (by kernel_rfl) ?_;dsimp only [List.take,List.drop];refine gP xM <| gP (xCc func220 M0 (args:=[_]) rfl) <| gP xM <| gP xF <| gP xL <| gP xD <| gP Ajr <| gP EF <| gP xM ?_;(first|iterate 5 refine Kd ?_|(refine Ky (xFa Fo Bg) ?_;refine Ky (xLa Bg) ?_;refine Ky (xLd AQ) ?_;refine Ky Ajr ?_;refine Ky EF ?_));refine gP xPk <| gP (xCc func221 IX (args:=[_]) rfl) <| gP (xCl func156 (C)) ?_;refine Ke ?_;refine gZ (xSk Ab) ?_;exact Z9.o)|fail):p:=h ⟨k⟩
theorem Afv (h:p:=by first|exact xIr Ae (AY hFi)|exact xIr Ae (AY hF0)|exact xIr Ae (AY hF1)|exact xIr Ae (hE0)|exact xIr Ae (hE1)|exact xIr Ae (hI0)|exact xIr Ae (hI1)):p:=h
theorem Ajs (h:p:=by first|exact xIr Af (hE0)|exact xIr Af (hE1)|exact xIr Af (hI0)|exact xIr Af (hI1)):p:=h
theorem Abj (h:p:=by first|exact xIr Ag (hE0)|exact xIr Ag (hE1)|exact xIr Ag (hI0)|exact xIr Ag (hI1)):p:=h
theorem Ajt (h:p:=by first|exact xIr Ae (AY hFi)|exact xIr Ae (AY hF0)|exact xIr Ae (hEa)):p:=h
theorem Afw (h:p:=by first|exact xCl func157 (MA)|exact xCl func157 (MB)|exact xCl func157 (MC)):p:=h
theorem Afx (h:p:=by first|exact xCl func152 (D1)|exact xCl func152 (D2)|exact xCl func152 (D3)):p:=h
theorem Aju (h:p:=by first|exact xCl func159 (MG0)|exact xCl func159 (MG1)):p:=h
theorem Ajv (h:p:=by first|exact xIr Ae (AY hA0)|exact xIr Ae (hEa)):p:=h
theorem Afy (h:p:=by first|exact AbL rfl rfl rfl|exact xLt):p:=h
theorem Ik (mk:Bool) (xd:D) (t u:Bool) {ps:List Prt} {bs:List Bk} (os:List Int) (c:Ct) (E:List Pq) (hE:E.length=bs.length) (sE:∀ p∈E,Sm p LB LB) (i:Nat) {y:Bk} (hy:bs[i]?=some y) (B:Agm ps bs.length y) (hF:c.F.length=bs.length) (hR:c.R.length=bs.length) (sR:∀ p∈c.R,IwS p LB LB) (hn:bs.length≤1000000) (hpn:ps.length≤1000000) (hs2:0≤scA c.F i∧scA c.F i≤30) (hsa:y.kind≠0→∀ a∈y.args,0≤sG c.F a∧sG c.F a≤30):CV prog Al 127 [aDg t ps bs os,.agg (dCx u c xd),.one (Abi mk E),aI (i:Int)] [aDy false (AF ps c.F c.R E y (scA c.F i)).1 (AF ps c.F c.R E y (scA c.F i)).2]:=by
 refine cvz func127 ntmps127 ?_
 have hil:=(gS.1 hy).1
 have hFi:=SF (F:=c.F) (k:=i) (by omega)
 obtain ⟨s,hs⟩:∃ s,scA c.F i=s:=⟨_,rfl⟩
 rw [hs] at hFi
 have hBl:=B.len
 obtain ⟨s0,s1⟩:=hs2
 rw [hs] at s0 s1
 have UN:=MH s (by omega) (by omega)
 have um:=Ra s0 s1
 rw [hs]
 rcases B.hk with h|h|h|h|h|h|h|h|h|h|h|h
 ·
  obtain ⟨j,pp,hA0,ha0,hp,PS⟩:=B.port h
  have l3:=(gS.1 hp).1
  have hL0:=(gS.1 hA0).1
  rw [show AF ps c.F c.R E y s=ixP (decide (s<pp.fr)) s by unfold AF;rw [if_pos h,ha0,Pv hp]]
  have IX:=Ij (decide (s<pp.fr)) s
  repeat' (with_reducible first|refine EG ?_|refine FI ?_|(refine AM (id:=8) 13 Bb (by kernel_rfl) ?_;dsimp only [List.take,List.drop];refine gP xM <| gP xD <| gP xF <| gP xD <| gP xF <| gP xD <| gP (xIr Ae (AY hA0)) <| gP xD <| gP (xIr CS (NQ hp)) <| gP xF <| gP xD <| gP Afy <| gP (xCc func221 IX (args:=[_]) rfl) ?_;refine Ke ?_;refine gZ (xSk Ab) ?_))
  exact CJ
 ·
  have WH:=FZ y.vn y.ve s (B.sv (by omega)) s0 s1
  have IX:=Ij (!BR y.vn y.ve s) s
  rw [show AF ps c.F c.R E y s=ixP (!BR y.vn y.ve s) s by unfold AF;rw [if_neg (by omega),if_pos h]]
  repeat' (with_reducible first|refine EG ?_|refine FI ?_|refine EZ ?_|(refine Tx 10 ?_;refine gO xM <| gO xF <| gO xL <| gO xD <| gO (xCl func222 (WH)) <| gO EF <| gO (xCc func221 IX (args:=[_]) rfl) <| gZ (xSk Ab) ?_))
  exact CJ
 ·
  obtain ⟨a,hA0,ha0,hl0⟩:=B.a0 (by omega)
  have hl0:=hl0 (by omega)
  have hL0:=(gS.1 hA0).1
  have M0:=Dz mk xd t u c E y s s0 s1 sE 0 hA0 (by omega) (by omega) (by omega) (by omega) (by omega)
  obtain ⟨m0,hm0⟩:∃ m,mvP c.F E s (a:Int)=m:=⟨_,rfl⟩
  have t0:=Gd (F:=c.F) s0 s1 sE (a:Int)
  rw [hm0] at M0 t0
  have WH:=FZ y.vn y.ve s (B.sv (by omega)) s0 s1
  have ib:=Pt (b:=(!BR y.vn y.ve s)) s0 s1
  have IX:=Ij (!BR y.vn y.ve s) s
  have C:=Eg m0.1 m0.2 (ixP (!BR y.vn y.ve s) s).1 (ixP (!BR y.vn y.ve s) s).2 t0.ok ib.ok t0.lz ib.lz
  rw [show AF ps c.F c.R E y s=FW m0 (ixP (!BR y.vn y.ve s) s) by unfold AF;rw [if_neg (by omega),if_neg (by omega),if_neg (by omega),if_neg (by omega),if_neg (by omega),if_neg (by omega),if_neg (by omega),if_neg (by omega),ha0,hm0]]
  repeat' (with_reducible first|refine EG ?_|refine FI ?_|refine EZ ?_|refine FJ ?_|refine Gm ?_|(refine Tx 14 ?_;refine gO xEq <| gO xA ?_)|(refine Tx 15 ?_;refine gO xEq <| gO xA ?_)|(refine Tx 17 ?_;refine gO xEq <| gO xA ?_)|(refine Tx 18 ?_;refine gO xEq <| gO xA ?_)|(refine Tx 20 ?_;refine gO xEq <| gO xA ?_)|(refine Tx 22 ?_;refine gO xEq <| gO xA ?_)|(refine Tx 26 ?_;refine gO xEq <| gO xA ?_)|(refine AM (id:=28) 10 Bb (by kernel_rfl) ?_;dsimp only [List.take,List.drop];refine gP xM <| gP (xCc func220 M0 (args:=[_]) rfl) <| gP xM <| gP xF <| gP xL <| gP xD <| gP (xCl func222 (WH)) <| gP EF <| gP (xCc func221 IX (args:=[_]) rfl) <| gP (xCl func156 (C)) ?_;refine Ke ?_;refine gZ (xSk Ab) ?_))
  exact CJ
 ·
  obtain ⟨a,hA0,ha0,hl0⟩:=B.a0 (by omega)
  have hl0:=hl0 (by omega)
  have hL0:=(gS.1 hA0).1
  obtain ⟨b,hA1,ha1,hl1⟩:=B.a1 (by omega)
  have hL1:=(gS.1 hA1).1
  have M0:=Dz mk xd t u c E y s s0 s1 sE 0 hA0 (by omega) (by omega) (by omega) (by omega) (by omega)
  obtain ⟨m0,hm0⟩:∃ m,mvP c.F E s (a:Int)=m:=⟨_,rfl⟩
  have t0:=Gd (F:=c.F) s0 s1 sE (a:Int)
  rw [hm0] at M0 t0
  have M1:=Dz mk xd t u c E y s s0 s1 sE 1 hA1 (by omega) (by omega) (by omega) (by omega) (by omega)
  obtain ⟨m1,hm1⟩:∃ m,mvP c.F E s (b:Int)=m:=⟨_,rfl⟩
  have t1:=Gd (F:=c.F) s0 s1 sE (b:Int)
  rw [hm1] at M1 t1
  have C:=CX m0.1 m0.2 m1.1 m1.2 t0.ok t1.ok t0.lz t1.lz
  rw [show AF ps c.F c.R E y s=Ep m0 m1 by unfold AF;rw [if_neg (by omega),if_neg (by omega),if_pos (by omega),ha0,ha1,hm0,hm1]]
  repeat' (with_reducible first|refine EG ?_|refine FI ?_|refine EZ ?_|refine FJ ?_|(refine Tx 13 ?_;refine gO xM <| gO (xCc func220 M0 (args:=[_]) rfl) <| gO xM <| gO (xCc func220 M1 (args:=[_]) rfl) <| gO (xCl func152 (C)) <| gZ (xSk Ab) ?_))
  exact CJ
 ·
  obtain ⟨a,hA0,ha0,hl0⟩:=B.a0 (by omega)
  have hl0:=hl0 (by omega)
  have hL0:=(gS.1 hA0).1
  obtain ⟨b,hA1,ha1,hl1⟩:=B.a1 (by omega)
  have hL1:=(gS.1 hA1).1
  have M0:=Dz mk xd t u c E y s s0 s1 sE 0 hA0 (by omega) (by omega) (by omega) (by omega) (by omega)
  obtain ⟨m0,hm0⟩:∃ m,mvP c.F E s (a:Int)=m:=⟨_,rfl⟩
  have t0:=Gd (F:=c.F) s0 s1 sE (a:Int)
  rw [hm0] at M0 t0
  have M1:=Dz mk xd t u c E y s s0 s1 sE 1 hA1 (by omega) (by omega) (by omega) (by omega) (by omega)
  obtain ⟨m1,hm1⟩:∃ m,mvP c.F E s (b:Int)=m:=⟨_,rfl⟩
  have t1:=Gd (F:=c.F) s0 s1 sE (b:Int)
  rw [hm1] at M1 t1
  have C:=CX m0.1 m0.2 m1.1 m1.2 t0.ok t1.ok t0.lz t1.lz
  rw [show AF ps c.F c.R E y s=Ep m0 m1 by unfold AF;rw [if_neg (by omega),if_neg (by omega),if_pos (by omega),ha0,ha1,hm0,hm1]]
  repeat' (with_reducible first|refine EG ?_|refine FI ?_|refine EZ ?_|refine FJ ?_|refine Gm ?_|(refine Tx 13 ?_;refine gO xM <| gO (xCc func220 M0 (args:=[_]) rfl) <| gO xM <| gO (xCc func220 M1 (args:=[_]) rfl) <| gO (xCl func152 (C)) <| gZ (xSk Ab) ?_))
  exact CJ
 ·
  obtain ⟨a,hA0,ha0,hl0⟩:=B.a0 (by omega)
  have hl0:=hl0 (by omega)
  have hL0:=(gS.1 hA0).1
  have M0:=Dz mk xd t u c E y s s0 s1 sE 0 hA0 (by omega) (by omega) (by omega) (by omega) (by omega)
  obtain ⟨m0,hm0⟩:∃ m,mvP c.F E s (a:Int)=m:=⟨_,rfl⟩
  have t0:=Gd (F:=c.F) s0 s1 sE (a:Int)
  rw [hm0] at M0 t0
  rw [show AF ps c.F c.R E y s=m0 by unfold AF;rw [if_neg (by omega),if_neg (by omega),if_neg (by omega),if_pos (by omega),ha0,hm0]]
  repeat' (with_reducible first|refine EG ?_|refine FI ?_|refine EZ ?_|refine FJ ?_|refine Gm ?_|(refine Tx 14 ?_;refine gO xEq <| gO xA ?_)|(refine Tx 16 ?_;refine gO xM <| gO (xCc func220 M0 (args:=[_]) rfl) <| gZ (xSk Ab) ?_))
  exact CJ
 ·
  obtain ⟨a,hA0,ha0,hl0⟩:=B.a0 (by omega)
  have hl0:=hl0 (by omega)
  have hL0:=(gS.1 hA0).1
  have hF0:=SF (F:=c.F) (k:=a) (by omega)
  have hr0:=hsa (by omega) a (gM hA0)
  rw [II] at hr0
  have hv:=B.sv (by omega)
  have sv:=Fh hv
  have hv2:=hv
  unfold DJ at hv2
  have RV:=ES y.vn y.ve hv
  have hEa:=Aft (E:=E) (k:=a) (by omega)
  have se:=En sE a
  obtain ⟨e,he⟩:∃ e,E[a]?.getD (0,0)=e:=⟨_,rfl⟩
  rw [he] at se hEa
  obtain ⟨r,hr⟩:∃ r,scA c.F a=r:=⟨_,rfl⟩
  rw [hr] at hF0 hr0
  obtain ⟨v,hvv⟩:∃ v,Ad y.vn 0 y.ve=v:=⟨_,rfl⟩
  rw [hvv] at RV sv
  have AB:=OZ v.1 v.2 sv.ok sv.lz
  have sa:=sv.abs
  have MU:=Fy (Hm v).1 (Hm v).2 e.1 e.2 sa.ok se.ok sa.lz se.lz (lT (dq sa.d se.d) (by decide))
  have sm:=Sm.mul sa se (by decide)
  have ib:=Pt (b:=decide (s - r+y.ve<0)) s0 s1
  have IX:=Ij (decide (s - r+y.ve<0)) s
  have AD:=CX (CA (Hm v) e).1 (CA (Hm v) e).2 (ixP (decide (s - r+y.ve<0)) s).1 (ixP (decide (s - r+y.ve<0)) s).2 sm.ok ib.ok sm.lz ib.lz
  rw [show AF ps c.F c.R E y s=Ep (CA (Hm v) e) (ixP (decide (s - r+y.ve<0)) s) by unfold AF;rw [if_neg (by omega),if_neg (by omega),if_neg (by omega),if_neg (by omega),if_neg (by omega),if_pos h,ha0,II,Ok,he,hr,hvv]]
  repeat' (with_reducible first|refine EG ?_|(refine Tx 1 ?_;refine gO xF <| gO xD <| gO xM <| gO (by first|exact xIr Ak (El hy)|exact xIr Ak (hEa)) <| gO xL <| gN (xAl BP) <| gZ (xSk BE) ?_)|(refine Tx 2 ?_;refine gO xF <| gO xD <| gO xM <| gO Ajt <| gO xD <| gN (xAl CR) <| gZ Vr ?_)|refine EZ ?_|refine FJ ?_|refine Gm ?_|(refine Tx 14 ?_;refine gO xEq <| gO xA ?_)|(refine Tx 15 ?_;refine gO xEq <| gO xA ?_)|(refine Tx 17 ?_;refine gO xEq <| gO xA ?_)|(refine Tx 18 ?_;refine gO xEq <| gO xA ?_)|(refine Tx 20 ?_;refine gO xEq <| gO xA ?_)|(refine AM (id:=21) 30 Bb (by kernel_rfl) ?_;dsimp only [List.take,List.drop];refine gP xF <| gP xL <| gP (xCl func219 (RV)) <| gP (xCl func158 (AB)) <| gP xD <| gP xF <| gP xD <| gP Ajv <| gP xD <| gP (xIr Ag (hEa)) <| gP xL <| gP (xCl func157 (MU)) <| gP xM <| gP xD <| gP xF <| gP xD <| gP xF <| gP xD <| gP Ajv <| gP xD <| gP Ajt <| gP xD <| gP xSb <| gP xF <| gP xF <| gP xD <| gP xAd <| gP Afy <| gP (xCc func221 IX (args:=[_]) rfl) <| gP (xCl func152 (AD)) ?_;refine Ke ?_;refine gZ (xSk Ab) ?_))
  exact CJ
 ·
  obtain ⟨a,hA0,ha0,hl0⟩:=B.a0 (by omega)
  have hl0:=hl0 (by omega)
  have hL0:=(gS.1 hA0).1
  obtain ⟨b,hA1,ha1,hl1⟩:=B.a1 (by omega)
  have hL1:=(gS.1 hA1).1
  have hF0:=SF (F:=c.F) (k:=a) (by omega)
  have hr0:=hsa (by omega) a (gM hA0)
  rw [II] at hr0
  have hE0:=Aft (E:=E) (k:=a) (by omega)
  have se0:=En sE a
  obtain ⟨e0,he0⟩:∃ e,E[a]?.getD (0,0)=e:=⟨_,rfl⟩
  rw [he0] at se0 hE0
  obtain ⟨r0,hq0⟩:∃ r,scA c.F a=r:=⟨_,rfl⟩
  rw [hq0] at hF0 hr0
  have hI0:=Afu (R:=c.R) (k:=a) (by omega)
  have si0:=Bl sR a
  obtain ⟨P0,hP0⟩:∃ P,c.R[a]?.getD iZ=P:=⟨_,rfl⟩
  rw [hP0] at si0 hI0
  have MG0:=Hg P0 (si0.more LBx LBx)
  have sg0:=IH si0
  generalize hG0:DM P0=G0 at MG0 sg0
  have hF1:=SF (F:=c.F) (k:=b) (by omega)
  have hr1:=hsa (by omega) b (gM hA1)
  rw [II] at hr1
  have hE1:=Aft (E:=E) (k:=b) (by omega)
  have se1:=En sE b
  obtain ⟨e1,he1⟩:∃ e,E[b]?.getD (0,0)=e:=⟨_,rfl⟩
  rw [he1] at se1 hE1
  obtain ⟨r1,hq1⟩:∃ r,scA c.F b=r:=⟨_,rfl⟩
  rw [hq1] at hF1 hr1
  have hI1:=Afu (R:=c.R) (k:=b) (by omega)
  have si1:=Bl sR b
  obtain ⟨P1,hP1⟩:∃ P,c.R[b]?.getD iZ=P:=⟨_,rfl⟩
  rw [hP1] at si1 hI1
  have MG1:=Hg P1 (si1.more LBx LBx)
  have sg1:=IH si1
  generalize hG1:DM P1=G1 at MG1 sg1
  have MA:=Fy G0.1 G0.2 e1.1 e1.2 sg0.ok se1.ok sg0.lz se1.lz (lT (dq sg0.d se1.d) (by decide))
  have sMA:=Sm.mul sg0 se1 (by decide)
  have MB:=Fy G1.1 G1.2 e0.1 e0.2 sg1.ok se0.ok sg1.lz se0.lz (lT (dq sg1.d se0.d) (by decide))
  have sMB:=Sm.mul sg1 se0 (by decide)
  have MC:=Fy e0.1 e0.2 e1.1 e1.2 se0.ok se1.ok se0.lz se1.lz (lT (dq se0.d se1.d) (by decide))
  have sMC:=Sm.mul se0 se1 (by decide)
  generalize hA:CA G0 e1=A at *
  generalize hB:CA G1 e0=Bq at *
  generalize hC:CA e0 e1=Cq at *
  have hAe:OU G0.1 G0.2 e1.1 e1.2=A:=hA
  have hBe:OU G1.1 G1.2 e0.1 e0.2=Bq:=hB
  have hCe:OU e0.1 e0.2 e1.1 e1.2=Cq:=hC
  rw [hAe] at MA sMA
  rw [hBe] at MB sMB
  rw [hCe] at MC sMC
  have D1:=CX A.1 A.2 Bq.1 Bq.2 sMA.ok sMB.ok sMA.lz sMB.lz
  have t1:Sm (Ep A Bq) 16385 8192:=Sm.sum sMA sMB (by decide)
  generalize hS:Ep A Bq=S1 at *
  have hSe:Ci A.1 A.2 Bq.1 Bq.2=S1:=hS
  rw [hSe] at D1
  have D2:=CX S1.1 S1.2 Cq.1 Cq.2 t1.ok sMC.ok t1.lz sMC.lz
  have t2:Sm (Ep S1 Cq) 24578 8192:=Sm.sum t1 (sMC.more (by decide) (by decide)) (by decide)
  generalize hT:Ep S1 Cq=S2 at *
  have hTe:Ci S1.1 S1.2 Cq.1 Cq.2=S2:=hT
  rw [hTe] at D2
  have ib:=Pt (b:=decide (s - r0 - r1<0)) s0 s1
  have IX:=Ij (decide (s - r0 - r1<0)) s
  have D3:=CX S2.1 S2.2 (ixP (decide (s - r0 - r1<0)) s).1 (ixP (decide (s - r0 - r1<0)) s).2 t2.ok ib.ok t2.lz ib.lz
  rw [show AF ps c.F c.R E y s=Ep S2 (ixP (decide (s - r0 - r1<0)) s) by unfold AF;rw [if_neg (by omega),if_neg (by omega),if_neg (by omega),if_neg (by omega),if_neg (by omega),if_neg (by omega),if_pos h,ha0,ha1,II,II,Ok,Ok,Uo,Uo,he0,he1,hq0,hq1,hP0,hP1,hG0,hG1,hA,hB,hC,hS,hT]]
  repeat' (with_reducible first|refine EG ?_|(refine Tx 1 ?_;refine gO xF <| gO xD <| gO xM <| gO (by first|exact xIr Ak (El hy)|exact xIr Ak (hE0)|exact xIr Ak (hE1)|exact xIr Ak (hI0)|exact xIr Ak (hI1)) <| gO xL <| gN (xAl BP) <| gZ (xSk BE) ?_)|(refine Tx 2 ?_;refine gO xF <| gO xD <| gO xM <| gO Afv <| gO xD <| gN (xAl CR) <| gZ Vr ?_)|refine EZ ?_|refine FJ ?_|refine Gm ?_|(refine Tx 14 ?_;refine gO xEq <| gO xA ?_)|(refine Tx 15 ?_;refine gO xEq <| gO xA ?_)|(refine Tx 17 ?_;refine gO xEq <| gO xA ?_)|(refine Tx 18 ?_;refine gO xEq <| gO xA ?_)|(refine Tx 20 ?_;refine gO xEq <| gO xA ?_)|(refine Tx 22 ?_;refine gO xEq <| gO xA ?_)|(refine Cj (id:=23) Bb (by kernel_rfl) ?_;refine gP xF <| gP xD <| gP (by first|exact xIr Ae (AY hA0)|exact xIr Ae (hE0)|exact xIr Ae (hE1)|exact xIr Ae (hI0)|exact xIr Ae (hI1)) <| gP xD <| gP xF <| gP xD <| gP (by first|exact xIr Ae (AY hA1)|exact xIr Ae (hE0)|exact xIr Ae (hE1)|exact xIr Ae (hI0)|exact xIr Ae (hI1)) <| gP xD <| gP xA <| gP xA ?_;refine Ke ?_)|(refine AM (id:=24) 24 Bb (by kernel_rfl) ?_;dsimp only [List.take,List.drop];refine gP xF <| gP xD <| gP xM <| gP Ajs <| gP xL <| gP Aju <| gP xD <| gP xM <| gP Abj <| gP xL <| gP Afw <| gP xF <| gP xD <| gP xM <| gP Ajs <| gP xL <| gP Aju <| gP xD <| gP xM <| gP Abj <| gP xL <| gP Afw <| gP Afx <| gQ (xAl Am) ?_;refine Ke ?_;refine gZ (xSk Ab) ?_)|(refine AM (id:=25) 28 Bb (by kernel_rfl) ?_;dsimp only [List.take,List.drop];refine gP xL <| gP xD <| gP xM <| gP Abj <| gP xL <| gP xD <| gP xM <| gP Abj <| gP xL <| gP Afw <| gP Afx <| gP xM <| gP xD <| gP xF <| gP xD <| gP xM <| gP Afv <| gP xD <| gP xSb <| gP xF <| gP xD <| gP xM <| gP Afv <| gP xD <| gP xSb <| gP Afy <| gP (xCc func221 IX (args:=[_]) rfl) <| gP Afx ?_;refine Ke ?_;refine gZ (xSk Ab) ?_))
  exact CJ
 ·
  obtain ⟨a,hA0,ha0,hl0⟩:=B.a0 (by omega)
  have hl0:=hl0 (by omega)
  have hL0:=(gS.1 hA0).1
  obtain ⟨b,hA1,ha1,hl1⟩:=B.a1 (by omega)
  have hL1:=(gS.1 hA1).1
  have M0:=Dz mk xd t u c E y s s0 s1 sE 0 hA0 (by omega) (by omega) (by omega) (by omega) (by omega)
  obtain ⟨m0,hm0⟩:∃ m,mvP c.F E s (a:Int)=m:=⟨_,rfl⟩
  have t0:=Gd (F:=c.F) s0 s1 sE (a:Int)
  rw [hm0] at M0 t0
  have M1:=Dz mk xd t u c E y s s0 s1 sE 1 hA1 (by omega) (by omega) (by omega) (by omega) (by omega)
  obtain ⟨m1,hm1⟩:∃ m,mvP c.F E s (b:Int)=m:=⟨_,rfl⟩
  have t1:=Gd (F:=c.F) s0 s1 sE (b:Int)
  rw [hm1] at M1 t1
  have C:=Eg m0.1 m0.2 m1.1 m1.2 t0.ok t1.ok t0.lz t1.lz
  rw [show AF ps c.F c.R E y s=FW m0 m1 by unfold AF;rw [if_neg (by omega),if_neg (by omega),if_neg (by omega),if_neg (by omega),if_pos (by omega),ha0,ha1,hm0,hm1]]
  repeat' (with_reducible first|refine EG ?_|refine FI ?_|refine EZ ?_|refine FJ ?_|refine Gm ?_|(refine Tx 14 ?_;refine gO xEq <| gO xA ?_)|(refine Tx 15 ?_;refine gO xEq <| gO xA ?_)|(refine Tx 17 ?_;refine gO xEq <| gO xA ?_)|(refine Tx 19 ?_;refine gO xM <| gO (xCc func220 M0 (args:=[_]) rfl) <| gO xM <| gO (xCc func220 M1 (args:=[_]) rfl) <| gO (xCl func156 (C)) <| gZ (xSk Ab) ?_))
  exact CJ
 ·
  obtain ⟨a,hA0,ha0,hl0⟩:=B.a0 (by omega)
  have hl0:=hl0 (by omega)
  have hL0:=(gS.1 hA0).1
  obtain ⟨b,hA1,ha1,hl1⟩:=B.a1 (by omega)
  have hL1:=(gS.1 hA1).1
  have M0:=Dz mk xd t u c E y s s0 s1 sE 0 hA0 (by omega) (by omega) (by omega) (by omega) (by omega)
  obtain ⟨m0,hm0⟩:∃ m,mvP c.F E s (a:Int)=m:=⟨_,rfl⟩
  have t0:=Gd (F:=c.F) s0 s1 sE (a:Int)
  rw [hm0] at M0 t0
  have M1:=Dz mk xd t u c E y s s0 s1 sE 1 hA1 (by omega) (by omega) (by omega) (by omega) (by omega)
  obtain ⟨m1,hm1⟩:∃ m,mvP c.F E s (b:Int)=m:=⟨_,rfl⟩
  have t1:=Gd (F:=c.F) s0 s1 sE (b:Int)
  rw [hm1] at M1 t1
  have C:=Eg m0.1 m0.2 m1.1 m1.2 t0.ok t1.ok t0.lz t1.lz
  rw [show AF ps c.F c.R E y s=FW m0 m1 by unfold AF;rw [if_neg (by omega),if_neg (by omega),if_neg (by omega),if_neg (by omega),if_pos (by omega),ha0,ha1,hm0,hm1]]
  repeat' (with_reducible first|refine EG ?_|refine FI ?_|refine EZ ?_|refine FJ ?_|refine Gm ?_|(refine Tx 14 ?_;refine gO xEq <| gO xA ?_)|(refine Tx 15 ?_;refine gO xEq <| gO xA ?_)|(refine Tx 17 ?_;refine gO xEq <| gO xA ?_)|(refine Tx 18 ?_;refine gO xEq <| gO xA ?_)|(refine Tx 19 ?_;refine gO xM <| gO (xCc func220 M0 (args:=[_]) rfl) <| gO xM <| gO (xCc func220 M1 (args:=[_]) rfl) <| gO (xCl func156 (C)) <| gZ (xSk Ab) ?_))
  exact CJ
 ·
  obtain ⟨a,hA0,ha0,hl0⟩:=B.a0 (by omega)
  have hl0:=hl0 (by omega)
  have hL0:=(gS.1 hA0).1
  have M0:=Dz mk xd t u c E y s s0 s1 sE 0 hA0 (by omega) (by omega) (by omega) (by omega) (by omega)
  obtain ⟨m0,hm0⟩:∃ m,mvP c.F E s (a:Int)=m:=⟨_,rfl⟩
  have t0:=Gd (F:=c.F) s0 s1 sE (a:Int)
  rw [hm0] at M0 t0
  rw [show AF ps c.F c.R E y s=m0 by unfold AF;rw [if_neg (by omega),if_neg (by omega),if_neg (by omega),if_pos (by omega),ha0,hm0]]
  repeat' (with_reducible first|refine EG ?_|refine FI ?_|refine EZ ?_|refine FJ ?_|refine Gm ?_|(refine Tx 14 ?_;refine gO xEq <| gO xA ?_)|(refine Tx 15 ?_;refine gO xEq <| gO xA ?_)|(refine Tx 16 ?_;refine gO xM <| gO (xCc func220 M0 (args:=[_]) rfl) <| gZ (xSk Ab) ?_))
  exact CJ
 ·
  obtain ⟨a,hA0,ha0,hl0⟩:=B.a0 (by omega)
  have hl0:=hl0 (by omega)
  have hL0:=(gS.1 hA0).1
  have M0:=Dz mk xd t u c E y s s0 s1 sE 0 hA0 (by omega) (by omega) (by omega) (by omega) (by omega)
  obtain ⟨m0,hm0⟩:∃ m,mvP c.F E s (a:Int)=m:=⟨_,rfl⟩
  have t0:=Gd (F:=c.F) s0 s1 sE (a:Int)
  rw [hm0] at M0 t0
  have WH:=FZ y.vn y.ve s (B.sv (by omega)) s0 s1
  have WU:=FZ y.un y.ue s (B.su h) s0 s1
  have ib:=Pt (b:=(!BR y.vn y.ve s || !BR y.un y.ue s)) s0 s1
  have IX:=Ij (!BR y.vn y.ve s || !BR y.un y.ue s) s
  have C:=Eg m0.1 m0.2 (ixP (!BR y.vn y.ve s || !BR y.un y.ue s) s).1 (ixP (!BR y.vn y.ve s || !BR y.un y.ue s) s).2 t0.ok ib.ok t0.lz ib.lz
  rw [show AF ps c.F c.R E y s=FW m0 (ixP (!BR y.vn y.ve s || !BR y.un y.ue s) s) by unfold AF;rw [if_neg (by omega),if_neg (by omega),if_neg (by omega),if_neg (by omega),if_neg (by omega),if_neg (by omega),if_neg (by omega),if_pos h,ha0,hm0]]
  cases hw:BR y.vn y.ve s
  case false =>
   rw [hw] at WH IX C
   simp only [dw,et,iq,fp] at IX C
   simp only [dw,et,iq,fp]
   repeat' (with_reducible first|refine EG ?_|refine FI ?_|refine EZ ?_|refine FJ ?_|refine Gm ?_|(refine Tx 14 ?_;refine gO xEq <| gO xA ?_)|(refine Tx 15 ?_;refine gO xEq <| gO xA ?_)|(refine Tx 17 ?_;refine gO xEq <| gO xA ?_)|(refine Tx 18 ?_;refine gO xEq <| gO xA ?_)|(refine Tx 20 ?_;refine gO xEq <| gO xA ?_)|(refine Tx 22 ?_;refine gO xEq <| gO xA ?_)|(refine Tx 26 ?_;refine gO xEq <| gO xA ?_)|refine Acu ?_)
   exact CJ
  case true =>
   rw [hw] at WH IX C
   simp only [dw,et,iq,fp] at IX C
   simp only [dw,et,iq,fp]
   repeat' (with_reducible first|refine EG ?_|refine FI ?_|refine EZ ?_|refine FJ ?_|refine Gm ?_|(refine Tx 14 ?_;refine gO xEq <| gO xA ?_)|(refine Tx 15 ?_;refine gO xEq <| gO xA ?_)|(refine Tx 17 ?_;refine gO xEq <| gO xA ?_)|(refine Tx 18 ?_;refine gO xEq <| gO xA ?_)|(refine Tx 20 ?_;refine gO xEq <| gO xA ?_)|(refine Tx 22 ?_;refine gO xEq <| gO xA ?_)|(refine Tx 26 ?_;refine gO xEq <| gO xA ?_)|refine Acu ?_)
   exact CJ
theorem vfit {M E:Pq} {f:Int}:IG (Ep M E) f=decide (Bx (Ad (Ci M.1 M.2 E.1 E.2).1 (Ci M.1 M.2 E.1 E.2).2 f).1 (Ad (Ci M.1 M.2 E.1 E.2).1 (Ci M.1 M.2 E.1 E.2).2 f).2 2147483647 0≤0):=rfl
theorem YV (x:Pq) (sx:Sm x 40064 40000):CV prog Al 182 [aDy false x.1 x.2] [aDy false (upQ x).1 (upQ x).2]:=by
 refine cvz func182 ntmps182 ?_
 have CE:=QL x.1 x.2 62 sx.ok sx.lz (by decide)
 repeat' (with_reducible first|refine qq ?_|(refine Tx 0 ?_;refine gN xBo <| gN (xAl Am) ?_)|(refine Tx 1 ?_;refine gO xL <| gO (xCl func153 (CE)) <| gO xMt <| gO (by exact DS rfl rfl rfl) <| gO xEx <| gN (xAl Am) <| gZ (xSk Ab) <| gO xA ?_)|(refine Tx 2 ?_;refine gO xL <| gZ (xSk Ab) ?_))
 exact CJ
theorem Up (x:Pq) (sx:Sm x 41000 40000):CV prog Al 183 [aDy false x.1 x.2] [aB (YQ x)]:=by
 refine cvz func183 ntmps183 ?_
 have OF:=Em 1099511627776 (by decide) (by decide)
 have CM:=BJ x.1 x.2 1099511627776 0 sx.ok ⟨by decide,fun h=>absurd rfl h⟩ sx.lz (lT (Az (k:=2) (by decide)) (by decide))
 rw [show YQ x=decide (0<Bx x.1 x.2 1099511627776 0) from rfl]
 generalize Bx x.1 x.2 1099511627776 0=q at *
 repeat' (with_reducible first|refine qq ?_|(refine Tx 0 ?_;refine gN xBo <| gO xA ?_)|(refine Cj (id:=1) Bb (by kernel_rfl) ?_;refine gP xL <| gP (xCl func68 (OF)) <| gP (xCl func15 (CM)) <| gP (by first|exact AbM rfl rfl rfl|exact xGt) <| gP xA ?_;refine Ke ?_))
 exact Cc
theorem YW (k:p') (h:Hd9 p'→p:=by with_reducible first|(intro Z9;refine qq ?_;exact Z9.o)|(intro Z9;refine Tx 0 ?_;refine gN xBo <| gN xBo <| gO xA ?_;exact Z9.o)|(intro Z9;refine Tx 1 ?_;refine gO (xCl func68 (OF)) <| gN (xAl Am) <| gZ (xSk Ab) ?_;exact Z9.o)|fail):p:=h ⟨k⟩
theorem Acv (k:p') (h:Hd9 p'→p:=by with_reducible first|(intro Z9;refine Tx 2 ?_;refine gO xF <| gO xD <| gO xM <| gO (by first|exact xIr Ae (AY hFi)|exact xIr Ae (hIi)|exact xIr Ae (hEi)) <| gO xD <| gO xA ?_;exact Z9.o)|(intro Z9;refine Cj (id:=3) Bb (by kernel_rfl) ?_;refine gP xF <| gP xD <| gP xM <| gP (by first|exact xIr Af (hIi)|exact xIr Af (hEi)) <| gP xL <| gP (xCl func159 (MG)) <| gP xM <| gP xM <| gP (by first|exact xIr Ag (hIi)|exact xIr Ag (hEi)) <| gP xL <| gP (xCl func152 (AD1)) <| gP xM <| gP (xCl func21 (SH1)) <| gP xL <| gP (xCl func15 (CM1)) <| gP xGt ?_;refine Ke ?_;exact Z9.o)|fail):p:=h ⟨k⟩
theorem Ajw (h:p:=by first|exact xIr Af (hIi)|exact xIr Af (hEi)|exact xIr Af (hIa)|exact xIr Af (hEa)):p:=h
theorem Ajx (h:p:=by first|exact xIr Ag (hIi)|exact xIr Ag (hEi)|exact xIr Ag (hIa)|exact xIr Ag (hEa)):p:=h
theorem Ajy (h:p:=by first|exact xCl func152 (AD1)|exact xCl func152 (AD2)):p:=h
theorem Ajz (h:p:=by first|exact xCl func21 (SH1)|exact xCl func21 (SH2)):p:=h
theorem AjA (h:p:=by first|exact xCl func15 (CM1)|exact xCl func15 (CM2)):p:=h
theorem YX (t u:Bool) {ps:List Prt} {bs:List Bk} (os:List Int) (c:Ct) (E:List Pq) (hE:E.length=bs.length) (sE:∀ p∈E,Sm p LB LB) (i:Nat) {y:Bk} (hy:bs[i]?=some y) (B:Agm ps bs.length y) (hF:c.F.length=bs.length) (hR:c.R.length=bs.length) (sR:∀ p∈c.R,IwS p LB LB) (hn:bs.length≤1000000) (hs2:0≤scA c.F i∧scA c.F i≤30):CV prog Al 128 [aDg t ps bs os,.agg (dCt u c),.one (rowE E),aI (i:Int)] [aB (Afo c.F c.R E y i)]:=by
 refine cvz func128 ntmps128 ?_
 have hil:=(gS.1 hy).1
 have hFi:=SF (F:=c.F) (k:=i) (by omega)
 obtain ⟨s,hs⟩:∃ s,scA c.F i=s:=⟨_,rfl⟩
 rw [hs] at hFi
 have hBl:=B.len
 rw [hs] at hs2
 have hil2:i<c.R.length:=by omega
 have hIi:=Afu hil2
 have hEi:=Aft (E:=E) (k:=i) (by omega)
 have si:=Bl sR i
 have se:=En sE i
 obtain ⟨P,hP⟩:∃ P,c.R[i]?.getD iZ=P:=⟨_,rfl⟩
 obtain ⟨e,he⟩:∃ e,E[i]?.getD (0,0)=e:=⟨_,rfl⟩
 rw [hP] at si hIi
 rw [he] at se hEi
 have MG:=Hg P (si.more LBx LBx)
 have sg:=IH si
 obtain ⟨M,hM⟩:∃ M,DM P=M:=⟨_,rfl⟩
 rw [hM] at MG sg
 have OF:=Em 2147483647 (by decide) (by decide)
 have AD1:=CX M.1 M.2 e.1 e.2 sg.ok se.ok sg.lz se.lz
 have ss1:=Sm.sum sg se (by decide)
 obtain ⟨S1,hS1⟩:∃ S,Ci M.1 M.2 e.1 e.2=S:=⟨_,rfl⟩
 rw [hS1] at AD1 ss1
 have SH1:=Bo S1.1 S1.2 s ss1.ok ss1.lz (by have:=ss1.ok.1;omega)
 have st1:=EE ss1 hs2.1 hs2.2
 obtain ⟨T1,hT1⟩:∃ T,Ad S1.1 S1.2 s=T:=⟨_,rfl⟩
 rw [show Eh S1 s=T1 from hT1] at st1
 rw [hT1] at SH1
 have CM1:=BJ T1.1 T1.2 2147483647 0 st1.ok ⟨by decide,fun h=>absurd rfl h⟩ st1.lz (lT (Az (k:=2) (by decide)) (by decide))
 have sb1:IG (Ep M e) s=decide (Bx T1.1 T1.2 2147483647 0≤0):=by rw [vfit,hS1,hT1]
 generalize Bx T1.1 T1.2 2147483647 0=q1 at *
 have hb:Afo c.F c.R E y i=(decide (q1≤0) && (!decide (y.kind=11) || IG (Ep (rG c.R (BQ y)).2 (eG E (BQ y))) s)):=by unfold Afo;rw [hs,hP,he,hM,sb1]
 rw [hb]
 by_cases c1:q1≤0
 case neg =>
  rw [decide_eq_false c1,gh]
  repeat' (with_reducible first|refine YW ?_|refine Acv ?_|(refine Tx 4 ?_;refine gO xA ?_))
  exact Cc
 rw [decide_eq_true c1,dr]
 by_cases k11:y.kind=11
 case neg =>
  rw [decide_eq_false k11,dw,iq]
  repeat' (with_reducible first|refine YW ?_|refine Acv ?_|(refine Tx 5 ?_;refine gO xF <| gO xD <| gO xM <| gO (by first|exact xIr Ak (El hy)|exact xIr Ak (hIi)|exact xIr Ak (hEi)) <| gO xL <| gN (xAl BP) <| gZ (xSk BE) ?_)|(refine Tx 6 ?_;refine gO xF <| gO xD <| gO xNe ?_)|(refine Tx 7 ?_;refine gO xA ?_))
  exact Cc
 rw [decide_eq_true k11,et,fp]
 obtain ⟨a,hA0,ha0,hl0⟩:=B.a0 (by omega)
 have hl0:=hl0 (by omega)
 have hL0:=(gS.1 hA0).1
 rw [ha0,Uo,Ok]
 have hIa:=Afu (R:=c.R) (k:=a) (by omega)
 have hEa:=Aft (E:=E) (k:=a) (by omega)
 have sj:=Bl sR a
 have sf:=En sE a
 obtain ⟨Q,hQ⟩:∃ Q,c.R[a]?.getD iZ=Q:=⟨_,rfl⟩
 obtain ⟨f,hf⟩:∃ f,E[a]?.getD (0,0)=f:=⟨_,rfl⟩
 rw [hQ] at sj hIa
 rw [hf] at sf hEa
 rw [hQ,hf]
 have sq:=sj.s2
 have AD2:=CX Q.2.1 Q.2.2 f.1 f.2 sq.ok sf.ok sq.lz sf.lz
 have ss2:=Sm.sum sq sf (by decide)
 obtain ⟨S2,hS2⟩:∃ S,Ci Q.2.1 Q.2.2 f.1 f.2=S:=⟨_,rfl⟩
 rw [hS2] at AD2 ss2
 have SH2:=Bo S2.1 S2.2 s ss2.ok ss2.lz (by have:=ss2.ok.1;omega)
 have st2:=EE ss2 hs2.1 hs2.2
 obtain ⟨T2,hT2⟩:∃ T,Ad S2.1 S2.2 s=T:=⟨_,rfl⟩
 rw [show Eh S2 s=T2 from hT2] at st2
 rw [hT2] at SH2
 have CM2:=BJ T2.1 T2.2 2147483647 0 st2.ok ⟨by decide,fun h=>absurd rfl h⟩ st2.lz (lT (Az (k:=2) (by decide)) (by decide))
 have sb2:IG (Ep Q.2 f) s=decide (Bx T2.1 T2.2 2147483647 0≤0):=by rw [vfit,hS2,hT2]
 generalize Bx T2.1 T2.2 2147483647 0=q2 at *
 rw [sb2]
 repeat' (with_reducible first|refine YW ?_|(refine Tx 2 ?_;refine gO xF <| gO xD <| gO xM <| gO (by first|exact xIr Ae (AY hFi)|exact xIr Ae (hIi)|exact xIr Ae (hEi)|exact xIr Ae (hIa)|exact xIr Ae (hEa)) <| gO xD <| gO xA ?_)|(refine Cj (id:=3) Bb (by kernel_rfl) ?_;refine gP xF <| gP xD <| gP xM <| gP Ajw <| gP xL <| gP (xCl func159 (MG)) <| gP xM <| gP xM <| gP Ajx <| gP xL <| gP Ajy <| gP xM <| gP Ajz <| gP xL <| gP AjA <| gP xGt ?_;refine Ke ?_)|(refine Tx 5 ?_;refine gO xF <| gO xD <| gO xM <| gO (by first|exact xIr Ak (El hy)|exact xIr Ak (hIi)|exact xIr Ak (hEi)|exact xIr Ak (hIa)|exact xIr Ak (hEa)) <| gO xL <| gN (xAl BP) <| gZ (xSk BE) ?_)|(refine Tx 6 ?_;refine gO xF <| gO xD <| gO xNe ?_)|(refine Tx 8 ?_;refine gO xF <| gO xD <| gO (by first|exact xIr Ae (hIi)|exact xIr Ae (hEi)|exact xIr Ae (AY hA0)|exact xIr Ae (hIa)|exact xIr Ae (hEa)) <| gO xD <| gO xA ?_)|(refine Cj (id:=9) Bb (by kernel_rfl) ?_;refine gP xF <| gP xD <| gP xM <| gP Ajw <| gP xF <| gP xL <| gP xM <| gP xM <| gP Ajx <| gP xL <| gP Ajy <| gP xM <| gP Ajz <| gP xL <| gP AjA <| gP xLe <| gP xA ?_;refine Ke ?_))
 exact Cc
theorem Rb (k:p') (h:Hd9 p'→p:=by with_reducible first|(intro Z9;refine qq ?_;exact Z9.o)|(intro Z9;refine Tx 0 ?_;refine gN xBo <| gN xBo <| gO xA ?_;exact Z9.o)|(intro Z9;refine Tx 1 ?_;refine gO xL <| gO xL <| gO xM <| gO (xCl func125 (S1)) <| gO EF <| gO xA ?_;exact Z9.o)|fail):p:=h ⟨k⟩
theorem Uq (k:p') (h:Hd9 p'→p:=by with_reducible first|(intro Z9;refine Tx 3 ?_;refine gO xL <| gO xL <| gO xM <| gO (xCl func126 (S2)) <| gO EF <| gO xA ?_;exact Z9.o)|fail):p:=h ⟨k⟩
theorem YY (k:p') (h:Hd9 p'→p:=by with_reducible first|(intro Z9;refine Cj (id:=5) Bb (by kernel_rfl) ?_;refine gP xF <| gP xD <| gP xM <| gP (xIr Ag (hEi)) <| gP xL <| gP xL <| gP xL <| gP xF <| gP xD <| gP xM <| gP (xCl func127 (BD)) <| gP (xCl func15 (CM)) <| gP xLt <| gP xA ?_;refine Ke ?_;exact Z9.o)|fail):p:=h ⟨k⟩
theorem Rc (h:p:=by
 exact AE rfl (.cons_ (WW rfl rfl) .nil_)):p:=h
theorem Vu (t u:Bool) {ps:List Prt} {bs:List Bk} (os:List Int) (c:Ct) (i:Nat) {y:Bk} (hy:bs[i]?=some y) (B:Agm ps bs.length y) (ok:Alm bs c) (hn:bs.length≤1000000) (hpn:ps.length≤1000000):CV prog Al 50 [aDg t ps bs os,.agg (dCt u c),aI (i:Int)] [aI (IQ ps bs c i)]:=by
 refine cvz func50 ntmps50 ?_
 have hA:=Gz hy
 have hil:=(gS.1 hy).1
 have S1:=SJ t u os c i hy B ok.lF hn hpn
 have S2:=SL t u os c i hy B ok.lR ok.sR hn hpn
 unfold IQ
 rw [hA]
 dsimp only
 cases h1:DB ps c.F y i
 case false =>
  rw [h1] at S1
  rw [if_pos rfl]
  repeat' (with_reducible first|refine Rb ?_|(refine Tx 2 ?_;refine gO xA ?_))
  exact Rc
 rw [h1] at S1
 rw [if_neg (by decide)]
 have h1s:=h1
 unfold DB at h1s
 rw [aj,aj] at h1s
 have hs2:0≤scA c.F i∧scA c.F i≤30:=of_decide_eq_true h1s.1
 have hsa:y.kind≠0→∀ a∈y.args,0≤sG c.F a∧sG c.F a≤30:=fun k0 a ha=>by
   have h2:=h1s.2.1
   rw [decide_eq_false k0,fp] at h2
   exact of_decide_eq_true (List.all_eq_true.1 h2 a ha)
 cases h2:Cs ps c.R y i
 case false =>
  rw [h2] at S2
  rw [if_pos rfl]
  repeat' (with_reducible first|refine Rb ?_|refine Uq ?_|(refine Tx 4 ?_;refine gO xA ?_))
  exact Rc
 rw [h2] at S2
 rw [if_neg (by decide)]
 have BD:=Ik false (rowE c.E) t u os c c.E ok.lE ok.sE i hy B ok.lF ok.lR ok.sR hn hpn hs2 hsa
 have sb:=Pu (ps:=ps) (F:=c.F) (y:=y) hs2.1 hs2.2 ok.sR ok.sE (fun h6=>B.sv (by omega))
 have se:=En ok.sE i
 have hEi:=Aft (E:=c.E) (k:=i) (by have:=ok.lE;omega)
 have hlE:=ok.lE
 obtain ⟨e,he⟩:∃ e,c.E[i]?.getD (0,0)=e:=⟨_,rfl⟩
 rw [he] at se hEi
 rw [he]
 generalize AF ps c.F c.R c.E y (scA c.F i)=b at *
 have CM:=BJ e.1 e.2 b.1 b.2 se.ok sb.ok se.lz sb.lz
 rw [show Hd e b=Bx e.1 e.2 b.1 b.2 from rfl]
 generalize Bx e.1 e.2 b.1 b.2=q at *
 have FT:=YX t u os c c.E ok.lE ok.sE i hy B ok.lF ok.lR ok.sR hn hs2
 by_cases h3:q<0
 case pos =>
  rw [if_pos h3]
  repeat' (with_reducible first|refine Rb ?_|refine Uq ?_|refine YY ?_|(refine Tx 6 ?_;refine gO xA ?_))
  exact Rc
 rw [if_neg h3]
 cases h4:Afo c.F c.R c.E y i
 case false =>
  rw [h4] at FT
  rw [if_pos rfl]
  repeat' (with_reducible first|refine Rb ?_|refine Uq ?_|refine YY ?_|(refine Tx 7 ?_;refine gO xL <| gO xL <| gO xF <| gO xD <| gO xM <| gO (xCl func128 (FT)) <| gO EF <| gO xA ?_)|(refine Tx 8 ?_;refine gO xA ?_))
  exact Rc
 rw [h4] at FT
 rw [if_neg (by decide)]
 repeat' (with_reducible first|refine Rb ?_|refine Uq ?_|refine YY ?_|(refine Tx 7 ?_;refine gO xL <| gO xL <| gO xF <| gO xD <| gO xM <| gO (xCl func128 (FT)) <| gO EF <| gO xA ?_)|(refine Tx 9 ?_;refine gO xA ?_))
 exact Rc
section
variable {a b c e:Iq} {n d:Nat}
theorem Rd {x y:Int} (h:x*2 ^ GQ≤y*2 ^ GQ):x≤y:=Int.le_of_mul_le_mul_right h (AI GQ)
end
theorem Abk {x:Pq} {d:Nat} (hx:Sm x n d) (hd:d≤40000) {f:Int} (f0:0≤f) (f1:f≤30):IG x f=decide (gv x*2 ^ f.toNat≤2147483647*2 ^ GQ):=by
 have hle:x.2≤GQ:=hx.le
 have e:gv (Eh x f)=gv x*2 ^ f.toNat:=by
  have:=Ha (p:=x) (n:=f.toNat) hle (by omega)
  rwa [show ((f.toNat:Nat):Int)=f by omega] at this
 have hs:(Eh x f).2≤GQ:=(EE hx f0 f1).le
 unfold IG
 rw [io,decide_eq_true_eq,decide_eq_true_eq]
 rw [show Hd (Eh x f) (2147483647,0)≤0 ↔ _ from FA hs (by decide),e,Hb]
theorem AjB {x:Pq} (hx:x.2≤GQ) (h:0≤gv x):0≤gv (upQ x):=eb h (YS hx).1
theorem AjC {b:Bool} {s:Int}:0≤gv (ixP b s):=by
 unfold ixP
 split
 ·rename_i h
  by_cases hs : -65536 ≤ -s ∧ -s≤65536
  ·rw [IP hs.1 hs.2];exact au (AI _)
  ·unfold pw Ad
   unfold gv
   refine fq ?_ (au (AI _))
   have key:∀ (d:Nat) (m:Int),0≤m→0≤(nf m d).1:=fun d=>by
    induction d with
    | zero=>exact fun m h=>h
    | succ d ih =>
     intro m h
     unfold nf
     split
     ·exact ih _ (by omega)
     ·exact h
   split
   ·exact key _ _ (by decide)
   ·exact key _ _ (by have:=AI (max (-65536) (min (-s) 65536)).toNat;omega)
 ·exact Int.le_of_eq Dw.symm
section
variable {ps:List Prt} {bs:List Bk} {os:List Int} {F:List Int} {R:List Iq} {E E':List Pq} {y:Bk} {s:Int}
structure InE (E' E:List Pq):Prop where
 lo:∀ k:Nat,0≤gv (E'[k]?.getD (0,0))
 le:∀ k:Nat,gv (E'[k]?.getD (0,0))≤gv (E[k]?.getD (0,0))
theorem Afz (h0:0≤s) (h1:s≤30) (hE:∀ p∈E,Sm p LB LB) (hE':∀ p∈E',Sm p LB LB) (h:InE E' E) (a:Int):0≤gv (mvP F E' s a)∧gv (mvP F E' s a)≤gv (mvP F E s a):=by
 have l:=h.lo a.toNat
 have g:=h.le a.toNat
 unfold mvP
 split
 ·exact ⟨l,g⟩
 ·rw [show gv (Ep (eG E' a) (pw (-s)))=_ from EB (Eb hE' a).le (Ra h0 h1).le,show gv (Ep (eG E a) (pw (-s)))=_ from EB (Eb hE a).le (Ra h0 h1).le]
  have:=Aji h0 h1
  have:=AI (65536 - s.toNat)
  unfold eG
  omega
theorem GF {p q p' q':Pq} (h:p.2+q.2≤GQ) (h':p'.2+q'.2≤GQ) (p0:0≤gv p') (q0:0≤gv q') (hp:gv p'≤gv p) (hq:gv q'≤gv q):0≤gv (CA p' q')∧gv (CA p' q')≤gv (CA p q):=by
 have e:=Yj h
 have e':=Yj h'
 have m1:gv p'*gv q'≤gv p*gv q:=Int.mul_le_mul hp hq q0 (eb p0 hp)
 have m0:0≤gv p'*gv q':=fq p0 q0
 refine ⟨?_,Rd (by rw [show gv (CA p' q')*2 ^ GQ=_ from e',show gv (CA p q)*2 ^ GQ=_ from e];exact m1)⟩
 refine Rd ?_
 rw [Int.zero_mul,show gv (CA p' q')*2 ^ GQ=_ from e']
 exact m0
theorem AfA {a:Iq} {d:Nat} (h:IwS a n d):0≤gv (DM a):=by
 unfold DM
 rw [(HW h).2]
 omega
theorem Vv (h0:0≤s) (h1:s≤30) (hR:∀ p∈R,IwS p LB LB) (hE:∀ p∈E,Sm p LB LB) (hE':∀ p∈E',Sm p LB LB) (hv:y.kind=6→DJ y.vn y.ve) (h:InE E' E):0≤gv (AF ps F R E' y s)∧gv (AF ps F R E' y s)≤gv (AF ps F R E y s):=by
 have mv:=fun a=>Afz (F:=F) h0 h1 hE hE' h a
 have sE:=fun a=>Gd (F:=F) h0 h1 hE a
 have sE':=fun a=>Gd (F:=F) h0 h1 hE' a
 have ix:∀ b,(ixP b s).2≤GQ:=fun b=>(Pt h0 h1).le
 have ip:∀ b,0≤gv (ixP b s):=fun b=>AjC
 unfold AF
 split
 ·exact ⟨ip _,ci _⟩
 split
 ·exact ⟨ip _,ci _⟩
 split
 ·rw [show gv (Ep (mvP F E' s (BQ y)) (mvP F E' s (DX y)))=_ from EB (sE' _).le (sE' _).le,show gv (Ep (mvP F E s (BQ y)) (mvP F E s (DX y)))=_ from EB (sE _).le (sE _).le]
  have:=mv (BQ y);have:=mv (DX y)
  omega
 split
 ·exact mv _
 split
 ·rw [show gv (FW (mvP F E' s (BQ y)) (mvP F E' s (DX y)))=_ from DA (sE' _).le (sE' _).le,show gv (FW (mvP F E s (BQ y)) (mvP F E s (DX y)))=_ from DA (sE _).le (sE _).le]
  have:=mv (BQ y);have:=mv (DX y)
  omega
 split
 ·next h6 =>
  have sv:=(Fh (hv h6)).abs
  have m:=GF (p:=Hm (Ad y.vn 0 y.ve)) (p':=Hm (Ad y.vn 0 y.ve)) (q:=eG E (BQ y)) (q':=eG E' (BQ y)) (lT (dq sv.d (Eb hE _).d) (by decide)) (lT (dq sv.d (Eb hE' _).d) (by decide)) (by rw [QG];omega) (h.lo _) (ci _) (h.le _)
  have q1:(CA (Hm (Ad y.vn 0 y.ve)) (eG E (BQ y))).2≤GQ:=(Sm.mul sv (Eb hE _) (by decide)).le
  have q2:(CA (Hm (Ad y.vn 0 y.ve)) (eG E' (BQ y))).2≤GQ:=(Sm.mul sv (Eb hE' _) (by decide)).le
  rw [show gv (Ep (CA (Hm (Ad y.vn 0 y.ve)) (eG E' (BQ y))) _)=_ from EB q2 (ix _),show gv (Ep (CA (Hm (Ad y.vn 0 y.ve)) (eG E (BQ y))) _)=_ from EB q1 (ix _)]
  have:=ip (decide (s - sG F (BQ y)+y.ve<0))
  omega
 split
 ·have sM:=fun a=>IH (Afp hR a)
  have pM:=fun a=>AfA (Afp hR a)
  have m1:∀ a b,0≤gv (CA (DM (rG R a)) (eG E' b))∧gv (CA (DM (rG R a)) (eG E' b))≤gv (CA (DM (rG R a)) (eG E b)):=fun a b=>GF (lT (dq (sM a).d (Eb hE b).d) (by decide)) (lT (dq (sM a).d (Eb hE' b).d) (by decide)) (pM a) (h.lo _) (ci _) (h.le _)
  have m2:∀ a b,0≤gv (CA (eG E' a) (eG E' b))∧gv (CA (eG E' a) (eG E' b))≤gv (CA (eG E a) (eG E b)):=fun a b=>GF (lT (dq (Eb hE a).d (Eb hE b).d) (by decide)) (lT (dq (Eb hE' a).d (Eb hE' b).d) (by decide)) (h.lo _) (h.lo _) (h.le _) (h.le _)
  have key:∀ E0:List Pq,(∀ p∈E0,Sm p LB LB)→gv (Ep (Ep (Ep (CA (DM (rG R (BQ y))) (eG E0 (DX y))) (CA (DM (rG R (DX y))) (eG E0 (BQ y)))) (CA (eG E0 (BQ y)) (eG E0 (DX y)))) (ixP (decide (s - sG F (BQ y) - sG F (DX y)<0)) s))=gv (CA (DM (rG R (BQ y))) (eG E0 (DX y)))+gv (CA (DM (rG R (DX y))) (eG E0 (BQ y)))+gv (CA (eG E0 (BQ y)) (eG E0 (DX y)))+gv (ixP (decide (s - sG F (BQ y) - sG F (DX y)<0)) s):=fun E0 h0=>by
   have a1:∀ a b,Sm (CA (DM (rG R a)) (eG E0 b)) 8192 8192:=fun a b=>Sm.mul (sM a) (Eb h0 b) (by decide)
   have a2:∀ a b,Sm (CA (eG E0 a) (eG E0 b)) 8192 8192:=fun a b=>Sm.mul (Eb h0 a) (Eb h0 b) (by decide)
   have s1:=Sm.sum (a1 (BQ y) (DX y)) (a1 (DX y) (BQ y)) (by decide)
   have s2:=Sm.sum s1 ((a2 (BQ y) (DX y)).more (n':=16385) (d':=8192) (by decide) (by decide)) (by decide)
   rw [show gv (Ep (Ep (Ep (CA (DM (rG R (BQ y))) (eG E0 (DX y))) (CA (DM (rG R (DX y))) (eG E0 (BQ y)))) (CA (eG E0 (BQ y)) (eG E0 (DX y)))) _)=_ from EB s2.le (ix _),show gv (Ep (Ep (CA (DM (rG R (BQ y))) (eG E0 (DX y))) (CA (DM (rG R (DX y))) (eG E0 (BQ y)))) (CA (eG E0 (BQ y)) (eG E0 (DX y))))=_ from EB s1.le (a2 _ _).le,show gv (Ep (CA (DM (rG R (BQ y))) (eG E0 (DX y))) (CA (DM (rG R (DX y))) (eG E0 (BQ y))))=_ from EB (a1 _ _).le (a1 _ _).le]
  rw [key E hE,key E' hE']
  have:=m1 (BQ y) (DX y);have:=m1 (DX y) (BQ y);have:=m2 (BQ y) (DX y);have:=ip (decide (s - sG F (BQ y) - sG F (DX y)<0))
  omega
 have mx:∀ b,gv (FW (mvP F E' s (BQ y)) (ixP b s))=max (gv (mvP F E' s (BQ y))) (gv (ixP b s))∧gv (FW (mvP F E s (BQ y)) (ixP b s))=max (gv (mvP F E s (BQ y))) (gv (ixP b s)):=fun b=>⟨DA (sE' _).le (ix _),DA (sE _).le (ix _)⟩
 split
 ·rw [(mx _).1,(mx _).2]
  have:=mv (BQ y);have:=ip (!BR y.vn y.ve s || !BR y.un y.ue s)
  omega
 ·rw [(mx _).1,(mx _).2]
  have:=mv (BQ y);have:=ip (!BR y.vn y.ve s)
  omega
end
structure Abl (ps:List Prt) (bs:List Bk) (os:List Int) (c:Ct):Prop where
 he:AP ps bs os=0
 ok:Alm bs c
 ver:∀ i,i<bs.length→IQ ps bs c i=0
section
variable {ps:List Prt} {bs:List Bk} {os:List Int} {c:Ct}
theorem Vw (h:∀ p∈E,Sm p 128 62):∀ p∈E,Sm p LB LB:=fun p hp=>(h p hp).more (by decide) (by decide)
end
theorem GG:∀ {l:List Int},(∀ x∈l,x=0)→Ap l=0
 | [],_=>rfl
 | x::l,h=>by
  unfold Ap
  rw [if_pos (h x (fc ..))]
  exact GG fun y hy=>h y (ea _ hy)
section
variable {P:Program} {F:Frm} {H:List Ob}
theorem Aln {t:Tmp} {ty' k:Nat} {x y:Int} (hk:TyK P ty true k) (hi:2=k:=by rfl) (hF:F t=.one (.ref id 0 none):=by with_unfolding_all exact rfl) (hH:H[id]?=some (.box ty' [.d (.val (.int .i64 x)),.d (.val (.int .i64 y))]):=by with_unfolding_all exact rfl):RV P F H (.cell t ty) (.agg [dI x,dI y]):=by
 obtain ⟨⟨dd,hu,hd⟩,hz⟩:=hk
 exact .cellA hF hH hu hd (by rw [hz,←hi];rfl) (.cons_ (.d fun _=>.val _) (.cons_ (.d fun _=>.val _) .nil_))
end
def dCr (u:Bool) (F:List Int) (qs:List (Rv × Rv)) (rs:List Rv):List D:=[Bw u F,VP qs,Aiw rs]
def MJ (q:Rv × Rv) (r:Rv):Int:=if ivC q=false∨vdB r.rw=false∨sgI (rvP r).1<0 then 2 else if Dr (rvP r)=true∨Dr (rvP q.1)=true∨Dr (rvP q.2)=true then 4 else 0
def ckL (qs:List (Rv × Rv)) (rs:List Rv):Int:=Ap (List.zipWith MJ qs rs)
def ckE (ps:List Prt) (bs:List Bk) (os:List Int) (F:List Int) (qs:List (Rv × Rv)) (rs:List Rv):Int :=
 if AP ps bs os≠0 then AP ps bs os else if F.length=bs.length∧qs.length=bs.length∧rs.length=bs.length then ckL qs rs else 11
def YZ (F:List Int) (qs:List (Rv × Rv)) (rs:List Rv):Ct:=⟨F,qs.map ivQ,rs.map rvP⟩
theorem Za {k:Nat} {q:Rv × Rv} (h1:qs[k]?=some q) (h2:rs[k]?=some r):(List.zipWith MJ qs rs)[k]?=some (MJ q r):=by rw [List.getElem?_zipWith,h1,h2]
theorem AjD {k:Nat} {q:Rv × Rv} (h:∀ j x,j<k→(List.zipWith MJ qs rs)[j]?=some x→x=0) (h1:qs[k]?=some q) (h2:rs[k]?=some r) (h0:MJ q r≠0):ckL qs rs=MJ q r:=Sl h (Za h1 h2) h0
theorem AfB (hr:RvL r) (hv:vdB r.rw=true):dRv false r=dyP (rvP r)∧Nf (rvP r).1 (rvP r).2∧(Aa (rvP r).1.natAbs).length≤40000:=by
 obtain ⟨a,b,c⟩:=XZ (t:=false) hr.1 hv
 exact ⟨a,b,by rw [show (rvP r).1=r.rw.x from rfl,c];exact hr.2⟩
theorem AjE (hq:∀ q∈qs,RvL q.1∧RvL q.2) (hr:∀ r∈rs,RvL r) (h:ckE ps bs os F qs rs=0):AP ps bs os=0∧Alm bs (YZ F qs rs)∧dCr false F qs rs=dCt false (YZ F qs rs)∧(∀ q∈qs,ivC q=true)∧(∀ r∈rs,vdB r.rw=true):=by
 unfold ckE at h
 by_cases h0:AP ps bs os=0
 case neg=>rw [if_pos h0] at h;exact absurd h h0
 rw [if_neg (not_not_intro h0)] at h
 by_cases hl:F.length=bs.length∧qs.length=bs.length∧rs.length=bs.length
 case neg=>rw [if_neg hl] at h;cases h
 rw [if_pos hl] at h
 obtain ⟨l1,l2,l3⟩:=hl
 have hz:=CU h
 have key:∀ (k:Nat) (q:Rv × Rv) (r:Rv),qs[k]?=some q→rs[k]?=some r→ivC q=true∧vdB r.rw=true∧0≤sgI (rvP r).1∧Dr (rvP r)=false∧Dr (rvP q.1)=false∧Dr (rvP q.2)=false:=fun k q r h1 h2=>by
  have h3:=hz _ (gM (Za h1 h2))
  unfold MJ at h3
  by_cases c1:ivC q=false∨vdB r.rw=false∨sgI (rvP r).1<0
  ·rw [if_pos c1] at h3;cases h3
  rw [if_neg c1] at h3
  by_cases c2:Dr (rvP r)=true∨Dr (rvP q.1)=true∨Dr (rvP q.2)=true
  ·rw [if_pos c2] at h3;cases h3
  simp only [not_or,jo,bc,Int.not_lt] at c1 c2
  exact ⟨c1.1,c1.2.1,c1.2.2,c2.1,c2.2.1,c2.2.2⟩
 have kq:∀ q∈qs,∃r,r∈rs∧ivC q=true∧Dr (rvP q.1)=false∧Dr (rvP q.2)=false:=fun q hm=>by
  obtain ⟨k,hk⟩:=fb hm
  obtain ⟨r,hr⟩:∃ r,rs[k]?=some r:=⟨_,gE (by have:=(gS.1 hk).1;omega)⟩
  have:=key k q r hk hr
  exact ⟨r,gM hr,this.1,this.2.2.2.2.1,this.2.2.2.2.2⟩
 have kr:∀ r∈rs,vdB r.rw=true∧0≤sgI (rvP r).1∧Dr (rvP r)=false:=fun r hm=>by
  obtain ⟨k,hk⟩:=fb hm
  obtain ⟨q,hq⟩:∃ q,qs[k]?=some q:=⟨_,gE (by have:=(gS.1 hk).1;omega)⟩
  have:=key k q r hq hk
  exact ⟨this.2.1,this.2.2.1,this.2.2.2.1⟩
 refine ⟨h0,⟨l1,by show (qs.map ivQ).length=_;rw [af];exact l2,by show (rs.map rvP).length=_;rw [af];exact l3,fun p hp=>?_,fun p hp=>?_,fun p hp=>?_⟩,?_,fun q hm=>(kq q hm).choose_spec.2.1,fun r hm=>(kr r hm).1⟩
 ·obtain ⟨q,hm,rfl⟩:=List.mem_map.1 hp
  obtain ⟨_,_,v,g1,g2⟩:=kq q hm
  exact Og (QU (hq q hm).1 (hq q hm).2 v).1 (by unfold Eo;rw [show Dr (ivQ q).1=false from g1,show Dr (ivQ q).2=false from g2];rfl)
 ·obtain ⟨r,hm,rfl⟩:=List.mem_map.1 hp
  obtain ⟨v,_,g⟩:=kr r hm
  exact AeS (AfB (hr r hm) v).2.1 g
 ·obtain ⟨r,hm,rfl⟩:=List.mem_map.1 hp
  obtain ⟨_,g,_⟩:=kr r hm
  have hx:0≤(rvP r).1:=df fun hn=>by rw [show sgI (rvP r).1 = -1 by unfold sgI;(repeat' split) <;> omega] at g;omega
  exact fq hx (au (AI _))
 ·unfold dCr dCt YZ VP Aiw
  have e1:Ay (dIr false) qs=Ay (dIw false) (qs.map ivQ):=by
   unfold Ay
   rw [de]
   congr 1
   exact dz fun q hm=>by
    obtain ⟨_,_,v,_⟩:=kq q hm
    exact (QU (hq q hm).1 (hq q hm).2 v).2.1
  have e2:Ay (dRv false) rs=Ay dyP (rs.map rvP):=by
   unfold Ay
   rw [de]
   congr 1
   exact dz fun r hm=>(AfB (hr r hm) (kr r hm).1).1
  rw [e1,e2]
  simp only [af]
def vfK (ps:List Prt) (bs:List Bk) (c:Ct):Option Nat:=(List.range bs.length).find? fun i=>decide (IQ ps bs c i≠0)
def vfF (ps:List Prt) (bs:List Bk) (c:Ct):Int × Int:=match vfK ps bs c with
 | none=>(0,0)
 | some i=>(IQ ps bs c i,(i:Int))
theorem SM {c:Ct}:vfK ps bs c=none ↔ ∀ i,i<bs.length→IQ ps bs c i=0:=by
 unfold vfK
 rw [List.find?_eq_none]
 simp
theorem AfC {c:Ct} {k:Nat} (hk:k<bs.length) (h:∀ i,i<k→IQ ps bs c i=0) (h0:IQ ps bs c k≠0):vfK ps bs c=some k:=by
 unfold vfK
 rw [List.find?_range_eq_some]
 exact ⟨by simpa using h0,List.mem_range.2 hk,fun j hj=>by simp [h j hj]⟩
def vfE (ps:List Prt) (bs:List Bk) (os F:List Int) (qs:List (Rv × Rv)) (rs:List Rv):Bool:=decide (ckE ps bs os F qs rs=0) && (vfK ps bs (YZ F qs rs)).isNone
def vfP (ps:List Prt) (bs:List Bk) (os F:List Int) (qs:List (Rv × Rv)) (rs:List Rv):Int × Int:=if ckE ps bs os F qs rs=0 then vfF ps bs (YZ F qs rs) else (0,0)
theorem AfD (hq:∀ q∈qs,RvL q.1∧RvL q.2) (hr:∀ r∈rs,RvL r) (h:vfE ps bs os F qs rs=true):Abl ps bs os (YZ F qs rs):=by
 unfold vfE at h
 rw [aj,decide_eq_true_eq,kj] at h
 obtain ⟨a,b,_⟩:=AjE hq hr h.1
 exact ⟨a,b,SM.1 h.2⟩
theorem MM (x:Pq) (n1:Nf x.1 x.2) (l1:(Aa x.1.natAbs).length≤40000):CV prog Al 124 [aDy false x.1 x.2] [aB (Dr x)]:=by
 refine cvz func124 ntmps124 ?_
 have B1:=Li x.1 x.2 n1 l1
 have hm:decide ((4096:Int)<max ((Be x.1.natAbs:Nat):Int) (x.2:Int))=Dr x:=by unfold Dr AeK;rw [io,decide_eq_true_eq,decide_eq_true_eq];omega
 repeat' (with_reducible first|refine qq ?_|(refine Tx 0 ?_;refine gN xBo <| gO xA ?_)|(refine Cj (id:=1) Bb (by kernel_rfl) ?_;refine gP xL <| gP (xCl func212 (B1)) <| gP xF <| gP xD <| gP (by exact Gs rfl rfl rfl) <| gP (by first|exact OJ rfl rfl rfl hm|exact xGt) <| gP xA ?_;refine Ke ?_))
 exact Cc
theorem Re (k:p') (h:Hd9 p'→p:=by with_reducible first|(intro Z9;refine Tx 0 ?_;refine gN xBo <| gN xBo <| gO xA ?_;exact Z9.o)|(intro Z9;refine Tx 1 ?_;refine gO xL <| gO (xCl func35 (CK)) <| gO xA ?_;exact Z9.o)|fail):p:=h ⟨k⟩
theorem Ur (k:p') (h:Hd9 p'→p:=by with_reducible first|(intro Z9;refine Tx 2 ?_;refine gO xM <| gO (xNE Ai) ?_;exact Z9.o)|(intro Z9;refine Tx 4 ?_;refine gO xF <| gO xD <| gO xN <| gO xA ?_;exact Z9.o)|(intro Z9;refine Tx 5 ?_;refine gO xF <| gO xD <| gO xN <| gO xM <| gO xNe <| gO xM ?_;(first|iterate 5 refine Jd ?_|(refine Jy (xFa Ty BX) ?_;refine Jy (xLd BX) ?_;refine Jy (xLn Af) ?_;refine Jy xM1 ?_;refine Jy xNe ?_));refine gO xPk <| gO xM ?_;(first|iterate 5 refine Jd ?_|(refine Jy (xFa Ed AN) ?_;refine Jy (xLd AN) ?_;refine Jy (xLn Ag) ?_;refine Jy xM1 ?_;refine Jy xNe ?_));refine gO xPk ?_;exact Z9.o)|fail):p:=h ⟨k⟩
theorem AjF (h:p:=by first|exact xIr Ag (QT hq)|exact xIr Ag (AaI hr)):p:=h
theorem Acw (k:p') (h:Hd9 p'→p:=by with_reducible first|(intro Z9;refine Tx 9 ?_;refine gO xM <| gO (by first|exact xIr Af (QT hq)|exact xIr Af (AaI hr)) <| gO xL <| gN (xAl Ah) <| gO xA <| gZ (xSk Ac) ?_;exact Z9.o)|(intro Z9;refine Tx 10 ?_;refine gO xL <| gO (xCl func122 (VI)) <| gO EF <| gO xM ?_;(first|iterate 7 refine Jd ?_|(refine Jy (xFa Ed AN) ?_;refine Jy (xLd AN) ?_;refine Jy xM1 ?_;refine Jy AjF ?_;refine Jy (xLa Ab) ?_;refine Jy (xCl func123 (VD)) ?_;refine Jy EF ?_));refine gO xPk <| gO xM ?_;(first|iterate 5 refine Jd ?_|(refine Jy (xFa Ed AN) ?_;refine Jy (xLd AN) ?_;refine Jy xM1 ?_;refine Jy AjF ?_;refine Jy (xLa Ab) ?_));refine Jd ?_;(first|refine Jd ?_|refine Jy xLt ?_);refine gO xPk ?_;exact Z9.o)|fail):p:=h ⟨k⟩
theorem AfE (h:p:=by first|exact xCl func124 (LR)|exact xCl func124 (L1)|exact xCl func124 (L2)):p:=h
theorem AfF (h:p:=by first|exact xIr Ag (hia)|exact xIr Ag (hra)):p:=h
theorem Us (k:p') (h:Hd9 p'→p:=by with_reducible first|(intro Z9;refine Tx 9 ?_;refine gO xM <| gO (by first|exact xIr Af (hia)|exact xIr Af (hra)) <| gO xL <| gN (xAl Ah) <| gO xA <| gZ (xSk Ac) ?_;exact Z9.o)|(intro Z9;refine Tx 10 ?_;refine gO xL <| gO (xCl func122 (VI2)) <| gO EF <| gO xM ?_;(first|iterate 7 refine Jd ?_|(refine Jy (xFa Ed AN) ?_;refine Jy (xLd AN) ?_;refine Jy xM1 ?_;refine Jy AfF ?_;refine Jy (xLa Ab) ?_;refine Jy (xCl func123 (VD2)) ?_;refine Jy EF ?_));refine gO xPk <| gO xM ?_;(first|iterate 7 refine Jd ?_|(refine Jy (xFa Ed AN) ?_;refine Jy (xLd AN) ?_;refine Jy xM1 ?_;refine Jy AfF ?_;refine Jy (xLa Ab) ?_;refine Jy (xCl func55 (SG)) ?_;refine Jy xLt ?_));refine gO xPk ?_;exact Z9.o)|(intro Z9;refine Tx 12 ?_;refine gO xF <| gO xD <| gO xM <| gO AfF <| gO xL <| gO AfE <| gO xM ?_;(first|iterate 3 refine Jd ?_|(refine Jy (xFa Dp Ab) ?_;refine Jy (xLa Ab) ?_;refine Jy AfE ?_));refine gO xPk <| gO xM ?_;(first|iterate 3 refine Jd ?_|(refine Jy (xFa Bj Ab) ?_;refine Jy (xLa Ab) ?_;refine Jy AfE ?_));refine gO xPk ?_;exact Z9.o)|fail):p:=h ⟨k⟩
theorem Hi (h:p:=by
 exact AE rfl (.cons_ (Aah rfl (by decide) rfl) .nil_)):p:=h
theorem AjG (h:p:=by first|exact Bh rfl Ai rfl (Fp h0)|exact Bh rfl Ai rfl (Mc (by first|rfl|omega))|exact Bh rfl Ai rfl (Fp (by first|assumption|omega))|exact Bh rfl Ai rfl rfl):p:=h
theorem AjH (h:p:=by first|exact xIr Ag (QT hq)|exact xIr Ag (hra)):p:=h
theorem Vx (t u:Bool) {ps:List Prt} {bs:List Bk} {os:List Int} (hl:Ff ps bs os) (F:List Int) (qs:List (Rv × Rv)) (rs:List Rv) (hwq:∀ q∈qs,RvL q.1∧RvL q.2) (hwr:∀ r∈rs,RvL r) (hFl:F.length≤1000000) (hQl:qs.length≤1000000) (hRl:rs.length≤1000000):CV prog Al 49 [aDg t ps bs os,.agg (dCr u F qs rs)] [aE (ckE ps bs os F qs rs)]:=by
 refine cvz func49 ntmps49 ?_
 have CK:=(Fz t hl).cv
 have hl1:=hl.l1
 have hl2:=hl.l2
 by_cases h0:AP ps bs os=0
 case neg =>
  have hb:ckE ps bs os F qs rs=AP ps bs os:=by unfold ckE;rw [if_pos h0]
  rw [hb]
  repeat' (with_reducible first|refine qq ?_|refine Re ?_|(refine Tx 2 ?_;refine gO xM <| gO AjG ?_)|(refine Tx 3 ?_;refine gO xM <| gO xA ?_))
  exact AE rfl (.cons_ (ZB rfl rfl) .nil_)
 rw [h0] at CK
 by_cases hF:F.length=bs.length
 case neg =>
  have hb:ckE ps bs os F qs rs=11:=by unfold ckE;rw [if_neg (not_not_intro h0),if_neg (fun h=>hF h.1)]
  rw [hb]
  repeat' (with_reducible first|refine qq ?_|refine Re ?_|refine Ur ?_|(refine Tx 6 ?_;refine gO (xMi underlying109) <| gO xA ?_))
  exact Hi
 by_cases hQ:qs.length=bs.length
 case neg =>
  have hb:ckE ps bs os F qs rs=11:=by unfold ckE;rw [if_neg (not_not_intro h0),if_neg (fun h=>hQ h.2.1)]
  rw [hb]
  repeat' (with_reducible first|refine qq ?_|refine Re ?_|refine Ur ?_|(refine Tx 6 ?_;refine gO (xMi underlying109) <| gO xA ?_))
  exact Hi
 by_cases hR:rs.length=bs.length
 case neg =>
  have hb:ckE ps bs os F qs rs=11:=by unfold ckE;rw [if_neg (not_not_intro h0),if_neg (fun h=>hR h.2.2)]
  rw [hb]
  repeat' (with_reducible first|refine qq ?_|refine Re ?_|refine Ur ?_|(refine Tx 6 ?_;refine gO (xMi underlying109) <| gO xA ?_))
  exact Hi
 have hb:ckE ps bs os F qs rs=ckL qs rs:=by unfold ckE;rw [if_neg (not_not_intro h0),if_pos ⟨hF,hQ,hR⟩]
 rw [hb]
 repeat' (with_reducible first|refine qq ?_|refine Re ?_|refine Ur ?_|(refine Tx 7 ?_;refine gO xF <| gO xD <| gO xN <| gO xM ?_))
 refine Bm (Cb 2) (Aw (fun n Fr H=>∃ k:Nat,k≤qs.length∧n=qs.length - k∧(∀ (j:Nat) (x:Int),j<k→(List.zipWith MJ qs rs)[j]?=some x→x=0)∧Fr=ofL [(3,vr 1),(38,vd (VP qs)),(39,vi qs.length),(40,vi ((k:Nat)))]∧H=[.box 26 [.d (EP t ps),.d (Ee t bs),.d (Bw t os)],.box 30 [.d (Bw u F),.d (VP qs),.d (Aiw rs)]]) (n0:=qs.length) ⟨0,ad _,rfl,(fun j x hj=>absurd hj (gl _)),rfl,rfl⟩ ?_)
 rintro n Fr H ⟨k,hk,rfl,hz,rfl,rfl⟩
 by_cases hlt:k<qs.length
 case pos =>
  obtain ⟨q,hq⟩:∃ q,qs[k]?=some q:=⟨_,gE hlt⟩
  obtain ⟨r,hr⟩:∃ r,rs[k]?=some r:=⟨_,gE (by omega)⟩
  have wq:=hwq q (gM hq)
  have wr:=hwr r (gM hr)
  have VI:CV prog Al 122 [.agg (dIr false q)] [aB (ivC q)]:=FX q.1 q.2 wq.1 wq.2
  have VD:=(Mn (G:=Al) false r wr.1 (by have:=wr.2;omega)).cv
  have hit:=AjD hz hq hr
  cases h1:ivC q
  case false =>
   have hc:MJ q r=2:=by unfold MJ;rw [if_pos (.inl h1)]
   rw [hit (by rw [hc];decide),hc]
   rw [h1] at VI
   repeat' (with_reducible first|refine qq ?_|(refine Tx 8 ?_;refine gO xLt ?_)|refine Acw ?_|(refine Tx 11 ?_;refine gO (xMi underlying109) <| gO xA ?_))
   exact Hi
  rw [h1] at VI
  cases h2:vdB r.rw
  case false =>
   have hc:MJ q r=2:=by unfold MJ;rw [if_pos (.inr (.inl h2))]
   rw [hit (by rw [hc];decide),hc]
   rw [h2] at VD
   repeat' (with_reducible first|refine qq ?_|(refine Tx 8 ?_;refine gO xLt ?_)|refine Acw ?_|(refine Tx 11 ?_;refine gO (xMi underlying109) <| gO xA ?_))
   exact Hi
  rw [h2] at VD
  obtain ⟨d0,n0,m0⟩:=AfB wr h2
  have SG:=He (rvP r).1 (rvP r).2 n0 m0
  have hra:=AaI hr
  have hra:=AaI hr
  have VD2:CV prog Al 123 [.agg (dyP (rvP r))] [aB true]:=by rw [←d0];exact VD
  rw [d0] at hra
  by_cases h3:sgI (rvP r).1<0
  case pos =>
   have hc:MJ q r=2:=by unfold MJ;rw [if_pos (.inr (.inr h3))]
   rw [hit (by rw [hc];decide),hc]
   repeat' (with_reducible first|refine qq ?_|(refine Tx 8 ?_;refine gO xLt ?_)|(refine Tx 9 ?_;refine gO xM <| gO (by first|exact xIr Af (QT hq)|exact xIr Af (hra)) <| gO xL <| gN (xAl Ah) <| gO xA <| gZ (xSk Ac) ?_)|(refine Tx 10 ?_;refine gO xL <| gO (xCl func122 (VI)) <| gO EF <| gO xM ?_;(first|iterate 7 refine Jd ?_|(refine Jy (xFa Ed AN) ?_;refine Jy (xLd AN) ?_;refine Jy xM1 ?_;refine Jy AjH ?_;refine Jy (xLa Ab) ?_;refine Jy (xCl func123 (VD2)) ?_;refine Jy EF ?_));refine gO xPk <| gO xM ?_;(first|iterate 7 refine Jd ?_|(refine Jy (xFa Ed AN) ?_;refine Jy (xLd AN) ?_;refine Jy xM1 ?_;refine Jy AjH ?_;refine Jy (xLa Ab) ?_;refine Jy (xCl func55 (SG)) ?_;refine Jy xLt ?_));refine gO xPk ?_)|(refine Tx 11 ?_;refine gO (xMi underlying109) <| gO xA ?_))
   exact Hi
  obtain ⟨sw,hdy,lw1,lw2⟩:=QU wq.1 wq.2 h1
  have hia:=QT hq
  have VI2:CV prog Al 122 [.agg (dIw false (ivQ q))] [aB true]:=by rw [←hdy];exact VI
  rw [hdy] at hia
  have LR:=MM (rvP r) n0 m0
  have L1:=MM (rvP q.1) sw.s1.ok lw1
  have L2:=MM (rvP q.2) sw.s2.ok lw2
  have hn2:¬ (ivC q=false∨vdB r.rw=false∨sgI (rvP r).1<0):=by rw [h1,h2];simpa using h3
  cases h4:Dr (rvP r)
  case true =>
   have hc:MJ q r=4:=by unfold MJ;rw [if_neg hn2,if_pos (.inl h4)]
   rw [hit (by rw [hc];decide),hc]
   rw [h4] at LR
   repeat' (with_reducible first|refine qq ?_|(refine Tx 8 ?_;refine gO xLt ?_)|refine Us ?_|(refine Tx 13 ?_;refine gO (xMi underlying109) <| gO xA ?_))
   exact Hi
  rw [h4] at LR
  cases h5:Dr (rvP q.1)
  case true =>
   have hc:MJ q r=4:=by unfold MJ;rw [if_neg hn2,if_pos (.inr (.inl h5))]
   rw [hit (by rw [hc];decide),hc]
   rw [h5] at L1
   repeat' (with_reducible first|refine qq ?_|(refine Tx 8 ?_;refine gO xLt ?_)|refine Us ?_|(refine Tx 13 ?_;refine gO (xMi underlying109) <| gO xA ?_))
   exact Hi
  rw [h5] at L1
  cases h6:Dr (rvP q.2)
  case true =>
   have hc:MJ q r=4:=by unfold MJ;rw [if_neg hn2,if_pos (.inr (.inr h6))]
   rw [hit (by rw [hc];decide),hc]
   rw [h6] at L2
   repeat' (with_reducible first|refine qq ?_|(refine Tx 8 ?_;refine gO xLt ?_)|refine Us ?_|(refine Tx 13 ?_;refine gO (xMi underlying109) <| gO xA ?_))
   exact Hi
  rw [h6] at L2
  have hc:MJ q r=0:=by unfold MJ;rw [if_neg hn2,if_neg (by simp [h4,h5,h6])]
  repeat' (with_reducible first|refine qq ?_|(refine Tx 8 ?_;refine gO xLt ?_)|refine Us ?_|(refine Tx 14 ?_;refine gO xAd <| gO xM ?_))
  exact ⟨_,_,OM [(3,vr 1),(38,vd (VP qs)),(39,vi qs.length),(40,vi (((k+1):Nat)))] 2 rfl (mB rfl rfl) ⟨Dd rfl,Dd rfl,trivial⟩,_,by omega,k+1,by omega,rfl,(fun j x hj hx=>by
    rcases bu j k with h|h
    ·exact hz j x h hx
    ·obtain rfl:j=k:=by omega
     rw [Za hq hr] at hx
     cases hx
     exact hc),rfl,rfl⟩
 obtain rfl:k=qs.length:=by omega
 have he:ckL qs rs=0:=GG fun x hx=>by
  obtain ⟨j,hj⟩:=fb hx
  exact hz j x (by have:=(gS.1 hj).1;rw [List.length_zipWith] at this;omega) hj
 rw [he]
 repeat' (with_reducible first|refine qq ?_|(refine Tx 8 ?_;refine gO xLt ?_)|(refine Tx 15 ?_;refine gO xA ?_))
 exact AE rfl (.cons_ (Fg rfl rfl) .nil_)
theorem ET (t:Bool) {ps:List Prt} {bs:List Bk} {os:List Int} (hl:Ff ps bs os) (F:List Int) (qs:List (Rv × Rv)) (rs:List Rv) (hwq:∀ q∈qs,RvL q.1∧RvL q.2) (hwr:∀ r∈rs,RvL r) (hFl:F.length≤1000000) (hQl:qs.length≤1000000) (hRl:rs.length≤1000000):CV prog Al 12 [aDg t ps bs os,.agg (dCr false F qs rs)] [aB (vfE ps bs os F qs rs),.agg [dI (vfP ps bs os F qs rs).1,dI (vfP ps bs os F qs rs).2],aE (ckE ps bs os F qs rs)]:=by
 refine cvz func12 ntmps12 ?_
 have CK:=Vx t false hl F qs rs hwq hwr hFl hQl hRl
 have hl1:=hl.l1
 have hl2:=hl.l2
 by_cases h0:ckE ps bs os F qs rs=0
 case neg =>
  have e1:vfE ps bs os F qs rs=false:=by unfold vfE;rw [decide_eq_false h0];rfl
  have e2:vfP ps bs os F qs rs=(0,0):=if_neg h0
  rw [e1,e2]
  repeat' (with_reducible first|refine qq ?_|(refine Tx 0 ?_;refine gN xBo <| gN xBo <| gO xA <| gN (xAl Cl) <| gO xA ?_)|(refine Tx 1 ?_;refine gO xL <| gO xL <| gO (xCl func49 (CK)) <| gO xA ?_)|(refine Tx 2 ?_;refine gO xM <| gO AjG ?_)|(refine Tx 3 ?_;refine gO (by exact AU rfl Dn rfl rfl) <| gO xM <| gO xA <| gZ (xSk AV) <| gO xA ?_))
  exact AE rfl (.cons_ (Fd rfl rfl) (.cons_ (Aln AV) (.cons_ (ZB rfl rfl) .nil_)))
 obtain ⟨hd,ok,hdc,_,_⟩:=AjE hwq hwr h0
 rw [h0] at CK
 rw [h0]
 have e2:vfP ps bs os F qs rs=vfF ps bs (YZ F qs rs):=if_pos h0
 have e1:vfE ps bs os F qs rs=(vfK ps bs (YZ F qs rs)).isNone:=by unfold vfE;rw [decide_eq_true h0,dr]
 rw [e1,e2]
 rw [hdc] at CK
 rw [hdc]
 generalize YZ F qs rs=c at *
 clear e1 e2 h0
 repeat' (with_reducible first|refine qq ?_|(refine Tx 0 ?_;refine gN xBo <| gN xBo <| gO xA <| gN (xAl Cl) <| gO xA ?_)|(refine Tx 1 ?_;refine gO xL <| gO xL <| gO (xCl func49 (CK)) <| gO xA ?_)|(refine Tx 2 ?_;refine gO xM <| gO (xNE Ai) ?_)|(refine Tx 4 ?_;refine gO xF <| gO xD <| gO xN <| gO xM ?_))
 refine Bm (Cb 3) (Aw (fun n Fr H=>∃ k:Nat,k≤bs.length∧n=bs.length - k∧(∀ i,i<k→IQ ps bs c i=0)∧Fr=ofL [(2,vr 0),(3,vr 1),(5,vr 2),(18,vd (Ee t bs)),(19,vi bs.length),(20,vi ((k:Nat)))]∧H=[.box 26 [.d (EP t ps),.d (Ee t bs),.d (Bw t os)],.box 30 [.d (Bw false c.F),.d (.row false 6 c.R.length (Ay (dIw false) c.R)),.d (.row false 3 c.E.length (Ay dyP c.E))],.box 34 [.d (.val (.int .i64 0)),.d (.val (.int .i64 0))]]) (n0:=bs.length) ⟨0,ad _,rfl,(fun i hi=>absurd hi (gl _)),rfl,rfl⟩ ?_)
 rintro n Fr H ⟨k,hk,rfl,hz,rfl,rfl⟩
 by_cases hlt:k<bs.length
 case pos =>
  obtain ⟨y,hy⟩:∃ y,bs[k]?=some y:=⟨_,gE hlt⟩
  have LK:=Vu t false os c k hy (SI hd hy) ok hl2 hl1
  have vs:=AfC hlt hz
  generalize hq:IQ ps bs c k=q at *
  by_cases h1:q=0
  case neg =>
   have vs:=vs h1
   have e1:(vfK ps bs c).isNone=false:=by rw [vs];rfl
   have e2:vfF ps bs c=(q,(k:Int)):=by unfold vfF;rw [vs];show (IQ ps bs c k,_)=_;rw [hq]
   rw [e1,e2]
   repeat' (with_reducible first|refine qq ?_|(refine Tx 5 ?_;refine gO xLt ?_)|(refine Tx 6 ?_;refine gO xM <| gO xA ?_)|(refine Tx 7 ?_;refine gO xL <| gO xL <| gO xM <| gO (xCl func50 (LK)) <| gO xA ?_)|(refine Tx 8 ?_;refine gO xM <| gO xNe ?_)|(refine Tx 9 ?_;refine gO xM <| gO xM <| gO (by exact AU rfl Dn rfl rfl) <| gO xA <| gZ (xSk AV) <| gO xA ?_))
   exact AE rfl (.cons_ (Fd rfl rfl) (.cons_ (Aln AV) (.cons_ (Fg rfl rfl) .nil_)))
  subst h1
  repeat' (with_reducible first|refine qq ?_|(refine Tx 5 ?_;refine gO xLt ?_)|(refine Tx 6 ?_;refine gO xM <| gO xA ?_)|(refine Tx 7 ?_;refine gO xL <| gO xL <| gO xM <| gO (xCl func50 (LK)) <| gO xA ?_)|(refine Tx 8 ?_;refine gO xM <| gO xNe ?_)|(refine Tx 10 ?_;refine gO xAd <| gO xM ?_))
  refine ⟨_,_,Cb 3,_,by omega,k+1,by omega,rfl,Sp hz hq,rfl,rfl⟩
 obtain rfl:k=bs.length:=by omega
 have vn:=SM.2 hz
 have e1:(vfK ps bs c).isNone=true:=by rw [vn];rfl
 have e2:vfF ps bs c=(0,0):=by unfold vfF;rw [vn]
 rw [e1,e2]
 repeat' (with_reducible first|refine qq ?_|(refine Tx 5 ?_;refine gO xLt ?_)|(refine Tx 11 ?_;refine gO (by exact AU rfl Dn rfl rfl) <| gO xA <| gZ (xSk AV) <| gO xA ?_))
 exact AE rfl (.cons_ (Fd rfl rfl) (.cons_ (Aln AV) (.cons_ (Fg rfl rfl) .nil_)))
def wiB (a:Iq) (f m:Int):Bool:=decide (Hd (Eh (DM a) f) (m,0)≤0)
def pkF (a:Iq):Nat→Int
 | 0 => -1
 | n+1=>if wiB a (n:Int) 1073741824=true then (n:Int) else pkF a n
def pkS (a:Iq):Int:=pkF a 31
def pkB (a:Iq):Bool:=decide (0≤pkS a)
theorem Acx (a:Iq):∀ n:Nat,-1≤pkF a n∧pkF a n≤(n:Int) - 1
 | 0=>⟨ci _,ci _⟩
 | n+1=>by
  have:=Acx a n
  unfold pkF
  split <;> omega
theorem Acy (a:Iq) : -1≤pkS a∧pkS a≤30:=Acx a 31
def VQ:Nat→Int→Pq→Int
 | 0,k,_=>k
 | n+1,k,x=>if Hd (pw k) x<0 then VQ n (k+1) x else k
def Zb (x:Pq):Pq:=pw (VQ 50000 (-62) x)
section
variable (ps:List Prt) (bs:List Bk) (os:List Int) (F:List Int) (R:List Iq)
def erB (E:List Pq) (i:Nat):Pq:=upQ (AF ps F R E (Akj bs i) (scA F i))
def erO:List Nat→List Pq→Option (List Pq)
 | [],E=>some E
 | i::l,E=>if YQ (erB ps bs F R E i)=true then none else erO l (E.set i (erB ps bs F R E i))
def erM (E:List Pq) (i:Nat):Pq:=FW (E[i]?.getD (0,0)) (erB ps bs F R E i)
def erX (w:Bool) (E:List Pq) (i:Nat):Pq:=if w=true then Zb (erM ps bs F R E i) else erM ps bs F R E i
def erD (w:Bool):List Nat→List Pq→Bool→Option (List Pq × Bool)
 | [],E,b=>some (E,b)
 | i::l,E,b=>if Hd (erM ps bs F R E i) (E[i]?.getD (0,0))=0 then erD w l E b
  else if YQ (erX ps bs F R w E i)=true then none else erD w l (E.set i (erX ps bs F R w E i)) true
def erR:Nat→Nat→List Pq→Option (List Pq)
 | 0,_,_=>none
 | n+1,r,E=>match erO ps bs F R (BS bs) E with
  | none=>none
  | some E1=>match erD ps bs F R (decide (64≤r)) (Bd bs) E1 false with
   | none=>none
   | some (E2,b)=>if b=true then erR n (r+1) E2 else some E2
def erA:Option (List Pq):=erR ps bs F R 128 0 (List.replicate bs.length (0,0))
def vfA (E:List Pq):Bool:=vfE ps bs os F (R.map Nd) (E.map DZ)
def mkT:Option (List Pq):=match erA ps bs F R with
 | none=>none
 | some E=>if vfA ps bs os F R E=true then some E else none
end
def Zc (F:List Int):Bool:=F.any fun f=>decide (0<f)
def Agn (f:Int):Int:=if 0<f then f - 1 else f
def Vy (F:List Int):List Int:=F.map Agn
def mkL (ps:List Prt) (bs:List Bk) (os:List Int) (R:List Iq):Nat→List Int→Option Ct
 | 0,_=>none
 | n+1,F=>match mkT ps bs os F R with
  | some E=>some ⟨F,R,E⟩
  | none=>if Zc F=true then mkL ps bs os R n (Vy F) else none
def mkC (ps:List Prt) (bs:List Bk) (os:List Int) (e:Int) (l:List Iq):Option Ct :=
 if e=0∧(rgV ps bs l).all pkB=true then mkL ps bs os (rgV ps bs l) 31 ((rgV ps bs l).map pkS) else none
structure Hn (bs:List Bk) (E:List Pq):Prop where
 len:E.length=bs.length
 sm:∀ p∈E,Sm p 128 62
 nn:∀ p∈E,0≤gv p
theorem Hn.zero (bs:List Bk):Hn bs (List.replicate bs.length (0,0)):=⟨fi ..,fun p hp=>by rw [List.eq_of_mem_replicate hp];exact Sm.zero _ _,fun p hp=>by rw [List.eq_of_mem_replicate hp,Dw];exact ci _⟩
theorem Hn.set (h:Hn bs E) {p:Pq} (hs:Sm p 128 62) (h0:0≤gv p) (i:Nat):Hn bs (E.set i p):=⟨by rw [di];exact h.len,fun q hq=>by
 rcases jz hq with hq|rfl
 ·exact h.sm q hq
 ·exact hs,fun q hq=>by
 rcases jz hq with hq|rfl
 ·exact h.nn q hq
 ·exact h0⟩
theorem Hn.at_ (h:Hn bs E) (i:Nat):Sm (E[i]?.getD (0,0)) 128 62∧0≤gv (E[i]?.getD (0,0)):=by
 rcases he:E[i]? with _|p
 ·exact ⟨Sm.zero _ _,Int.le_of_eq Dw.symm⟩
 ·exact ⟨h.sm p (gM he),h.nn p (gM he)⟩
theorem Hn.inE (h:Hn bs E):InE E E:=⟨fun k=>(h.at_ k).2,fun _=>ci _⟩
theorem Rf {p:Pq} (h:Sm p n 62) (h0:0≤gv p) (hf:YQ p=false):Sm p 128 62:=by
 have h1:gv p≤1099511627776*2 ^ GQ:=by
  have h2:=of_decide_eq_false hf
  have h3:=(FA (p:=p) (q:=(1099511627776,0)) h.le (by decide)).1 (Int.not_lt.1 h2)
  rwa [Hb] at h3
 refine ⟨h.ok,?_,h.d⟩
 have hp:=AI (GQ - p.2)
 have hd:=h.d
 have e:(2:Int) ^ GQ=2 ^ p.2*2 ^ (GQ - p.2):=by rw [←aw];congr 1;have:=h.le;omega
 unfold gv at h0 h1
 rw [e,←ar] at h1
 have h2:p.1≤1099511627776*2 ^ p.2:=Int.le_of_mul_le_mul_right h1 hp
 have h3:0≤p.1:=df fun hn=>by
  have:=jw (show p.1<0 by omega) hp
  omega
 have h4:(2:Int) ^ p.2≤2 ^ 62:=by
  have h5:=ao (n:=2) (by decide) hd
  exact_mod_cast h5
 have h6:p.1<2 ^ 128:=by
  have:(1099511627776:Int)*2 ^ p.2≤1099511627776*2 ^ 62:=jp h4 (by decide)
  have h7:(1099511627776:Int)*2 ^ 62<2 ^ 128:=by decide
  omega
 have h8:((p.1.natAbs:Nat):Int)<((2 ^ 128:Nat):Int):=by
  rw [Int.natAbs_of_nonneg h3]
  exact_mod_cast h6
 exact_mod_cast h8
theorem AjI {k:Int} (h0 : -62≤k) (h1:k<n) (hn:n≤65536) (h2:0<n):Sm (pw k) n 62:=by
 unfold pw Ad
 split
 ·exact (Sm.mk_nf (m:=1) (n:=n) (d:=62) (p:=0+(-(max (-65536) (min k 65536))).toNat) (by omega) (by omega) (Nat.one_lt_two_pow (by omega)))
 ·refine (Sm.mk_nf (n:=n) (d:=62) (p:=0) (by omega) (by omega) ?_)
  rw [gk,fh]
  exact Nat.pow_lt_pow_right (by decide) (by omega)
theorem Rg {k:Int} (h0 : -62≤k) (h1:k≤40064):Sm (pw k) 40065 62:=AjI h0 (by omega) (by decide) (by decide)
theorem SN {a b:Nat} (h:a≤b):(2:Int) ^ a≤2 ^ b:=by
 have:=ao (n:=2) (by decide) h
 exact_mod_cast this
theorem Alo {x:Pq} {d:Nat} (h:Sm x n d):gv x<2 ^ (n+GQ):=by
 have h1:x.1<2 ^ n:=by
  have h2:=h.n
  have h3:((x.1.natAbs:Nat):Int)<((2 ^ n:Nat):Int):=by exact_mod_cast h2
  have h4:((2 ^ n:Nat):Int)=2 ^ n:=by push_cast;rfl
  omega
 have hp:=AI (GQ - x.2)
 have hq:(2:Int) ^ (GQ - x.2)≤2 ^ GQ:=SN (Nat.sub_le GQ x.2)
 unfold gv
 rw [aw]
 exact Int.lt_of_lt_of_le (ki h1 hp) (jp hq (au (AI n)))
theorem AfG {a b:Nat} (h:(2:Int) ^ a<2 ^ b):a<b:=df fun hn=>by
 have h1:=ao (n:=2) (by decide) (show b≤a by omega)
 have h2:(2:Int) ^ b≤2 ^ a:=by exact_mod_cast h1
 omega
theorem Ut {x:Pq} (hx:Sm x 40064 62) {k:Int} (h0 : -62≤k) (h1:k≤40064) (h:Hd (pw k) x<0):k+1≤40064:=by
 have h2:¬ gv x≤gv (pw k):=fun hc=>absurd h (Int.not_lt.2 ((QH (p:=pw k) (q:=x) (Rg h0 h1).le hx.le).2 hc))
 have h3:=Alo hx
 rw [IP (by omega) (by omega)] at h2
 have h4:=AfG (Int.lt_trans (Int.not_le.1 h2) h3)
 have h5:GQ=65536:=rfl
 omega
theorem Acz {x:Pq} (hx:Sm x 40064 62):∀ (n:Nat) (k:Int),-62≤k→k≤40064 → -62≤VQ n k x∧VQ n k x≤40064
 | 0,k,h0,h1=>⟨h0,h1⟩
 | n+1,k,h0,h1=>by
  unfold VQ
  split
  ·rename_i h
   exact Acz hx n (k+1) (by omega) (Ut hx h0 h1 h)
  ·exact ⟨h0,h1⟩
theorem AfH {x:Pq} (hx:Sm x 40064 62):Sm (Zb x) 40065 62∧0≤gv (Zb x):=by
 obtain ⟨h0,h1⟩:=Acz hx 50000 (-62) (by decide) (by decide)
 unfold Zb
 exact ⟨Rg h0 h1,by rw [IP (by omega) (by omega)];exact au (AI _)⟩
theorem AfI {k:Int} (h0 : -62≤k) (h1:k≤40063):Eh (pw k) 1=pw (k+1):=by
 have s1:=Rg h0 (by omega)
 have s2:=Rg (k:=k+1) (by omega) (by omega)
 refine Oc (EE s1 (by decide) (by decide)).ok s2.ok ?_
 have:=Ha (p:=pw k) (n:=1) s1.le (by decide)
 rw [show gv (Eh (pw k) 1)=_ from this,IP (by omega) (by omega),IP (by omega) (by omega),←aw]
 congr 1
 omega
section
variable {ps:List Prt} {bs:List Bk} {os:List Int} {F:List Int} {R:List Iq} {E:List Pq}
theorem Ol (he:AP ps bs os=0) {i:Nat} {y:Bk} (hy:bs[i]?=some y) (hs:0≤scA F i∧scA F i≤30) (sR:∀ p∈R,IwS p LB LB) (h:Hn bs E):Sm (AF ps F R E y (scA F i)) 40064 9000∧Sm (erB ps bs F R E i) 40064 62∧0≤gv (erB ps bs F R E i):=by
 have hv:y.kind=6→DJ y.vn y.ve:=fun h6=>Mo he hy (by rw [h6];rfl)
 have lb:∀ p∈E,Sm p LB LB:=Vw h.sm
 have sb:=Pu (ps:=ps) (F:=F) (y:=y) hs.1 hs.2 sR lb hv
 have nn:=(Vv (ps:=ps) (F:=F) (y:=y) hs.1 hs.2 sR lb lb hv h.inE).1
 unfold erB
 rw [Gz hy]
 exact ⟨sb,(Ps (den:=62) sb.neg (by decide)).neg,AjB sb.le nn⟩
theorem AcA (he:AP ps bs os=0) {i:Nat} {y:Bk} (hy:bs[i]?=some y) (hs:0≤scA F i∧scA F i≤30) (sR:∀ p∈R,IwS p LB LB) (h:Hn bs E):Sm (erM ps bs F R E i) 40064 62∧0≤gv (erM ps bs F R E i):=by
 obtain ⟨_,s,n⟩:=Ol he hy hs sR h
 obtain ⟨s',n'⟩:=h.at_ i
 unfold erM
 refine ⟨Sm.max (s'.more (by decide) (aa _)) s,?_⟩
 rw [show gv (FW (E[i]?.getD (0,0)) (erB ps bs F R E i))=_ from DA s'.le s.le]
 omega
theorem AcB (he:AP ps bs os=0) {i:Nat} {y:Bk} (hy:bs[i]?=some y) (hs:0≤scA F i∧scA F i≤30) (sR:∀ p∈R,IwS p LB LB) (h:Hn bs E) (w:Bool):Sm (erX ps bs F R w E i) 40065 62∧0≤gv (erX ps bs F R w E i):=by
 obtain ⟨s,n⟩:=AcA he hy hs sR h
 unfold erX
 split
 ·exact AfH s
 ·exact ⟨s.more (by decide) (aa _),n⟩
theorem Uu (he:AP ps bs os=0) (hF:∀ i,i<bs.length→0≤scA F i∧scA F i≤30) (sR:∀ p∈R,IwS p LB LB):∀ (l:List Nat) (E E':List Pq),(∀ i∈l,i<bs.length)→Hn bs E→erO ps bs F R l E=some E'→Hn bs E'
 | [],E,E',_,h,hr=>by cases hr;exact h
 | i::l,E,E',hl,h,hr=>by
  have hi:=hl i (fc ..)
  obtain ⟨y,hy⟩:∃ y,bs[i]?=some y:=⟨_,gE hi⟩
  obtain ⟨_,s,n⟩:=Ol he hy (hF i hi) sR h
  unfold erO at hr
  by_cases hf:YQ (erB ps bs F R E i)=true
  ·rw [if_pos hf] at hr;cases hr
  ·rw [if_neg hf] at hr
   rw [bc] at hf
   exact Uu he hF sR l _ E' (fun j hj=>hl j (ea _ hj)) (h.set (Rf s n hf) n i) hr
theorem Zd (he:AP ps bs os=0) (hF:∀ i,i<bs.length→0≤scA F i∧scA F i≤30) (sR:∀ p∈R,IwS p LB LB) (w:Bool):∀ (l:List Nat) (E:List Pq) (b:Bool) (x:List Pq × Bool),(∀ i∈l,i<bs.length)→Hn bs E→erD ps bs F R w l E b=some x→Hn bs x.1
 | [],E,b,x,_,h,hr=>by cases hr;exact h
 | i::l,E,b,x,hl,h,hr=>by
  have hi:=hl i (fc ..)
  have hl':∀ j∈l,j<bs.length:=fun j hj=>hl j (ea _ hj)
  obtain ⟨y,hy⟩:∃ y,bs[i]?=some y:=⟨_,gE hi⟩
  obtain ⟨s,n⟩:=AcB he hy (hF i hi) sR h w
  unfold erD at hr
  by_cases hc:Hd (erM ps bs F R E i) (E[i]?.getD (0,0))=0
  ·rw [if_pos hc] at hr
   exact Zd he hF sR w l E b x hl' h hr
  rw [if_neg hc] at hr
  by_cases hf:YQ (erX ps bs F R w E i)=true
  ·rw [if_pos hf] at hr;cases hr
  ·rw [if_neg hf] at hr
   rw [bc] at hf
   exact Zd he hF sR w l _ true x hl' (h.set (Rf s n hf) n i) hr
theorem Uv:∀ i∈BS bs,i<bs.length:=fun i hi=>by
 obtain ⟨k,hk⟩:=fb hi
 exact (Mp hk).1
theorem AjJ:∀ i∈Bd bs,i<bs.length:=fun i hi=>by
 obtain ⟨k,hk⟩:=fb hi
 exact (Iz hk).1
theorem AcC (he:AP ps bs os=0) (hF:∀ i,i<bs.length→0≤scA F i∧scA F i≤30) (sR:∀ p∈R,IwS p LB LB):∀ (n r:Nat) (E E':List Pq),Hn bs E→erR ps bs F R n r E=some E'→Hn bs E'
 | 0,_,_,_,_,hr=>by cases hr
 | n+1,r,E,E',h,hr=>by
  unfold erR at hr
  split at hr
  ·cases hr
  rename_i E1 h1
  have k1:=Uu he hF sR _ _ _ Uv h h1
  split at hr
  ·cases hr
  rename_i E2 b h2
  have k2:=Zd he hF sR _ _ _ _ _ AjJ k1 h2
  split at hr
  ·exact AcC he hF sR n (r+1) E2 E' k2 hr
  ·cases hr;exact k2
theorem AcD (he:AP ps bs os=0) (hF:∀ i,i<bs.length→0≤scA F i∧scA F i≤30) (sR:∀ p∈R,IwS p LB LB) (hr:erA ps bs F R=some E):Hn bs E:=AcC he hF sR _ _ _ _ (.zero bs) hr
structure SO (bs:List Bk) (F:List Int):Prop where
 len:F.length=bs.length
 in_:∀ f∈F,0≤f∧f≤30
theorem SO.sc (h:SO bs F):∀ i,i<bs.length→0≤scA F i∧scA F i≤30:=fun i hi=>h.in_ _ (gM (SF (by rw [h.len];exact hi)))
theorem SO.low (h:SO bs F):SO bs (Vy F):=⟨by unfold Vy;rw [af];exact h.len,fun f hf=>by
 obtain ⟨g,hg,rfl⟩:=List.mem_map.1 hf
 have:=h.in_ g hg
 unfold Agn
 split <;> omega⟩
theorem AjK (F:List Int) (R:List Iq) (E:List Pq):YZ F (R.map Nd) (E.map DZ)=⟨F,R,E⟩:=by
 unfold YZ
 rw [Ls]
 congr 1
 rw [de]
 exact (dz fun p _=>IB p).trans (List.map_id E)
theorem AjL (u:Bool) (F:List Int) (R:List Iq) (E:List Pq):dCr u F (R.map Nd) (E.map DZ)=dCt u ⟨F,R,E⟩:=by
 unfold dCr dCt
 rw [MF,Su]
theorem Alp (h:Hn bs E):∀ r∈E.map DZ,RvL r:=fun r hr=>by
 obtain ⟨p,hp,rfl⟩:=List.mem_map.1 hr
 exact Mu (h.sm p hp) (by decide)
theorem AfJ (he:AP ps bs os=0) (hF:SO bs F) (sR:∀ p∈R,IwS p LB LB) (hr:mkT ps bs os F R=some E):Abl ps bs os ⟨F,R,E⟩∧Hn bs E∧vfA ps bs os F R E=true:=by
 unfold mkT at hr
 split at hr
 ·cases hr
 rename_i E1 h1
 split at hr
 ·rename_i hv
  cases hr
  have k:=AcD he hF.sc sR h1
  have:=AfD (QY sR (by decide)) (Alp k) hv
  rw [AjK] at this
  exact ⟨this,k,hv⟩
 ·cases hr
theorem Ze (he:AP ps bs os=0) (sR:∀ p∈R,IwS p LB LB):∀ (n:Nat) (F:List Int) (c:Ct),SO bs F→mkL ps bs os R n F=some c→Abl ps bs os c∧SO bs c.F∧c.R=R∧Hn bs c.E∧vfA ps bs os c.F R c.E=true
 | 0,_,_,_,hr=>by cases hr
 | n+1,F,c,hF,hr=>by
  unfold mkL at hr
  split at hr
  ·rename_i E hE
   cases hr
   obtain ⟨a,b,d⟩:=AfJ he hF sR hE
   exact ⟨a,hF,rfl,b,d⟩
  ·split at hr
   ·exact Ze he sR n _ c hF.low hr
   ·cases hr
theorem AfK (hl:R.length=bs.length) (h:R.all pkB=true):SO bs (R.map pkS):=⟨by rw [af];exact hl,fun f hf=>by
 obtain ⟨a,ha,rfl⟩:=List.mem_map.1 hf
 exact ⟨of_decide_eq_true (List.all_eq_true.1 h a ha),(Acy a).2⟩⟩
theorem MO {p:Pq} (h:Sm p LB LB):Dr p=false:=by
 have h1:=Cw.2 h.n
 have h2:=h.d
 unfold LB at h1 h2
 exact decide_eq_false (by omega)
theorem SQ (he:AP ps bs os=0) (hF:SO bs F) (hl:R.length=bs.length) (sR:∀ p∈R,IwS p LB LB) (h:Hn bs E):ckE ps bs os F (R.map Nd) (E.map DZ)=0:=by
 unfold ckE
 rw [if_neg (not_not_intro he),if_pos ⟨hF.len,by rw [af];exact hl,by rw [af];exact h.len⟩]
 refine GG fun x hx=>?_
 obtain ⟨k,hk⟩:=fb hx
 rw [List.getElem?_zipWith] at hk
 rcases ha:(R.map Nd)[k]? with _|q
 ·rw [ha] at hk;cases hk
 rcases hb:(E.map DZ)[k]? with _|r
 ·rw [ha,hb] at hk;cases hk
 rw [ha,hb] at hk
 cases hk
 rw [ag,cq] at ha hb
 obtain ⟨a,ha,rfl⟩:=ha
 obtain ⟨p,hp,rfl⟩:=hb
 have sa:=sR a (gM ha)
 have sp:=h.sm p (gM hp)
 have np:=h.nn p (gM hp)
 have n1:0≤p.1:=df fun hn=>by
  have:=jw (show p.1<0 by omega) (AI (GQ - p.2))
  unfold gv at np
  omega
 unfold MJ
 rw [show rvP (DZ p)=p from IB p,show rvP (Nd a).1=a.1 from IB a.1,show rvP (Nd a).2=a.2 from IB a.2,Ss sp.ok,show ivC (Nd a)=true from AaR sa,MO (sp.more (n':=LB) (d':=LB) (by decide) (by decide)),MO sa.s1,MO sa.s2]
 have hs:¬ sgI p.1<0:=by unfold sgI;(repeat' split) <;> omega
 simp [hs]
end
def cDz:Option Pq→List D
 | none=>[.val (.bool false),.val (.slice none 0 0),.val (.int .i64 0)]
 | some p=>dyP p
theorem Alq (v:List (Option Pq)):cVs v=((v.map cDz).flatten).map C.d:=by
 unfold cVs
 rw [List.map_flatten,de]
 congr 1
 exact dz fun o _=>by cases o <;> rfl
theorem Alr {v:Value} (h:Bf w S (.val (.slice none 0 0)) v):Bf w S (.row false 1 0 []) v:=by
 cases h
 exact .row [] (aa _) (fun _=>rfl) rfl rfl (fun h=>absurd rfl h) (fun j u x hu=>by simp at hu)
structure Nw where
 ty:TypeId
 s:Nat
 n:Nat
 ds:List D
def Nw.ob (r:Nw):Ob:=.row r.ty r.s r.n (r.ds.map C.d)
inductive Yr where
 | d (x:D)
 | own (k n:Nat)
inductive YT where
 | one (y:Yr)
 | agg (ys:List Yr)
inductive YR where
 | one (y:Yr)
 | agg (ys:List Yr)
 | tup (l:List YT)
def Yr.c (n0:Nat):Yr→C
 | .d x=>.d x
 | .own k n=>.own (n0+k) n
def YT.t (n0:Nat):YT→TC
 | .one y=>.one (y.c n0)
 | .agg ys=>.agg (ys.map (Yr.c n0))
def YR.x (n0:Nat):YR→X
 | .one y=>.one (y.c n0)
 | .agg ys=>.agg (ys.map (Yr.c n0))
 | .tup l=>.tupC (l.map (YT.t n0))
def Ni (S:Dt) (w w':World) (es:List Et):Dt:=fun t b=>t=false∧(S false b∨(w.heap.size≤b∧b<w'.heap.size∧∀ e∈es,e.own≠some b))
def Ago (w:World) (S:Dt) (rows:List Nw) (es:List Et):Yr→Value→Prop
 | .d x,v=>Bf w S x v
 | .own k n,v=>v.oneCell'=true∧∃ e r,es[k]?=some e∧rows[k]?=some r∧r.n=n∧v=e.hv
def AjM (w:World) (S:Dt) (rows:List Nw) (es:List Et):YT→Value→Prop
 | .one y,v=>Ago w S rows es y v
 | .agg ys,v=>∃ vs:List Value,v=.agg vs.toArray∧AG (Ago w S rows es) ys vs
def AjN (w:World) (S:Dt) (rows:List Nw) (es:List Et):YR→Value→Prop
 | .one y,v=>Ago w S rows es y v
 | .agg ys,v=>∃ vs:List Value,v=.agg vs.toArray∧AG (Ago w S rows es) ys vs
 | .tup l,v=>∃ vs:List Value,v=.tuple vs.toArray∧AG (AjM w S rows es) l vs
structure AjO (w w':World) (S:Dt) (rows:List Nw) (es:List Et):Prop where
 len:es.length=rows.length
 each:∀ (k:Nat) (e:Et),es[k]?=some e→∃ (r:Nw) (v:Value) (xs:List Value),rows[k]?=some r∧e=.row v r.ty r.s r.n xs∧e.at_ w' w.heap.size∧AG (Bf w' S) r.ds xs
 apart:es.Pairwise WB
def CVN (P:Program) (G:World→Prop) (f:FuncId) (args:List A) (rows:List Nw) (res:YR):Prop :=
 ∀ (w:World) (S:Dt) (vs:List Value),G w→(∀ t b,S t b→b<w.heap.size)→AG (DY w S) args vs →
  Calls P f vs.toArray w fun e w'=>∃ v es,e=.returned v∧AjO w w' (Ni S w w' es) rows es∧AjN w' (Ni S w w' es) rows es res v∧Below w.heap.size w w'
def YC (ids:List Nat) (rows:List Nw):Yr→C→Prop
 | .d x,c=>c=.d x∧Da x
 | .own k n,c=>∃ id r,ids[k]?=some id∧rows[k]?=some r∧r.n=n∧c=.own id n
inductive RVT (P:Program) (F:Frm) (H:List Ob) (ids:List Nat) (rows:List Nw):ResultVar→YT→Prop
 | tmp {t:Tmp} {y:Yr} {c:C} (hF:F t=.one c) (h:YC ids rows y c):RVT P F H ids rows (.tmp t) (.one y)
 | cell {t:Tmp} {ty ty' id:Nat} {d:TypeDesc} {cs:List C} {ys:List Yr} (hF:F t=.one (.ref id 0 none)) (hH:H[id]?=some (.box ty' cs)) (hu:P.underlying ty=some d) (hd:d.isRow=true) (hi:(P.info? ty).map (·.size)=some cs.length) (h:AG (YC ids rows) ys cs):RVT P F H ids rows (.cell t ty) (.agg ys)
inductive AjP (P:Program) (fn:Func) (F:Frm) (H:List Ob) (ids:List Nat) (rows:List Nw):YR→Prop
 | tmp {t:Tmp} {y:Yr} {c:C} (hr:fn.results=#[.tmp t]) (hF:F t=.one c) (h:YC ids rows y c):AjP P fn F H ids rows (.one y)
 | cell {t:Tmp} {ty ty' id:Nat} {d:TypeDesc} {cs:List C} {ys:List Yr} (hr:fn.results=#[.cell t ty]) (hF:F t=.one (.ref id 0 none)) (hH:H[id]?=some (.box ty' cs)) (hu:P.underlying ty=some d) (hd:d.isRow=true) (hi:(P.info? ty).map (·.size)=some cs.length) (h:AG (YC ids rows) ys cs):AjP P fn F H ids rows (.agg ys)
 | tup {r1 r2:ResultVar} {rs:List ResultVar} {l:List YT} (hr:fn.results.toList=r1::r2::rs) (h:AG (RVT P F H ids rows) (r1::r2::rs) l):AjP P fn F H ids rows (.tup l)
theorem MP {tmps:Array Value} {r:ResultVar} {v:Value} (hr:fn.results=#[r]) (h:(RL tmps r).run P w=.ok v w):(results fn tmps).run P w=.ok v w:=by
 have h1:(fn.results.mapM (RL tmps)).run P w=.ok #[v] w:=by
  rw [hr,←jd (xs:=#[r]),je,map_eq_pure_bind,ah]
  simp [jc,ah,h]
 have hb':∀ (s:Sem (Array Value)) (k:Array Value→Sem Value),(s.bind k).run P w=(s.run P w).andThen fun a w=>(k a).run P w:=fun s k=>ah (x:=s) (f:=k) ..
 rw [FQ,hb',h1]
 rfl
theorem Rh {P:Program} {w:World} {R:YT→Value→Prop} {f:ResultVar→Sem Value}:∀ {rs:List ResultVar} {res:List YT},AG (fun r y=>∃ v,(f r).run P w=.ok v w∧R y v) rs res→∃ vs:List Value,(rs.mapM f).run P w=.ok vs w∧AG R res vs
 | [],res,h=>by
  rw [h.unnil]
  exact ⟨[],by simp,AG.nil_⟩
 | r::rs,res,h=>by
  obtain ⟨y,res',rfl,⟨v,h1,h2⟩,h3⟩:=h.uncons
  obtain ⟨vs,h4,h5⟩:=Rh h3
  exact ⟨v::vs,by simp [jc,ah,h1,h4],AG.cons_ h2 h5⟩
theorem Ri {tmps:Array Value} {R:YT→Value→Prop} {r1 r2:ResultVar} {rs:List ResultVar} {l:List YT} (hr:fn.results.toList=r1::r2::rs) (h:AG (fun r y=>∃ v,(RL tmps r).run P w=.ok v w∧R y v) (r1::r2::rs) l):∃ vs:List Value,(results fn tmps).run P w=.ok (.tuple vs.toArray) w∧AG R l vs:=by
 obtain ⟨vs,h1,h2⟩:=Rh h
 have h1':(fn.results.mapM (RL tmps)).run P w=.ok vs.toArray w:=by
  rw [←jd (xs:=fn.results),hr,je,map_eq_pure_bind,ah,h1]
  rfl
 have hb':∀ (s:Sem (Array Value)) (k:Array Value→Sem Value),(s.bind k).run P w=(s.run P w).andThen fun a w=>(k a).run P w:=fun s k=>ah (x:=s) (f:=k) ..
 refine ⟨vs,?_,h2⟩
 have hl:2≤vs.length:=by rw [←h2.1,←h.1];show 2≤rs.length+2;omega
 rw [FQ,hb',h1']
 simp only [av,bo]
 match vs,hl with
 | a::b::l,_=>rfl
theorem ents {m:Mm} (ht:Tot m):∀ {ids:List Nat} {rows:List Nw},AG (fun id (r:Nw)=>m.H[id]?=some r.ob∧∀ d∈r.ds,Da d) ids rows→∃ es:List Et,AG (fun id e=>m.E id=some e) ids es
 | [],_,_=>⟨[],.nil_⟩
 | id::ids,rows,h=>by
  obtain ⟨r,rs,rfl,h1,h2⟩:=h.uncons
  obtain ⟨es,h3⟩:=ents ht h2
  obtain ⟨e,he⟩:=Option.isSome_iff_exists.1 (ht id r.ob h1.1 rfl)
  exact ⟨e::es,.cons_ he h3⟩
theorem AcE (h:p:=by
 exact run_loadVar_mid m'.w g 0 ty us d (fun j v hj=>by rw [AkG,cell_of_row m'.w g j us.toArray ty' (0,0) hg'];simpa using hj) hu hd (by rw [hi,hl2.1])):p:=h
theorem Rj {G:World→Prop} (hG:∀ w w',Below w.heap.size w w'→G w→G w') {f:FuncId} {fn:Func} {c:Code} {N:Nat} {args:List A} {rows:List Nw} {res:YR} (hf:P.funcs[f]?=some fn) (hb:fn.body=some c) (hN:fn.ntmps=N) (ha:args.length≤N)
  (h:CW P G N c (F0 args) [] (fun e F H=>(e=.ret∨e=.normal)∧∃ ids:List Nat,ids.Nodup∧AG (fun id (r:Nw)=>H[id]?=some r.ob∧∀ d∈r.ds,Da d) ids rows∧AjP P fn F H ids rows res)):CVN P G f args rows res:=by
 intro w S vs hg hlt hargs
 refine calls_of_wp hf hb ?_
 refine wp_mono (h w.heap.size w ⟨S,[]⟩ _ ⟨w,S,[],fun _=>none⟩ (fun w' hb'=>hG w w' hb' hg) rfl (OA hN ha hlt hargs)) fun e a' w' ⟨F',m',hw,hs,hret⟩=>?_
 subst hw
 obtain ⟨he,ids,hnd,hids,hres⟩:=hret
 obtain ⟨es,hes⟩:=ents hs.tot hids
 have hS:∀ b,m'.S false b→Ni S w m'.w es false b:=fun b hb'=>⟨rfl,(hs.S b hb').elim .inl fun hle=>.inr ⟨hle,hs.cx.lt _ _ hb',fun e he hown=>by
  obtain ⟨k,hk⟩:=fb he
  obtain ⟨id,hid⟩:∃ id,ids[k]?=some id:=⟨_,gE (by have:=(gS.1 hk).1;have:=hes.1;omega)⟩
  exact hs.cx.far id e b false (hes.2 k id e hid hk) hown hb'⟩⟩
 have hdat:∀ {x:D} {v:Value},Da x→Bf m'.w m'.S x v→Bf m'.w (Ni S w m'.w es) x v:=fun hx hv=>Bf.free hS hv hx
 have hnew:AjO w m'.w (Ni S w m'.w es) rows es:=by
  refine ⟨by rw [←hes.1,hids.1],fun k e hk=>?_,List.pairwise_iff_getElem.2 fun i j hi hj hij=>?_⟩
  ·obtain ⟨id,hid⟩:∃ id,ids[k]?=some id:=⟨_,gE (by have:=(gS.1 hk).1;have:=hes.1;omega)⟩
   obtain ⟨r,hr,hHr,hfr⟩:=hids.at_ hid
   have hE:=hes.2 k id e hid hk
   obtain ⟨hat,ob,hob,hrel⟩:=hs.cx.each id e hE
   rw [hHr] at hob
   cases hob
   cases e with
   | box g vs t=>exact hrel.elim
   | row v' ty' s' n' xs =>
    obtain ⟨rfl,rfl,rfl,hl⟩:=hrel
    refine ⟨r,v',xs,hr,rfl,hat,⟨by rw [←hl.1,af],fun j d v hd hv=>?_⟩⟩
    exact hdat (hfr d (gM hd)) (hl.2 j (.d d) v (by rw [ag,hd];rfl) hv)
  ·have h1:=hes.1
   refine hs.cx.apart (ids[i]'(by omega)) (ids[j]'(by omega)) _ _ (List.pairwise_iff_getElem.1 hnd i j (by omega) (by omega) hij) ?_ ?_
   ·exact hes.2 i _ _ (gE _) (gE _)
   ·exact hes.2 j _ _ (gE _) (gE _)
 have hyc:∀ {y:Yr} {c:C} {v:Value},YC ids rows y c→Db m' c v→Ago m'.w (Ni S w m'.w es) rows es y v:=fun {y c v} hy hv=>by
  cases y with
  | d x =>
   obtain ⟨rfl,hx⟩:=hy
   exact hdat hx hv
  | own k n =>
   obtain ⟨id,r,hid,hr,rfl,rfl⟩:=hy
   obtain ⟨hone,ob,hob,_,hk⟩:=hv
   have hHr:=(hids.2 k id r hid hr).1
   rw [hHr] at hob
   cases hob
   obtain ⟨e,hE,hve⟩:=hk rfl
   obtain ⟨e',he',hE'⟩:=hes.at_ hid
   rw [hE] at hE'
   cases hE'
   exact ⟨hone,e,r,he',hr,rfl,hve⟩
 have hfin:∃ v,(results fn a'.tmps).run P m'.w=.ok v m'.w∧AjN m'.w (Ni S w m'.w es) rows es res v:=by
  cases hres with
  | @tmp t y c hr hF hy =>
   have hx:=hs.frame t
   rw [hF] at hx
   exact ⟨_,MP hr rfl,hyc hy hx⟩
  | @cell t ty ty' id d cs ys hr hF hH hu hd hi hl =>
   have hx:=hs.frame t
   rw [hF] at hx
   obtain ⟨g,us,hv,hE,_,hg',hl2⟩:=Ny hs.cx hx hH
   refine ⟨.agg us.toArray,MP hr ?_,us,rfl,by rw [hl.1,hl2.1],fun j y u hy hu'=>?_⟩
   ·simp only [RL,hv,asAddr,ah,bo,av]
    exact AcE
   ·obtain ⟨c,hc,hyj⟩:=hl.at_ hy
    exact hyc hyj (hl2.2 j c u hc hu')
  | tup hr hq =>
   obtain ⟨vs,h1,h2⟩:=Ri (R:=AjM m'.w (Ni S w m'.w es) rows es) (tmps:=a'.tmps) (P:=P) (w:=m'.w) hr (hq.imp fun r y hry=>by
    cases hry with
    | @tmp t y c hF hy =>
     have hx:=hs.frame t
     rw [hF] at hx
     exact ⟨_,rfl,hyc hy hx⟩
    | @cell t ty ty' id d cs ys hF hH hu hd hi hl =>
     have hx:=hs.frame t
     rw [hF] at hx
     obtain ⟨g,us,hv,hE,_,hg',hl2⟩:=Ny hs.cx hx hH
     refine ⟨.agg us.toArray,?_,us,rfl,by rw [hl.1,hl2.1],fun j y u hy hu'=>?_⟩
     ·simp only [RL,hv,asAddr,ah,bo,av]
      exact AcE
     ·obtain ⟨c,hc,hyj⟩:=hl.at_ hy
      exact hyc hyj (hl2.2 j c u hc hu'))
   exact ⟨_,h1,vs,rfl,h2⟩
 obtain ⟨v,hrun,hv⟩:=hfin
 rcases he with rfl|rfl
 ·exact ⟨hs.defers,v,hrun,v,es,rfl,hnew,hv,hs.below⟩
 ·exact ⟨hs.defers,v,hrun,v,es,rfl,hnew,hv,hs.below⟩
section
variable {P:Program} {G:World→Prop} {o:Oper} {F:Frm} {H:List Ob}
theorem Hj {c:Code} (ho:o.op=.call { callee:=.value (.func f),args:=xs,argTypes:=ts })
  (hf : P.funcs[f]? = some fn) (hn : (fn.name == "runtime.NumGoroutine") = false) (hb : fn.body = some c) {args : List A} {rows : List Nw} {res : YR} (h : CVN P G f args rows res) (ha : AG (fun x y => GH true H (F.ev x) y) xs.toList args) :
  AK P G o F H (res.x H.length) (rows.map Nw.ob):=by
 intro b0 m a hp hx hg hb0 hE hor K Q hK
 have hp0:H <+: m.H:=(List.prefix_append _ _).trans hp
 have hxs:∀ x∈xs.toList,Fb m (F.ev x) (a.eval x):=fun x hm=>AO hor (by
  rw [ho]
  simp only [Op.operands,Call.operands,gy,gz]
  exact .inr hm)
 let Sx:Dt:=fun t b=>m.S t b∨(t=true∧∃ id e,m.E id=some e∧e.own=some b)
 have hcalls:=h m.w Sx (xs.toList.map a.eval) hg (fun t b hb=>by
  rcases hb with hb|⟨_,id,e,he,hown⟩
  ·exact hx.lt t b hb
  ·exact (Et.lt (hx.each id e he).1 hown).2) ⟨by rw [af];exact ha.1.symm,fun j y v hy hv=>by
   simp only [ag,cq] at hv
   obtain ⟨x,hxj,rfl⟩:=hv
   exact GH.rel hx (fun b hb=>.inl hb) (fun _ b hb=>.inl hb) (fun id e g he hg=>.inr ⟨rfl,id,e,he,hg⟩) ((ha.2 j x y hxj hy).pre hp0) (hxs x (gM hxj))⟩
 unfold Oper.wp execOp
 simp only [ho,resolve,Act.eval,Deferred.ofValue,ah,bo,av,invoke]
 rw [DN hf hn hb]
 rw [gc]
 have he:((#[]:Array Value)++xs.map a.eval++#[])=(xs.toList.map a.eval).toArray:=fm (by simp)
 simp only [he]
 refine hcalls.mono fun e w' ⟨v,es,hev,hnew,hres,hbel⟩=>?_
 subst hev
 have hS:∀ t b,Ni Sx m.w w' es t b→(m.plus w' H.length es).S t b:=fun t b hb=>by
  obtain ⟨rfl,h1|h1⟩:=hb
  ·rcases h1 with h1|⟨h1,_⟩
   ·exact .inl h1
   ·cases h1
  ·exact .inr ⟨rfl,h1.1,h1.2.1,h1.2.2⟩
 have hobs:∀ (k:Nat) (r:Nw),rows[k]?=some r→m.H[H.length+k]?=some r.ob:=fun k r hk=>getElem?_pre hp (by
  rw [ef (by omega),show H.length+k - H.length=k by omega,ag,hk]
  rfl)
 have hEe:∀ (k:Nat) (e:Et),es[k]?=some e→(m.plus w' H.length es).E (H.length+k)=some e:=fun k e hk=>by
  have hlt:=(gS.1 hk).1
  show (if H.length≤H.length+k∧H.length+k<H.length+es.length then es[H.length+k - H.length]? else _)=some _
  rw [if_pos ⟨by omega,by omega⟩,show H.length+k - H.length=k by omega]
  exact hk
 have hyr:∀ {y:Yr} {u:Value},Ago w' (Ni Sx m.w w' es) rows es y u→Db (m.plus w' H.length es) (y.c H.length) u:=fun {y u} hy=>by
  cases y with
  | d x=>exact Bf.mono hS (fun _ _ _=>rfl) hy
  | own k n =>
   obtain ⟨hone,e,r,he,hr,rfl,rfl⟩:=hy
   exact ⟨hone,_,hobs k r hr,(fun n1 n2 h1 h2=>by cases h1;cases h2;exact aa _),fun _=>⟨_,hEe k e he,rfl⟩⟩
 refine hK v w' es ⟨by rw [hnew.len,af],hbel,fun k e hk=>?_,hnew.apart⟩ ?_
 ·obtain ⟨r,v',xs',hr,rfl,hat,hl⟩:=hnew.each k e hk
  refine ⟨⟨hat.1,hat.2.imp id fun ⟨g,cap,cur,e,hb,r⟩=>⟨g,cap,cur,e,lT hb0 hb,r⟩⟩,fun g hg'=>(Et.lt hat hg').1,r.ob,by rw [ag,hr];rfl,rfl,rfl,rfl,⟨by rw [af];exact hl.1,fun j c u hc hu=>?_⟩⟩
  rw [ag,cq] at hc
  obtain ⟨d,hd,rfl⟩:=hc
  exact Bf.mono hS (fun _ _ _=>rfl) (hl.2 j d u hd hu)
 ·cases res with
  | one y=>exact hyr hres
  | agg ys =>
   obtain ⟨us,rfl,hl⟩:=hres
   exact ⟨us,rfl,by rw [af];exact hl.1,fun j c u hc hu=>by
    rw [ag,cq] at hc
    obtain ⟨y,hy,rfl⟩:=hc
    exact hyr (hl.2 j y u hy hu)⟩
  | tup l =>
   obtain ⟨us,rfl,hl⟩:=hres
   exact ⟨us,rfl,by rw [af];exact hl.1,fun j c u hc hu=>by
    rw [ag,cq] at hc
    obtain ⟨y,hy,rfl⟩:=hc
    have h1:=hl.2 j y u hy hu
    cases y with
    | one y=>exact hyr h1
    | agg ys =>
     obtain ⟨xs,rfl,h2⟩:=h1
     exact ⟨xs,rfl,by rw [af];exact h2.1,fun j c u hc hu=>by
      rw [ag,cq] at hc
      obtain ⟨y,hy,rfl⟩:=hc
      exact hyr (h2.2 j y u hy hu)⟩⟩
def TC.x:TC→X
 | .one c=>.one c
 | .agg cs=>.agg cs
theorem AcF {x:Operand} {i:Nat} {l:List TC} {y:TC} (ho:o.op=.extract x i) (hx:F.ev x=.tupC l) (hy:l[i]?=some y):AK P G o F H y.x []:=BB fun b0 m a _ _ hor=>by
 have hv:=AO hor (x:=x) (by rw [ho];simp [Op.operands])
 rw [hx] at hv
 obtain ⟨vs,hv,hl⟩:=hv
 obtain ⟨u,hu,hr⟩:=hl.at_ hy
 refine ⟨u,?_,?_⟩
 ·unfold execOp
  simp [ho,hv,Instr.extract,hu]
 ·cases y <;> exact hr
theorem AjQ {x:Operand} {l:List TC} (ho:o.op=.move x) (hx:F.ev x=.tupC l):AK P G o F H (.tupC l) []:=by rw [←hx];exact RN ho
theorem Zf {c:Code} {args:List A} {ty:TypeId} {ds:List D} (ho:o.op=.call { callee:=.value (.func f),args:=xs,argTypes:=ts })
  (hf : P.funcs[f]? = some fn) (hn : (fn.name == "runtime.NumGoroutine") = false) (hb : fn.body = some c) (h : CVN P G f args [⟨ty, s, n, ds⟩] (.one (.own 0 n))) (ha : AG (fun x y => GH true H (F.ev x) y) xs.toList args) :
  AK P G o F H (.one (.own H.length n)) [.row ty s n (ds.map C.d)]:=Hj ho hf hn hb h ha
theorem Zg {c:Code} {args:List A} {ty ty' ty2:TypeId} {s' s2 n' n2:Nat} {ds ds' ds2:List D} (ho:o.op=.call { callee:=.value (.func f),args:=xs,argTypes:=ts })
  (hf : P.funcs[f]? = some fn) (hn : (fn.name == "runtime.NumGoroutine") = false) (hb : fn.body = some c) (h : CVN P G f args [⟨ty, s, n, ds⟩, ⟨ty', s', n', ds'⟩, ⟨ty2, s2, n2, ds2⟩] (.agg [.own 0 n, .own 1 n', .own 2 n2])) (ha : AG (fun x y => GH true H (F.ev x) y) xs.toList args) :
  AK P G o F H (.agg [.own H.length n,.own (H.length+1) n',.own (H.length+2) n2]) [.row ty s n (ds.map C.d),.row ty' s' n' (ds'.map C.d),.row ty2 s2 n2 (ds2.map C.d)]:=Hj ho hf hn hb h ha
theorem Jl {ops:Array Oper} {l:List Oper} {K:Frm→List Ob→Prop} {d:Tmp} {xx:X} {obs:List Ob} (h:AK P G o F H xx obs) (k:Ti P G ops l (F.put (some d) xx) (H++obs) K) (hg:o.guard=none:=by with_unfolding_all exact rfl) (hd:o.dst=some d:=by with_unfolding_all exact rfl):Ti P G ops (o::l) F H K:=by
 refine AgP hg h ?_
 rw [congrArg (fun q=>F.put q xx) hd]
 exact k
def D.pl:D→Bool
 | .val _=>true
 | _=>false
def A.pl:A→Bool
 | .one d=>d.pl
 | .agg ds=>ds.all D.pl
theorem Zh {w':World} {S':Dt} {d:D} {v:Value} (hd:d.pl=true) (h:Bf w S d v):Bf w' S' d v:=by
 cases h with
 | val hv=>exact .val hv
 | row=>cases hd
 | ptr=>cases hd
theorem Zi {S':Dt} {x:A} {v:Value} (hd:x.pl=true) (h:DY w S x v):DY w S' x v:=by
 cases x with
 | one d=>exact Zh hd h
 | agg ds =>
  obtain ⟨xs,h1,h2⟩:=h
  exact ⟨xs,h1,h2.1,fun j d u hj hu=>Zh (List.all_eq_true.1 hd d (gM hj)) (h2.2 j d u hj hu)⟩
theorem Hk {c:Code} (ho:o.op=.call { callee:=.value (.func f),args:=xs,argTypes:=ts })
  (hf : P.funcs[f]? = some fn) (hn : (fn.name == "runtime.NumGoroutine") = false) (hb : fn.body = some c) {args res : List A} (hpl : res.all A.pl = true) (h : CV P G f args res) (ha : AG (fun x y => ∃ t, GH t H (F.ev x) y) xs.toList args) :
  AK P G o F H (Adx res) []:=by
 intro b0 m a hp hx hg hb0 _ hor K Q hK
 rw [bd] at hp
 have hxs:∀ x∈xs.toList,Fb m (F.ev x) (a.eval x):=fun x hm=>AO hor (by
  rw [ho]
  simp only [Op.operands,Call.operands,gy,gz]
  exact .inr hm)
 let Sx:Dt:=fun t b=>m.S t b∨(∃ id e,m.E id=some e∧e.own=some b)
 have hcalls:=h m.w Sx (xs.toList.map a.eval) hg (fun t b hb=>by
  rcases hb with hb|⟨id,e,he,hown⟩
  ·exact hx.lt t b hb
  ·exact (Et.lt (hx.each id e he).1 hown).2) ⟨by rw [af];exact ha.1.symm,fun j y v hy hv=>by
   simp only [ag,cq] at hv
   obtain ⟨x,hxj,rfl⟩:=hv
   obtain ⟨_,hxe⟩:=ha.2 j x y hxj hy
   exact GH.rel hx (fun b hb=>.inl hb) (fun _ b hb=>.inl hb) (fun id e g he hg=>.inr ⟨id,e,he,hg⟩) (hxe.pre hp) (hxs x (gM hxj))⟩
 unfold Oper.wp execOp
 simp only [ho,resolve,Act.eval,Deferred.ofValue,ah,bo,av,invoke]
 rw [DN hf hn hb]
 rw [gc]
 have he:((#[]:Array Value)++xs.map a.eval++#[])=(xs.toList.map a.eval).toArray:=fm (by simp)
 simp only [he]
 refine hcalls.mono fun e w' ⟨v,hev,hres,hbel⟩=>?_
 subst hev
 refine hK v w' [] ⟨rfl,hbel,fun k e hk=>by simp at hk,List.Pairwise.nil⟩ (Oz ?_)
 have hall:∀ y∈res,y.pl=true:=List.all_eq_true.1 hpl
 have hl:∀ {l:List A} {vs:List Value},(∀ y∈l,y.pl=true)→AG (DY w' (Adp Sx m.w w')) l vs→AG (DY w' (m.plus w' H.length []).S) l vs:=fun hl h=>⟨h.1,fun j y u hy hu=>Zi (hl y (gM hy)) (h.2 j y u hy hu)⟩
 match res,hres,hall with
 | [],hres,ha=>obtain ⟨vs,h1,h2⟩:=hres;exact ⟨vs,h1,hl ha h2⟩
 | [x],hres,ha=>exact Zi (ha x (by simp)) hres
 | x::y::l,hres,ha=>obtain ⟨vs,h1,h2⟩:=hres;exact ⟨vs,h1,hl ha h2⟩
end
theorem Abm {N:Nat} {F:Frm} {cs cs':List C} (id:Nat) (hH:H[id]?=some (.row ty s n cs)) (hc:∀ (m:Mm) (xs:List Value),AG (Db m) cs xs→AG (Db m) cs' xs):Wk N F H F (H.set id (.row ty s n cs')):=fun b0 w0 S0 a m hm hs=>by
 subst hm
 have hlt:=(gS.1 hH).1
 let m':Mm:={ m with H:=m.H.set id (.row ty s n cs') }
 have hH':∀ i (ob:Ob),m.H[i]?=some ob→∃ ob',m'.H[i]?=some ob'∧ob'.k=ob.k∧(i≠id→ob'=ob):=fun i ob hob=>by
  by_cases h:id=i
  ·subst h
   rw [hH] at hob
   cases hob
   exact ⟨_,fo hlt,rfl,fun h=>absurd rfl h⟩
  ·exact ⟨ob,by show (m.H.set id _)[i]?=_;rw [gd h];exact hob,rfl,fun _=>rfl⟩
 have hle:Le m m':=⟨fun _ _ h=>h,rfl,fun _ _ _=>rfl,fun i ob hob=>by
  obtain ⟨ob',h1,h2,_⟩:=hH' i ob hob
  exact ⟨ob',h1,fun k hk=>.inl ⟨by rw [←h2];exact hk,fun x hx=>⟨x,hx,rfl⟩⟩⟩⟩
 refine ⟨m',rfl,rfl,⟨⟨fun i x hx=>?_,hs.cx.apart,hs.cx.far,hs.cx.lt⟩,fun i ob hob hk=>?_,fun t'=>(hs.frame t').le hle,hs.size,hs.defers,hs.below,hs.base,hs.S,hs.T⟩⟩
 ·obtain ⟨h1,ob,h2,h3⟩:=hs.cx.each i x hx
  obtain ⟨ob',h4,_,h5⟩:=hH' i ob h2
  refine ⟨h1,ob',h4,?_⟩
  by_cases h:i=id
  ·subst h
   rw [hH] at h2
   cases h2
   have h4':(m.H.set i (.row ty s n cs'))[i]?=some ob':=h4
   rw [fo hlt] at h4'
   cases h4'
   cases x with
   | box g vs t=>exact h3.elim
   | row v t' s' n' xs =>
    obtain ⟨e1,e2,e3,hl⟩:=h3
    exact ⟨e1,e2,e3,(hc m xs hl).imp fun _ _=>Db.le hle⟩
  ·rw [h5 h]
   exact h3.le hle
 ·by_cases h:id=i
  ·subst h
   exact hs.tot id _ hH rfl
  ·have h2:(m.H.set id (.row ty s n cs'))[i]?=some ob:=hob
   rw [gd h] at h2
   exact hs.tot i ob h2 hk
theorem Zj {m:Mm}:∀ {n:Nat} {xs:List Value},AG (Db m) (cVs (List.replicate n none)) xs→AG (Db m) (cVs ((List.replicate n ((0,0):Pq)).map some)) xs
 | 0,xs,h=>h
 | n+1,xs,h=>by
  have h:AG (Db m) (cV none++cVs (List.replicate n none)) xs:=h
  obtain ⟨a,x1,rfl,h1,q1⟩:=h.uncons
  obtain ⟨b,x2,rfl,h2,q2⟩:=q1.uncons
  obtain ⟨c,x3,rfl,h3,q3⟩:=q2.uncons
  show AG (Db m) ((dyP (0,0)).map C.d++cVs ((List.replicate n ((0,0):Pq)).map some)) (a::b::c::x3)
  rw [show dyP (0,0)=[.val (.bool false),.row false 1 0 [],.val (.int .i64 0)] from zdy.symm]
  exact .cons_ h1 (.cons_ (Alr (w:=m.w) (S:=m.S) h2) (.cons_ h3 (Zj q3)))
theorem Abn (E:List Pq):cVs (E.map some)=(Ay dyP E).map C.d:=by
 rw [Alq,de]
 rfl
theorem AfL (E:List Pq):gV (E.map some)=E:=by
 unfold gV
 rw [de]
 exact (dz fun _ _=>rfl).trans (List.map_id E)
theorem Zk {t:Bool} {c:C} {y:D} {l:List Pq} (hc:c=.own id n) (hH:H[id]?=some (.row ty 3 n (cVs (l.map some)))) (hy:y=.row t 3 n (Ay dyP l)):Er t H c y:=AeQ hc hH (by rw [AfL];exact hy)
theorem Akm (xs:List Int):cI xs=(xs.map dI).map C.d:=by simp [cI,dI]
theorem Ga (l:List Int):∀ d∈l.map dI,Da d:=fun d hd=>by
 obtain ⟨z,_,rfl⟩:=List.mem_map.1 hd
 exact .val _
theorem FK (l:List Pq):∀ d∈Ay dyP l,Da d:=fun d hd=>Cv (f:=dyP) (fun p=>HM _ _) l d hd
theorem SR {t:Bool} {c:C} {y:D} {l:List Int} (hc:c=.own id n) (hH:H[id]?=some (.row ty 1 n (cI l))) (hy:y=.row t 1 n (l.map dI)):Er t H c y:=by
 refine CT hc hH hy ?_
 rw [Akm]
 exact AG.map_l.2 ⟨rfl,fun j a b ha hb=>by
  rw [ha] at hb
  cases hb
  exact .d fun _=>Ga l a (gM ha)⟩
theorem Il {t:Bool} {cs:List C} {ds:List D} (hc:cs=ds.map C.d) (h:∀ d∈ds,Da d):AG (Er t H) cs ds:=by
 subst hc
 exact AG.map_l.2 ⟨rfl,fun j a b ha hb=>by rw [ha] at hb;cases hb;exact .d fun _=>h _ (gM ha)⟩
theorem Pw {F:Frm} {ids:List Nat} {rows:List Nw} {t:Tmp} {ty' k:Nat} {cs:List C} {ys:List Yr} (hk:TyK P ty true k) (hF:F t=.one (.ref id 0 none)) (hH:H[id]?=some (.box ty' cs)) (hi:cs.length=k) (h:AG (YC ids rows) ys cs):RVT P F H ids rows (.cell t ty) (.agg ys):=by
 obtain ⟨⟨d,hu,hd⟩,hz⟩:=hk
 exact .cell hF hH hu hd (by rw [hz,hi]) h
theorem Abo {k:Int} {x:Pq} (h:¬ Hd (pw k) x<0):VQ n k x=k:=by
 cases n with
 | zero=>rfl
 | succ n=>unfold VQ;rw [if_neg h]
theorem SS {α:Type} {l:List α} {j:Nat} {i:α} (h:l[j]?=some i):l.drop j=i::l.drop (j+1):=by
 obtain ⟨hlt,he⟩:=gS.1 h
 rw [←he,←cn hlt]
def VR (F:List Int) (k:Nat):List Int:=Vy (F.take k)++F.drop k
theorem Abp (F:List Int) (k:Nat):(VR F k).length=F.length:=by
 unfold VR Vy
 rw [am,af,←am,eg]
theorem AfM {k:Nat} {f:Int} (h:F[k]?=some f):(VR F k)[k]?=some f∧(VR F k).set k (Agn f)=VR F (k+1)∧Zc (F.take (k+1))=(Zc (F.take k) || decide (0<f)):=by
 have hk:=(gS.1 h).1
 have hl:(Vy (F.take k)).length=k:=by unfold Vy;rw [af,eh];omega
 have e:F.take (k+1)=F.take k++[f]:=by rw [bg,h];rfl
 refine ⟨?_,?_,?_⟩
 ·unfold VR
  rw [ef (by omega),hl,du,bq,bz]
  exact h
 ·unfold VR
  rw [List.set_append_right _ _ (by omega),hl,du,SS h,e]
  unfold Vy
  rw [gg,List.append_assoc]
  rfl
 ·rw [e]
  unfold Zc
  rw [List.any_append]
  simp
def chW (n:Nat) (b:Bool) (F:List Int):List Nw:=if b=true then [⟨3,1,n,F.map dI⟩] else []
def chY (n:Nat) (b:Bool):YR:=if b=true then .tup [.one (.own 0 n),.one (.d (.val (PB 0)))] else .tup [.one (.d (.val (.slice none 0 0))),.one (.d (.val (PB 4)))]
def erW (n:Nat):Option (List Pq)→List Nw
 | none=>[]
 | some E=>[⟨43,3,n,Ay dyP E⟩]
def erY (n:Nat):Option (List Pq)→YR
 | none=>.tup [.one (.d (.val (.slice none 0 0))),.one (.d (.val (.bool false)))]
 | some _=>.tup [.one (.own 0 n),.one (.d (.val (.bool true)))]
def mkW (n:Nat):Option Ct→List Nw
 | none=>[]
 | some c=>[⟨3,1,n,c.F.map dI⟩,⟨43,3,n,Ay dyP c.E⟩]
def mkY (n:Nat):Option Ct→YR
 | none=>.tup [.agg [.d (.val (.slice none 0 0)),.d (.val (.slice none 0 0)),.d (.val (.slice none 0 0))],.one (.d (.val (.bool false))),.one (.d (.val (PB 0)))]
 | some c=>.tup [.agg [.own 0 n,.d (.row false 6 n (Ay (dIw false) c.R)),.own 1 n],.one (.d (.val (.bool true))),.one (.d (.val (PB 0)))]
theorem Vz (x:Pq) (sx:Sm x 40064 62):CV prog Al 184 [aDy false x.1 x.2] [aDy false (Zb x).1 (Zb x).2]:=by
 refine cvz func184 ntmps184 ?_
 have U0:=MH 62 (by decide) (by decide)
 repeat' (with_reducible first|refine qq ?_|(refine Tx 0 ?_;refine gN xBo <| gN (xAl Am) ?_)|(refine Tx 1 ?_;refine gO (xCl func218 (U0)) <| gN (xAl Am) <| gZ (xSk Ab) ?_))
 refine Bm (Cb 3) (Aw (fun n Fr H=>∃ k:Int,-62≤k∧k≤40064∧40064≤k+n∧VQ n k x=VQ 50000 (-62) x∧Fr=ofL [(1,vr 0),(2,vr 1),(3,vr 2)]∧H=[.box 43 ((dyP x).map C.d),.box 43 [.d (.val (.bool false)),.d (.val (.slice none 0 0)),.d (.val (.int .i64 0))],.box 43 ((dyP (pw k)).map C.d)]) (n0:=50000) ⟨-62,by decide,by decide,by decide,rfl,rfl,rfl⟩ ?_)
 rintro n Fr H ⟨k,k0,k1,kn,hres,rfl,rfl⟩
 have sp:=Rg k0 k1
 have st:=Ut sx k0 k1
 have nx:=fun h=>AfI (k:=k) k0 h
 have hstop:=Abo (n:=n) (k:=k) (x:=x)
 have CM:=BJ (pw k).1 (pw k).2 x.1 x.2 sp.ok sx.ok sp.lz sx.lz
 have SH:=Bo (pw k).1 (pw k).2 1 sp.ok sp.lz (by have:=sp.d;omega)
 have hqe:Hd (pw k) x=Bx (pw k).1 (pw k).2 x.1 x.2:=rfl
 by_cases hc:Hd (pw k) x<0
 case pos =>
  have k2:=st hc
  rw [show Ad (pw k).1 (pw k).2 1=pw (k+1) from nx (by omega)] at SH
  cases n
  case zero=>omega
  rename_i n
  rw [show VQ (n+1) k x=VQ n (k+1) x by rw [VQ,if_pos hc]] at hres
  rw [hqe] at hc
  clear st nx hstop hqe sp
  generalize Bx (pw k).1 (pw k).2 x.1 x.2=q at *
  generalize pw k=p at *
  repeat' (with_reducible first|refine qq ?_|(refine Tx 2 ?_;refine gO xL <| gO xL <| gO (xCl func15 (CM)) <| gO xLt ?_)|(refine Tx 3 ?_;refine gO xL <| gO (xCl func21 (SH)) <| gZ (xSk Ab) ?_))
  refine ⟨_,_,Cb 3,_,?_,k+1,by omega,by omega,by omega,hres,rfl,rfl⟩
  ·omega
 rw [show Zb x=pw k by unfold Zb;rw [←hres,hstop hc]]
 rw [hqe] at hc
 clear st nx hstop hqe sp SH
 generalize Bx (pw k).1 (pw k).2 x.1 x.2=q at *
 generalize pw k=p at *
 repeat' (with_reducible first|refine qq ?_|(refine Tx 2 ?_;refine gO xL <| gO xL <| gO (xCl func15 (CM)) <| gO xLt ?_)|(refine Tx 4 ?_;refine gO xL <| gZ (xSk Ab) ?_))
 exact CJ
theorem Als (a:Iq) (f m:Int) (h:IwS a LB LB) (f0:0≤f) (f1:f≤30) (m0:0≤m) (m1:m≤2147483647):CV prog Al 181 [aIw false a,aI f,aI m] [aB (wiB a f m)]:=by
 refine cvz func181 ntmps181 ?_
 have MG:=Hg a (h.more LBx LBx)
 have sg:=IH h
 obtain ⟨M,hM⟩:∃ M,DM a=M:=⟨_,rfl⟩
 rw [hM] at MG sg
 have SH:=Bo M.1 M.2 f sg.ok sg.lz (by have:=sg.ok.1;omega)
 have st:=EE sg f0 f1
 obtain ⟨T,hT⟩:∃ T,Eh M f=T:=⟨_,rfl⟩
 rw [hT] at st
 rw [show Ad M.1 M.2 f=T from hT] at SH
 have OF:=Em m (by omega) (by omega)
 have CM:=BJ T.1 T.2 m 0 st.ok ⟨by decide,fun h=>absurd rfl h⟩ st.lz (lT (Az (k:=2) (by omega)) (by decide))
 rw [show wiB a f m=decide (Bx T.1 T.2 m 0≤0) by unfold wiB;rw [hM,hT]]
 generalize Bx T.1 T.2 m 0=q at *
 repeat' (with_reducible first|refine qq ?_|(refine Tx 0 ?_;refine gN xBo <| gO xA ?_)|(refine Tx 1 ?_;refine gO xL <| gO (xCl func159 (MG)) <| gO xM <| gO (xCl func21 (SH)) <| gO xM <| gO (xCl func68 (OF)) <| gO (xCl func15 (CM)) <| gO xLe <| gO xA ?_))
 exact Cc
theorem Abq (t:Bool) {ps:List Prt} {bs:List Bk} {os:List Int} (hl:Ff ps bs os) (h0:AP ps bs os=0) (R:List Iq) (hR:R.length=bs.length) (sR:∀ p∈R,IwS p LB LB):CV prog Al 180 [aDg t ps bs os,.one (.row false 6 R.length (Ay (dIw false) R))] [aE 0]:=by
 refine cvz func180 ntmps180 ?_
 have CK:=(Fz t hl (ps:=ps) (bs:=bs) (os:=os)).cv
 rw [h0] at CK
 have hn:=hl.l2
 repeat' (with_reducible first|refine qq ?_|(refine Tx 0 ?_;refine gN xBo <| gO xA ?_)|(refine Tx 1 ?_;refine gO xL <| gO (xCl func35 (CK)) <| gO xA ?_)|(refine Tx 2 ?_;refine gO xM <| gO (xNE Ai) ?_)|(refine Tx 4 ?_;refine gO xM <| gO xN <| gO xF <| gO xD <| gO xN <| gO xNe ?_)|(refine Tx 6 ?_;refine gO xM <| gO xN <| gO xM ?_))
 refine Bm (Cb 1) (Aw (fun n Fr H=>∃ k:Nat,k≤R.length∧n=R.length - k∧Fr=ofL [(2,vr 0),(20,vd (.row false 6 R.length (Ay (dIw false) R))),(21,vi R.length),(22,vi ((k:Nat)))]∧H=[.box 26 [.d (EP t ps),.d (Ee t bs),.d (Bw t os)]]) (n0:=R.length) ⟨0,ad _,rfl,rfl,rfl⟩ ?_)
 rintro n Fr H ⟨k,hk,rfl,rfl,rfl⟩
 by_cases hlt:k<R.length
 case pos =>
  obtain ⟨b,hb⟩:∃ b,R[k]?=some b:=⟨_,gE hlt⟩
  have sb:=sR b (gM hb)
  have VI:CV prog Al 122 [aIw false b] [aB true]:=by
   have:=FX (DZ b.1) (DZ b.2) (Mu sb.s1 (by decide)) (Mu sb.s2 (by decide))
   rw [AaR sb] at this
   have e:dIr false (DZ b.1,DZ b.2)=dIw false b:=by show dRv false (DZ b.1)++dRv false (DZ b.2)=_;rw [Mt,Mt];rfl
   rw [e] at this
   exact this
  repeat' (with_reducible first|refine qq ?_|(refine Tx 7 ?_;refine gO xLt ?_)|(refine Tx 8 ?_;refine gO (xIr Af (GE hb)) <| gO xL <| gN (xAl Ah) <| gZ (xSk Ac) ?_)|(refine Tx 9 ?_;refine gO xL <| gO (xCl func122 (VI)) <| gO EF ?_)|(refine Tx 11 ?_;refine gO xAd <| gO xM ?_))
  refine ⟨_,_,Cb 1,_,by omega,k+1,by omega,rfl,rfl,rfl⟩
 obtain rfl:k=R.length:=by omega
 repeat' (with_reducible first|refine qq ?_|(refine Tx 7 ?_;refine gO xLt ?_)|(refine Tx 12 ?_;refine gO xA ?_))
 exact AE rfl (.cons_ (Fg rfl rfl) .nil_)
theorem VB (t:Bool) {ps:List Prt} {bs:List Bk} {os:List Int} (hl:Ff ps bs os) (h0:AP ps bs os=0) (R:List Iq) (hR:R.length=bs.length) (sR:∀ p∈R,IwS p LB LB):CVN prog Al 86 [aDg t ps bs os,.one (.row false 6 R.length (Ay (dIw false) R))] (chW R.length (R.all pkB) (R.map pkS)) (chY R.length (R.all pkB)):=by
 refine Rj Qw func86 rfl ntmps86 (bi rfl) ?_
 have GC:=Abq t hl h0 R hR sR
 have hn:=hl.l2
 repeat' (with_reducible first|refine qq ?_|(refine Tx 0 ?_;refine gN xBo <| gO xA <| gO xA ?_)|(refine Tx 1 ?_;refine gO xL <| gO xM <| gO (xCl func180 (GC)) <| gO xA ?_)|(refine Tx 2 ?_;refine gO xM <| gO (xNE Ai) ?_)|(refine Tx 4 ?_;refine gO xA ?_))
 refine Bm (NF 7 3 1 rfl) ?_
 repeat' (with_reducible first|refine qq ?_|(refine Tx 5 ?_;refine gO xM <| gO xN <| gO xM ?_))
 refine Bm (Cb 2) (Aw (fun n Fr H=>∃ k:Nat,k≤R.length∧n=R.length - k∧(∀ p∈R.take k,pkB p=true)∧Fr=ofL [(2,vr 0),(7,vo 1 (k)),(17,vd (.row false 6 R.length (Ay (dIw false) R))),(18,vi R.length),(19,vi ((k:Nat)))]∧H=[.box 26 [.d (EP t ps),.d (Ee t bs),.d (Bw t os)],.row 3 1 (k) (cI ((R.map pkS).take (k)))]) (n0:=R.length) ⟨0,ad _,rfl,(fun p hp=>by simp at hp),rfl,rfl⟩ ?_)
 rintro n Fr H ⟨k,hk,rfl,hal,rfl,rfl⟩
 by_cases hlt:k<R.length
 case pos =>
  obtain ⟨b,hb⟩:∃ b,R[k]?=some b:=⟨_,gE hlt⟩
  have sb:=sR b (gM hb)
  repeat' (with_reducible first|refine qq ?_|(refine Tx 6 ?_;refine gO xLt ?_)|(refine Tx 7 ?_;refine gO (xIr Af (GE hb)) <| gO xL <| gN (xAl Ah) <| gZ (xSk Ac) ?_)|(refine Tx 8 ?_;refine gO xA ?_))
  refine Bm (Cb 3) (Aw (fun n Fr H=>n≤31∧pkF b n=pkS b∧Fr=ofL [(2,vr 0),(7,vo 1 (k)),(17,vd (.row false 6 R.length (Ay (dIw false) R))),(18,vi R.length),(19,vi ((k:Nat))),(9,vr 2),(10,vi (((n:Nat):Int) - 1))]∧H=[.box 26 [.d (EP t ps),.d (Ee t bs),.d (Bw t os)],.row 3 1 (k) (cI ((R.map pkS).take (k))),.box 45 ((dIw false b).map C.d)]) (n0:=31) ⟨aa _,rfl,rfl,rfl⟩ ?_)
  rintro n Fr H ⟨hn31,hpk,rfl,rfl⟩
  cases n
  case zero =>
   have hpk:(-1:Int)=pkS b:=hpk
   have hnb:R.all pkB=false:=Acq hb (decide_eq_false (by omega))
   rw [show chW R.length (R.all pkB) (R.map pkS)=[] by rw [hnb];rfl,show chY R.length (R.all pkB)=.tup [.one (.d (.val (.slice none 0 0))),.one (.d (.val (PB 4)))] by rw [hnb];rfl]
   repeat' (with_reducible first|refine qq ?_|(refine Tx 9 ?_;refine gO xM <| gO xGe <| gO xM ?_;(first|iterate 2 refine Jd ?_|(refine Jy (xLa Ac) ?_;refine Jy xM1 ?_));refine Jd ?_;(first|refine Jd ?_|refine Jy EF ?_);refine gO xPk ?_)|(refine Tx 11 ?_;refine gO xM <| gO xLt ?_)|(refine Tx 12 ?_;refine gO (xMi underlying109) <| gO xA <| gO xA ?_))
   exact ⟨.inl rfl,[],by decide,.nil_,.tup (congrArg Array.toList results86) (.cons_ (.tmp rfl ⟨rfl,.val _⟩) (.cons_ (.tmp rfl ⟨rfl,.val _⟩) .nil_))⟩
  rename_i n
  have WI:=Als b ((n+1:Nat) - 1:Int) 1073741824 sb (by omega) (by omega) (by decide) (by decide)
  have hpk:(if wiB b (n:Int) 1073741824=true then (n:Int) else pkF b n)=pkS b:=hpk
  have hne:(((n+1:Nat):Int) - 1)=(n:Int):=by omega
  rw [hne] at WI
  cases hw:wiB b (n:Int) 1073741824
  case false =>
   rw [hw] at WI hpk
   rw [if_neg (by decide)] at hpk
   rw [hne]
   repeat' (with_reducible first|refine qq ?_|(refine Tx 9 ?_;refine gO xM <| gO xGe <| gO xM ?_;(first|iterate 4 refine Jd ?_|(refine Jy (xLa Ac) ?_;refine Jy xM1 ?_;refine Jy (xCl func181 (WI)) ?_;refine Jy EF ?_));refine gO xPk ?_)|(refine Tx 10 ?_;refine gO xM <| gO xSb <| gO xA ?_))
   refine ⟨_,_,Cb 3,n,by omega,by omega,hpk,rfl,rfl⟩
  rw [hw] at WI hpk
  rw [if_pos rfl] at hpk
  have hpb:pkB b=true:=decide_eq_true (by omega)
  have hmp:(R.map pkS)[k]?=some (n:Int):=by rw [ag,hb,hpk];rfl
  have hap:((R.map pkS).take (k))++[(n:Int)]=((R.map pkS).take (k+1)):=by rw [bg,hmp];rfl
  rw [hne]
  repeat' (with_reducible first|refine qq ?_|(refine Tx 9 ?_;refine gO xM <| gO xGe <| gO xM ?_;(first|iterate 4 refine Jd ?_|(refine Jy (xLa Ac) ?_;refine Jy xM1 ?_;refine Jy (xCl func181 (WI)) ?_;refine Jy EF ?_));refine gO xPk ?_)|(refine Tx 11 ?_;refine gO xM <| gO xLt ?_)|(refine Tx 13 ?_;refine gO xM <| gO xM <| gN (by exact Cn rfl Ae CR rfl rfl (by decide) (by decide)) <| gT (by exact WX rfl rfl rfl rfl rfl rfl Ae CR (by omega) (by decide) hap rfl) <| gO xA ?_)|(refine Tx 14 ?_;refine gO xAd <| gO xM ?_))
  refine ⟨_,_,Cb 2,_,by omega,k+1,by omega,rfl,EA hal hb hpb,rfl,rfl⟩
 obtain rfl:k=R.length:=by omega
 rw [bh] at hal
 have hall:R.all pkB=true:=List.all_eq_true.2 hal
 rw [show chW R.length (R.all pkB) (R.map pkS)=[⟨3,1,R.length,(R.map pkS).map dI⟩] by rw [hall];rfl,show chY R.length (R.all pkB)=.tup [.one (.own 0 R.length),.one (.d (.val (PB 0)))] by rw [hall];rfl]
 have hT:(R.map pkS).take R.length=R.map pkS:=ap (by rw [af];exact aa _)
 rw [hT]
 repeat' (with_reducible first|refine qq ?_|(refine Tx 6 ?_;refine gO xLt ?_)|(refine Tx 15 ?_;refine gO xM <| gO xA <| gO xA ?_))
 exact ⟨.inl rfl,[1],by decide,.cons_ ⟨congrArg some (congrArg (Ob.row _ 1 _) (Akm _)),Ga _⟩ .nil_,.tup (congrArg Array.toList results86) (.cons_ (.tmp rfl ⟨1,_,rfl,rfl,rfl,rfl⟩) (.cons_ (.tmp rfl ⟨rfl,.val _⟩) .nil_))⟩
end Go.Proofs.YtmdfjbpggbhgnaaGreatDoor
