/- What the proofs of this claim share, part 17. No conditions. -/
import Derived.Test.YtjlkgfeepocjfaaGreatDoorMk15
import Derived.Test.YtjlkgfeepocjfaaGreatDoorMk16
import Derived.Test.YtjlkgfeepocjfaaGreatDoorMk11
import Derived.Test.YtjlkgfeepocjfaaGreatDoorMk7
import Derived.Test.YtjlkgfeepocjfaaGreatDoorMk8
import Derived.Test.YtjlkgfeepocjfaaGreatDoorMk9
set_option maxRecDepth 100000
set_option maxHeartbeats 8000000
set_option linter.all false
open Go.Proofs.Tryz
namespace Go.Proofs.YtjlkgfeepocjfaaGreatDoor
open Go.RowKit
variable {f:FuncId} {E:List Pq} {F os:List Int} {ps:List Prt} {bs:List Bk} {p p':Prop} {id n s ty:Nat} {qs:List (Rv × Rv)} {rs:List Rv} {r:Rv} {w:World} {S:EN} {P:Program} {fn:Func} {xs:Array Operand} {ts:Array TypeId} {H:List Ob}
section
variable {P:Program} {G:World→Prop} {o:Oper} {F:Frm} {H:List Ob}
theorem ApW (ho:o.op=.assign (.func f)):AZ P G o F H (.one (.clo (.func f) [])) []:=Ce fun b0 m a _ _ hor=>by
 refine ⟨.func (.func f) #[] #[],?_,[],rfl,Ba.nil_⟩
 unfold execOp
 simp [ho,Act.eval]
end
theorem UV {R:List Iq} {k:Nat} (h:k<R.length):R[k]?=some (R[k]?.getD iZ):=by rw [gE h];rfl
theorem eg_c {k:Nat} (h:k<E.length):E[k]?=some (E[k]?.getD (0,0)):=by rw [gE h];rfl
theorem My {k:Nat} (h:k<F.length):F[k]?=some (scA F k):=by unfold scA;rw [gE h];rfl
structure AeV (ps:List Prt) (n:Nat) (y:Bk):Prop where
 hk:y.kind=0∨y.kind=1∨y.kind=2∨y.kind=3∨y.kind=4∨y.kind=5∨y.kind=6∨y.kind=7∨y.kind=8∨y.kind=9∨y.kind=10∨y.kind=11
 a0:y.kind≠1→∃ a:Nat,y.args[0]?=some (a:Int)∧De y=(a:Int)∧(y.kind≠0→a<n)
 a1:(y.kind=3∨y.kind=4∨y.kind=7∨y.kind=8∨y.kind=9)→∃ a:Nat,y.args[1]?=some (a:Int)∧FV y=(a:Int)∧a<n
 all:y.kind≠0→∀ a∈y.args,0≤a∧a<(n:Int)
 len:y.args.length≤2
 port:y.kind=0→∃ (i:Nat) (p:Prt),y.args[0]?=some (i:Int)∧De y=(i:Int)∧ps[i]?=some p∧Qp p
 sv:(y.kind=1∨y.kind=2∨y.kind=6∨y.kind=11)→DN y.vn y.ve
 su:y.kind=11→DN y.un y.ue
 cl:y.kind=11→Gf (Af y.vn 0 y.ve) (Af y.un 0 y.ue)≤0
theorem Aac (he:AY ps bs os=0) {i:Nat} {y:Bk} (hy:bs[i]?=some y):AeV ps bs.length y:=by
 have hac:=GB he hy
 have hcg:=hac.1
 have hck:=hac.2.1
 have hlen:y.args.length≤2:=by unfold Bw at hcg hck;(repeat' split at hck) <;> omega
 refine ⟨XT he hy,fun h1=>?_,fun h2=>?_,fun h0 a ha=>?_,hlen,fun h0=>?_,fun h=>?_,fun h=>(Ot he hy h).2.1,fun h=>(Ot he hy h).2.2⟩
 ·have hl:1≤y.args.length:=by unfold Bw at hcg hck;(repeat' split at hck) <;> omega
  obtain ⟨a,ha⟩:∃ a,y.args[0]?=some a:=⟨_,gE (by omega)⟩
  have hb:=hac.2.2 a (gM ha)
  refine ⟨a.toNat,by rw [ha];congr 1;omega,by unfold De;rw [ha];show a=_;omega,fun h0=>?_⟩
  rw [show EE ps.length bs.length y.kind=bs.length from if_neg h0] at hb
  omega
 ·have hl:2≤y.args.length:=by unfold Bw at hcg hck;(repeat' split at hck) <;> omega
  obtain ⟨a,ha⟩:∃ a,y.args[1]?=some a:=⟨_,gE (by omega)⟩
  have hb:=hac.2.2 a (gM ha)
  rw [show EE ps.length bs.length y.kind=bs.length from if_neg (by omega)] at hb
  exact ⟨a.toNat,by rw [ha];congr 1;omega,by unfold FV;rw [ha];show a=_;omega,by omega⟩
 ·have hb:=hac.2.2 a ha
  rwa [show EE ps.length bs.length y.kind=bs.length from if_neg h0] at hb
 ·have hl:y.args.length=1:=by rw [h0] at hck;simp [Bw] at hck;omega
  obtain ⟨a,ha⟩:∃ a,y.args[0]?=some a:=⟨_,gE (by omega)⟩
  have hb:=hac.2.2 a (gM ha)
  rw [show EE ps.length bs.length y.kind=ps.length from if_pos h0] at hb
  obtain ⟨p,hp⟩:∃ p,ps[a.toNat]?=some p:=⟨_,gE (by omega)⟩
  exact ⟨a.toNat,p,by rw [ha];congr 1;omega,by unfold De;rw [ha];show a=_;omega,hp,UE he hp⟩
 ·exact Ps he hy (by unfold Pd;rcases h with h|h|h|h <;> rw [h] <;> rfl)
theorem SW {i:Nat} {p:Prt} (h:ps[i]?=some p):XS ps (i:Int)=p.fr:=by unfold XS;rw [ap,h];rfl
theorem DR (h:p:=by
 exact Au rfl (.cons_ (rvW Aa rfl) .nil_)):p:=h
theorem Gm (h:p:=by first|exact xNt|exact xNg):p:=h
theorem PQ (s:Int) (s0:0≤s) (s1:s≤62):CV prog Ah 134 [aI s] [aDy false (pw (-s)).1 (pw (-s)).2]:=by
 refine cvz func134 ntmps134 ?_
 have OF:=FS 1 (by decide) (by decide)
 have SH:=BW 1 0 (-s) ⟨by decide,fun h=>absurd rfl h⟩ (lT (Aw (k:=2) (by decide)) (by decide)) (by omega)
 repeat' (with_reducible first|refine qq ?_|(refine Tx 0 ?_;refine gN (xAl Aj) ?_)|(refine Tx 1 ?_;refine gO (xCl func123 (OF)) <| gO xM <| gO Gm <| gO (xCl func27 (SH)) <| gZ (xSk Aa) ?_))
 exact DR
theorem GI (n e:Int) (hs:DN n e):CV prog Ah 135 [.agg [dI n,dI e]] [aDy false (Af n 0 e).1 (Af n 0 e).2]:=by
 refine cvz func135 ntmps135 ?_
 have VA:=Sk n e
 rw [if_pos hs,if_pos hs] at VA
 repeat' (with_reducible first|refine qq ?_|(refine Tx 0 ?_;refine gN xBo <| gN (xAl Aj) ?_)|(refine Tx 1 ?_;refine gO xL <| gO (xCl func155 (VA)) <| gO xMt <| gO (by exact CQ rfl rfl rfl) <| gO xEx <| gN (xAl Aj) <| gZ (xSk Aa) <| gO xA ?_)|(refine Tx 2 ?_;refine gO xL <| gZ (xSk Aa) ?_))
 exact DR
theorem AiB (k:p') (h:Hd9 p'→p:=by with_reducible first|(intro Z9;refine qq ?_;exact Z9.o)|(intro Z9;refine Tx 0 ?_;refine gN xBo <| gO xA ?_;exact Z9.o)|(intro Z9;refine Tx 1 ?_;refine gO xL <| gO (xCl func135 (RV)) <| gO xM <| gO (xCl func27 (SH)) <| gN (xAl Aj) <| gZ (xSk Aa) ?_;exact Z9.o)|(intro Z9;refine Tx 2 ?_;refine gO xF <| gO xD <| gO xEq <| gO xA ?_;exact Z9.o)|fail):p:=h ⟨k⟩
theorem IE (n e f:Int) (hs:DN n e) (f0:0≤f) (f1:f≤30):CV prog Ah 148 [.agg [dI n,dI e],aI f] [aB (Bn n e f)]:=by
 refine cvz func148 ntmps148 ?_
 have RV:=GI n e hs
 have sm:=EP hs
 have SH:=BW (Af n 0 e).1 (Af n 0 e).2 f sm.ok sm.lz (by have:=sm.ok.1;omega)
 obtain ⟨q,hq⟩:∃ q,Af (Af n 0 e).1 (Af n 0 e).2 f=q:=⟨_,rfl⟩
 rw [hq] at SH
 rw [show Bn n e f=decide (q.2=0) by unfold Bn;rw [←hq]]
 by_cases h0:q.2=0
 case pos =>
  repeat' (with_reducible first|refine AiB ?_)
  exact Au rfl (.cons_ (Db rfl ((decide_eq_true h0).symm)) .nil_)
 repeat' (with_reducible first|refine AiB ?_)
 exact Au rfl (.cons_ (Db rfl ((decide_eq_false h0).symm)) .nil_)
theorem AdP (k:p') (h:Hd9 p'→p:=by with_reducible first|(intro Z9;refine qq ?_;exact Z9.o)|(intro Z9;refine Tx 0 ?_;refine gO xA ?_;exact Z9.o)|(intro Z9;refine Tx 1 ?_;refine gO xM <| gO xGe <| gO xM ?_;(first|iterate 2 refine Jd ?_|(refine Jy xM1 ?_;refine Jy xLe ?_));refine gO xPk <| gO xA ?_;exact Z9.o)|fail):p:=h ⟨k⟩
theorem Nn (k:Int):CV prog Ah 129 [aI k] [aB (inK k)]:=by
 refine cvz func129 ntmps129 ?_
 by_cases cf7:k < -62
 case pos =>
  repeat' (with_reducible first|refine AdP ?_)
  exact Au rfl (.cons_ (Db rfl ((decide_eq_false (by omega)).symm)) .nil_)
 by_cases cf6:30<k
 case pos =>
  repeat' (with_reducible first|refine AdP ?_)
  exact Au rfl (.cons_ (Db rfl ((decide_eq_false (by omega)).symm)) .nil_)
 repeat' (with_reducible first|refine AdP ?_)
 exact Au rfl (.cons_ (Db rfl ((decide_eq_true (by omega)).symm)) .nil_)
theorem ApX (h:p:=by first|assumption|omega):p:=h
theorem ApY (h:p:=by first|rfl|omega):p:=h
theorem Ow (n e f:Int):CV prog Ah 130 [.agg [dI n,dI e],.one (.ptr true [dI f])] [aB (rwB n e f)]:=by
 refine cvz func130 ntmps130 ?_
 have RA:=(ApU n e f).cv
 unfold rwB
 by_cases h0:Ed n e f=0
 case pos =>
  rw [h0] at RA
  repeat' (with_reducible first|refine qq ?_|(refine Tx 0 ?_;refine gN xBo <| gO xA ?_)|(refine Tx 1 ?_;refine gO xL <| gO xD <| gO (xCl func52 (RA)) <| gO xMt <| gO xEx <| gO xEx <| gO xA <| gO xA ?_)|(refine Tx 2 ?_;refine gO xM <| gO (by first|exact Dz rfl Am rfl (Qn rfl)|exact Dz rfl Am rfl (Qn ApY)|exact Dz rfl Am rfl (TU ApX)|exact Dz rfl Am rfl rfl) <| gO xA ?_))
  exact Au rfl (.cons_ (Db rfl ((decide_eq_true h0).symm)) .nil_)
 repeat' (with_reducible first|refine qq ?_|(refine Tx 0 ?_;refine gN xBo <| gO xA ?_)|(refine Tx 1 ?_;refine gO xL <| gO xD <| gO (xCl func52 (RA)) <| gO xMt <| gO xEx <| gO xEx <| gO xA <| gO xA ?_)|(refine Tx 2 ?_;refine gO xM <| gO (by first|exact Dz rfl Am rfl (TU h0)|exact Dz rfl Am rfl (Qn ApY)|exact Dz rfl Am rfl (TU ApX)|exact Dz rfl Am rfl rfl) <| gO xA ?_))
 exact Au rfl (.cons_ (Db rfl ((decide_eq_false h0).symm)) .nil_)
theorem AdQ (k:p') (h:Hd9 p'→p:=by with_reducible first|(intro Z9;refine qq ?_;exact Z9.o)|(intro Z9;refine Tx 0 ?_;refine gO xA ?_;exact Z9.o)|(intro Z9;refine Tx 1 ?_;refine gO xF <| gO xD <| gO xM <| gO (xIr Ae (Ay hF)) <| gO xD <| gO xLt <| gO xM ?_;(first|iterate 6 refine Jd ?_|(refine Jy (xFa Oc BJ) ?_;refine Jy (xLd BJ) ?_;refine Jy xM1 ?_;refine Jy (xIr Ae (Ay hF)) ?_;refine Jy (xLd Az) ?_;refine Jy xGt ?_));refine gO xPk <| gO xA ?_;exact Z9.o)|fail):p:=h ⟨k⟩
theorem AgM (u:Bool) (c:Ct) (a:Int) {k:Nat} (a0:0≤a) (hk:k=a.toNat) (h:k<c.F.length) (hl:c.F.length≤1000000):CV prog Ah 128 [aI a,.one (.ptr true (dCt u c))] [aB (!frB (scA c.F a.toNat))]:=by
 refine cvz func128 ntmps128 ?_
 have hF:=My h
 obtain rfl:k=a.toNat:=hk
 have ha:((a.toNat:Nat):Int)=a:=by omega
 rw [←ha]
 rw [ap]
 generalize a.toNat=j at *
 unfold frB
 generalize scA c.F j=z at *
 by_cases c5:z<0
 case pos =>
  repeat' (with_reducible first|refine AdQ ?_)
  exact Au rfl (.cons_ (Db rfl (by rw [decide_eq_false (by omega)];rfl)) .nil_)
 by_cases c6:30<z
 case pos =>
  repeat' (with_reducible first|refine AdQ ?_)
  exact Au rfl (.cons_ (Db rfl (by rw [decide_eq_false (by omega)];rfl)) .nil_)
 repeat' (with_reducible first|refine AdQ ?_)
 exact Au rfl (.cons_ (Db rfl (by rw [decide_eq_true (by omega)];rfl)) .nil_)
theorem Gn (k:p') (h:Hd9 p'→p:=by with_reducible first|(intro Z9;refine Tx 0 ?_;refine gN xBo <| gN xBo <| gO xA ?_;exact Z9.o)|(intro Z9;refine Tx 2 ?_;refine gO xD <| gO xLt <| gO xM ?_;(first|iterate 2 refine Jd ?_|(refine Jy (xLd Az) ?_;refine Jy xGt ?_));refine gO xPk ?_;exact Z9.o)|fail):p:=h ⟨k⟩
theorem Aad (h:p:=by first|exact xS1 Az|exact xSk Az):p:=h
theorem Rl (k:p') (h:Hd9 p'→p:=by with_reducible first|(intro Z9;refine Tx 1 ?_;refine gO xF <| gO xD <| gO xM <| gO (xIr Ae (Ay hFi)) <| gO xD <| gN (xAl CC) <| gZ Aad ?_;exact Z9.o)|fail):p:=h ⟨k⟩
theorem HH (k:p') (h:Hd9 p'→p:=by with_reducible first|(intro Z9;refine Tx 4 ?_;refine gO xF <| gO xD <| gO xM <| gO (xIr Ak (Dq hy)) <| gO xL <| gN (xAl Bu) <| gZ (xSk Bh) ?_;exact Z9.o)|fail):p:=h ⟨k⟩
theorem Ld (k:p') (h:Hd9 p'→p:=by with_reducible first|(intro Z9;refine Tx 7 ?_;refine gO (by first|exact ApW rfl|exact Xp rfl rfl) ?_;exact Z9.o)|(intro Z9;refine Tx 8 ?_;refine gO (by first|exact xMf [(2,0,none)]|exact Dm rfl (by repeat' first|exact Br rfl rfl|refine AO rfl rfl rfl ?_)) <| gO xA ?_;exact Z9.o)|(intro Z9;refine Tx 9 ?_;refine gO xF <| gO xD ?_;exact Z9.o)|(intro Z9;refine Tx 10 ?_;refine gO xEq <| gO xA ?_;exact Z9.o)|fail):p:=h ⟨k⟩
theorem Lf (k:p') (h:Hd9 p'→p:=by with_reducible first|(intro Z9;refine Tx 5 ?_;refine gO xF <| gO xD <| gO xNe <| gO xM ?_;(first|iterate 4 refine Jd ?_|(refine Jy (xFa Mg BJ) ?_;refine Jy (xLd BJ) ?_;refine Jy (by first|exact xMf [(1,0,none)]|exact Dm rfl (by repeat' first|exact Br rfl rfl|refine AO rfl rfl rfl ?_)) ?_;refine Jy (by exact Agn NL func127 CTN HC) ?_));refine gO xPk ?_;exact Z9.o)|fail):p:=h ⟨k⟩
theorem AgN (h:p:=by first|exact xIr Ae (Ay hFi)|exact xIr Ae (Ay hF0)):p:=h
theorem Rm (k:p') (h:Hd9 p'→p:=by with_reducible first|(intro Z9;refine Tx 1 ?_;refine gO xF <| gO xD <| gO xM <| gO AgN <| gO xD <| gN (xAl CC) <| gZ Aad ?_;exact Z9.o)|fail):p:=h ⟨k⟩
theorem AiC (k:p') (h:Hd9 p'→p:=by with_reducible first|(intro Z9;refine Bl (id:=19) AC (by kernel_rfl) ?_;refine gP xM <| gP xD <| gP xF <| gP xD <| gP xF <| gP xD <| gP (xIr Ae (Ay hA0)) <| gP xD <| gP AgN <| gP xD <| gP xSb <| gP (xCc func129 SHC (args:=[_]) rfl) <| gP xM ?_;(first|iterate 4 refine Kd ?_|(refine Ky xM1 ?_;refine Ky (xFa Ea AM) ?_;refine Ky (xLa AM) ?_;refine Ky (xCc func130 (Ow y.vn y.ve s) (args:=[_]) rfl) ?_));refine gP xPk <| gP xA ?_;refine Ke ?_;exact Z9.o)|fail):p:=h ⟨k⟩
theorem AdR (k:p') (h:Hd9 p'→p:=by with_reducible first|(intro Z9;refine Bl (id:=21) AC (by kernel_rfl) ?_;refine gP xM <| gP xD <| gP xF <| gP xD <| gP xF <| gP xD <| gP (xIr Ae (Ay hA0)) <| gP xD <| gP AgN <| gP xD <| gP xSb <| gP (xCc func129 SHC (args:=[_]) rfl) <| gP xM ?_;(first|iterate 4 refine Kd ?_|(refine Ky xM1 ?_;refine Ky (xFa Ea AM) ?_;refine Ky (xLa AM) ?_;refine Ky (xCc func130 RWC (args:=[_]) rfl) ?_));refine gP xPk <| gP xM ?_;(first|iterate 4 refine Kd ?_|(refine Ky xM1 ?_;refine Ky (xFa Eb AM) ?_;refine Ky (xLa AM) ?_;refine Ky (xCc func130 (Ow y.un y.ue s) (args:=[_]) rfl) ?_));refine gP xPk <| gP xA ?_;refine Ke ?_;exact Z9.o)|fail):p:=h ⟨k⟩
theorem ApZ (h:p:=by first|exact xIr Ae (Ay hz)|exact xIr Ae (Ay hFm)):p:=h
theorem AiD (k:p') (h:Hd9 p'→p:=by with_reducible first|(intro Z9;refine Tx 24 ?_;refine gO ApZ <| gO xD <| gO xA ?_;exact Z9.o)|(intro Z9;refine Bl (id:=25) AC (by kernel_rfl) ?_;refine gP xM <| gP xD <| gP xF <| gP xD <| gP xM <| gP ApZ <| gP xD <| gP xSb <| gP (xCc func129 SHC (args:=[_]) rfl) <| gP Gm ?_;refine Ke ?_;exact Z9.o)|fail):p:=h ⟨k⟩
theorem Df (h:p:=by
 exact Au rfl (.cons_ (Db rfl (rfl)) .nil_)):p:=h
theorem AlY (h:p:=by first|exact xIr Ae (Ay hFi)|exact xIr Ae (Ay hF0)|exact xIr Ae (Ay hF1)):p:=h
theorem Wz (t u:Bool) {ps:List Prt} {bs:List Bk} (os:List Int) (c:Ct) (i:Nat) {y:Bk} (hy:bs[i]?=some y) (B:AeV ps bs.length y) (hF:c.F.length=bs.length) (hn:bs.length≤1000000) (hpn:ps.length≤1000000):CV prog Ah 60 [aDg t ps bs os,.agg (dCt u c),aI (i:Int)] [aB (Cl ps c.F y i)]:=by
 refine cvz func60 ntmps60 ?_
 have hil:=(gS.1 hy).1
 have hFi:=My (F:=c.F) (k:=i) (by omega)
 obtain ⟨s,hs⟩:∃ s,scA c.F i=s:=⟨_,rfl⟩
 rw [hs] at hFi
 have hBl:=B.len
 by_cases c5:s<0
 case pos =>
  have hb:Cl ps c.F y i=false:=by unfold Cl;rw [hs,show frB s=false from decide_eq_false (by omega)];rfl
  rw [hb]
  repeat' (with_reducible first|refine qq ?_|refine Gn ?_|refine Rl ?_|(refine Tx 3 ?_;refine gO xA ?_))
  exact Df
 by_cases c6:30<s
 case pos =>
  have hb:Cl ps c.F y i=false:=by unfold Cl;rw [hs,show frB s=false from decide_eq_false (by omega)];rfl
  rw [hb]
  repeat' (with_reducible first|refine qq ?_|refine Gn ?_|refine Rl ?_|(refine Tx 3 ?_;refine gO xA ?_))
  exact Df
 have hfr:frB s=true:=decide_eq_true (by omega)
 by_cases k0:y.kind=0
 case pos =>
  obtain ⟨j,p,hA0,ha0,hp,P⟩:=B.port k0
  have f0:=P.f0
  have f1:=P.f1
  have hjl:=(gS.1 hp).1
  have hL0:=(gS.1 hA0).1
  have hb:Cl ps c.F y i=inK (s - p.fr):=by unfold Cl Mw;rw [hs,hfr,decide_eq_true k0,if_pos k0,ha0,SW hp];rfl
  rw [hb]
  repeat' (with_reducible first|refine qq ?_|refine Gn ?_|refine Rl ?_|refine HH ?_|(refine Tx 5 ?_;refine gO xF <| gO xD <| gO xNe <| gO xM ?_;(first|iterate 3 refine Jd ?_|(refine Jy (xFa Mg BJ) ?_;refine Jy (xLd BJ) ?_;refine Jy (by exact Dm rfl (by repeat' first|exact Br rfl rfl|refine AO rfl rfl rfl ?_)) ?_));refine Jd ?_;refine gO xPk ?_)|refine Ld ?_|(refine Bl (id:=11) AC (by kernel_rfl) ?_;refine gP xM <| gP xD <| gP xF <| gP xD <| gP xF <| gP xD <| gP (xIr Ae (Ay hA0)) <| gP xD <| gP (xIr Ci (IV hp)) <| gP xF <| gP xD <| gP xSb <| gP (xCc func129 (Nn (s - p.fr)) (args:=[_]) rfl) <| gP xA ?_;refine Ke ?_))
  exact Df
 have HC:∀ a∈y.args,CV prog Ah 128 [aI a,.one (.ptr true (dCt u c))] [aB ((fun a:Int=>!frB (scA c.F a.toNat)) a)]:=fun a ha=>by have h1:=B.all k0 a ha;exact AgM u c a h1.1 rfl (by omega) (by omega)
 have CTN:∀ vs,CV prog (AhV prog 128 vs (fun a:Int=>!frB (scA c.F a.toNat)) y.args) 127 [.one (AU t y.args),.one (.val (.func (.func 128) #[] vs.toArray))] [aB (y.args.any (fun a:Int=>!frB (scA c.F a.toNat)))]:=fun vs=>Wm func128 (by kernel_rfl) rfl t vs _ y.args (by omega)
 have hna:y.args.any (fun a:Int=>!frB (scA c.F a.toNat))=!y.args.all (fun a=>frB (sG c.F a)):=(List.not_all_eq_any_not ..).symm
 by_cases hall:y.args.all (fun a=>frB (sG c.F a))=true
 case neg =>
  rw [ay] at hall
  rw [hall] at hna
  simp only [hna,dg] at CTN
  have hb:Cl ps c.F y i=false:=by unfold Cl;rw [hs,hfr,hall,decide_eq_false k0];rfl
  rw [hb]
  repeat' (with_reducible first|refine qq ?_|refine Gn ?_|refine Rl ?_|refine HH ?_|refine Lf ?_|(refine Tx 6 ?_;refine gO xA ?_))
  exact Df
 rw [hall] at hna
 simp only [hna,df] at CTN
 have hb:Cl ps c.F y i=Mw ps c.F y s:=by unfold Cl;rw [hs,hfr,hall];simp
 rw [hb]
 have hall:∀ a∈y.args,0≤sG c.F a∧sG c.F a≤30:=fun a ha=>of_decide_eq_true (List.all_eq_true.1 hall a ha)
 clear hb hna
 by_cases k1:y.kind=1
 case pos =>
  rw [show Mw ps c.F y s=rwB y.vn y.ve s by unfold Mw;rw [if_neg k0,if_pos k1]]
  repeat' (with_reducible first|refine qq ?_|refine Gn ?_|refine Rl ?_|refine HH ?_|refine Lf ?_|refine Ld ?_|(refine Tx 12 ?_;refine gO xEq <| gO xA ?_)|(refine Tx 13 ?_;refine gO xM <| gO xF <| gO xL <| gO (xCc func130 (Ow y.vn y.ve s) (args:=[_]) rfl) <| gO xA ?_))
  exact Df
 by_cases k6:y.kind=6
 case pos =>
  obtain ⟨a,hA0,ha0,hl0⟩:=B.a0 (by omega)
  have hL0:=(gS.1 hA0).1
  have hl0:=hl0 k0
  have hF0:=My (F:=c.F) (k:=a) (by omega)
  have hr0:=hall a (gM hA0)
  obtain ⟨r0,hq0⟩:∃ r,scA c.F a=r:=⟨_,rfl⟩
  rw [show sG c.F ((a:Nat):Int)=r0 by unfold sG;rw [ap];exact hq0] at hr0
  rw [hq0] at hF0
  have hg0:sG c.F (De y)=r0:=by rw [ha0];unfold sG;rw [ap];exact hq0
  have hv:=B.sv (by omega)
  unfold DN at hv
  rw [show Mw ps c.F y s=inK (s - r0+y.ve) by unfold Mw;rw [if_neg k0,if_neg k1,if_pos k6,hg0]]
  repeat' (with_reducible first|refine qq ?_|refine Gn ?_|refine Rm ?_|refine HH ?_|refine Lf ?_|refine Ld ?_|(refine Tx 12 ?_;refine gO xEq <| gO xA ?_)|(refine Tx 14 ?_;refine gO xEq <| gO xA ?_)|(refine Bl (id:=15) AC (by kernel_rfl) ?_;refine gP xM <| gP xD <| gP xF <| gP xD <| gP xF <| gP xD <| gP (xIr Ae (Ay hA0)) <| gP xD <| gP AgN <| gP xD <| gP xSb <| gP xF <| gP xF <| gP xD <| gP xAd <| gP (xCc func129 (Nn (s - r0+y.ve)) (args:=[_]) rfl) <| gP xA ?_;refine Ke ?_))
  exact Df
 by_cases k7:y.kind=7
 case pos =>
  obtain ⟨a,hA0,ha0,hl0⟩:=B.a0 (by omega)
  have hL0:=(gS.1 hA0).1
  have hl0:=hl0 k0
  have hF0:=My (F:=c.F) (k:=a) (by omega)
  have hr0:=hall a (gM hA0)
  obtain ⟨r0,hq0⟩:∃ r,scA c.F a=r:=⟨_,rfl⟩
  rw [show sG c.F ((a:Nat):Int)=r0 by unfold sG;rw [ap];exact hq0] at hr0
  rw [hq0] at hF0
  have hg0:sG c.F (De y)=r0:=by rw [ha0];unfold sG;rw [ap];exact hq0
  obtain ⟨b,hA1,ha1,hl1⟩:=B.a1 (by omega)
  have hL1:=(gS.1 hA1).1
  have hF1:=My (F:=c.F) (k:=b) (by omega)
  have hr1:=hall b (gM hA1)
  obtain ⟨r1,hq1⟩:∃ r,scA c.F b=r:=⟨_,rfl⟩
  rw [show sG c.F ((b:Nat):Int)=r1 by unfold sG;rw [ap];exact hq1] at hr1
  rw [hq1] at hF1
  have hg1:sG c.F (FV y)=r1:=by rw [ha1];unfold sG;rw [ap];exact hq1
  rw [show Mw ps c.F y s=inK (s - r0 - r1) by unfold Mw;rw [if_neg k0,if_neg k1,if_neg k6,if_pos k7,hg0,hg1]]
  repeat' (with_reducible first|refine qq ?_|refine Gn ?_|(refine Tx 1 ?_;refine gO xF <| gO xD <| gO xM <| gO AlY <| gO xD <| gN (xAl CC) <| gZ Aad ?_)|refine HH ?_|refine Lf ?_|refine Ld ?_|(refine Tx 12 ?_;refine gO xEq <| gO xA ?_)|(refine Tx 14 ?_;refine gO xEq <| gO xA ?_)|(refine Tx 16 ?_;refine gO xEq <| gO xA ?_)|(refine Bl (id:=17) AC (by kernel_rfl) ?_;refine gP xM <| gP xD <| gP xF <| gP xD <| gP xF <| gP xD <| gP (xIr Ae (Ay hA0)) <| gP xD <| gP AlY <| gP xD <| gP xSb <| gP xF <| gP xD <| gP xF <| gP xD <| gP (xIr Ae (Ay hA1)) <| gP xD <| gP AlY <| gP xD <| gP xSb <| gP (xCc func129 (Nn (s - r0 - r1)) (args:=[_]) rfl) <| gP xA ?_;refine Ke ?_))
  exact Df
 by_cases k2:y.kind=2
 case pos =>
  obtain ⟨a,hA0,ha0,hl0⟩:=B.a0 (by omega)
  have hL0:=(gS.1 hA0).1
  have hl0:=hl0 k0
  have hF0:=My (F:=c.F) (k:=a) (by omega)
  have hr0:=hall a (gM hA0)
  obtain ⟨r0,hq0⟩:∃ r,scA c.F a=r:=⟨_,rfl⟩
  rw [show sG c.F ((a:Nat):Int)=r0 by unfold sG;rw [ap];exact hq0] at hr0
  rw [hq0] at hF0
  have hg0:sG c.F (De y)=r0:=by rw [ha0];unfold sG;rw [ap];exact hq0
  rw [show Mw ps c.F y s=(inK (s - r0) && rwB y.vn y.ve s) by unfold Mw;rw [if_neg k0,if_neg k1,if_neg k6,if_neg k7,if_pos k2,hg0]]
  have SHC:=Nn (s - r0)
  cases hq:inK (s - r0)
  case false =>
   rw [hq] at SHC
   repeat' (with_reducible first|refine qq ?_|refine Gn ?_|refine Rm ?_|refine HH ?_|refine Lf ?_|refine Ld ?_|(refine Tx 12 ?_;refine gO xEq <| gO xA ?_)|(refine Tx 14 ?_;refine gO xEq <| gO xA ?_)|(refine Tx 16 ?_;refine gO xEq <| gO xA ?_)|(refine Tx 18 ?_;refine gO xEq <| gO xA ?_)|refine AiC ?_)
   exact Au rfl (.cons_ (Db rfl (by rw [eg])) .nil_)
  case true =>
   rw [hq] at SHC
   repeat' (with_reducible first|refine qq ?_|refine Gn ?_|refine Rm ?_|refine HH ?_|refine Lf ?_|refine Ld ?_|(refine Tx 12 ?_;refine gO xEq <| gO xA ?_)|(refine Tx 14 ?_;refine gO xEq <| gO xA ?_)|(refine Tx 16 ?_;refine gO xEq <| gO xA ?_)|(refine Tx 18 ?_;refine gO xEq <| gO xA ?_)|refine AiC ?_)
   exact Au rfl (.cons_ (Db rfl (by rw [dq])) .nil_)
 by_cases k11:y.kind=11
 case pos =>
  obtain ⟨a,hA0,ha0,hl0⟩:=B.a0 (by omega)
  have hL0:=(gS.1 hA0).1
  have hl0:=hl0 k0
  have hF0:=My (F:=c.F) (k:=a) (by omega)
  have hr0:=hall a (gM hA0)
  obtain ⟨r0,hq0⟩:∃ r,scA c.F a=r:=⟨_,rfl⟩
  rw [show sG c.F ((a:Nat):Int)=r0 by unfold sG;rw [ap];exact hq0] at hr0
  rw [hq0] at hF0
  have hg0:sG c.F (De y)=r0:=by rw [ha0];unfold sG;rw [ap];exact hq0
  rw [show Mw ps c.F y s=(inK (s - r0) && rwB y.vn y.ve s && rwB y.un y.ue s) by unfold Mw;rw [if_neg k0,if_neg k1,if_neg k6,if_neg k7,if_neg k2,if_pos k11,hg0]]
  have SHC:=Nn (s - r0)
  have RWC:=Ow y.vn y.ve s
  cases hq:inK (s - r0)
  case false =>
   rw [hq] at SHC
   repeat' (with_reducible first|refine qq ?_|refine Gn ?_|refine Rm ?_|refine HH ?_|refine Lf ?_|refine Ld ?_|(refine Tx 12 ?_;refine gO xEq <| gO xA ?_)|(refine Tx 14 ?_;refine gO xEq <| gO xA ?_)|(refine Tx 16 ?_;refine gO xEq <| gO xA ?_)|(refine Tx 18 ?_;refine gO xEq <| gO xA ?_)|(refine Tx 20 ?_;refine gO xEq <| gO xA ?_)|refine AdR ?_)
   exact Au rfl (.cons_ (Db rfl (by rw [eg,eg])) .nil_)
  case true =>
   rw [hq] at SHC
   cases hq2:rwB y.vn y.ve s
   case false =>
    rw [hq2] at RWC
    repeat' (with_reducible first|refine qq ?_|refine Gn ?_|refine Rm ?_|refine HH ?_|refine Lf ?_|refine Ld ?_|(refine Tx 12 ?_;refine gO xEq <| gO xA ?_)|(refine Tx 14 ?_;refine gO xEq <| gO xA ?_)|(refine Tx 16 ?_;refine gO xEq <| gO xA ?_)|(refine Tx 18 ?_;refine gO xEq <| gO xA ?_)|(refine Tx 20 ?_;refine gO xEq <| gO xA ?_)|refine AdR ?_)
    exact Au rfl (.cons_ (Db rfl (by rw [dq,eg])) .nil_)
   case true =>
    rw [hq2] at RWC
    repeat' (with_reducible first|refine qq ?_|refine Gn ?_|refine Rm ?_|refine HH ?_|refine Lf ?_|refine Ld ?_|(refine Tx 12 ?_;refine gO xEq <| gO xA ?_)|(refine Tx 14 ?_;refine gO xEq <| gO xA ?_)|(refine Tx 16 ?_;refine gO xEq <| gO xA ?_)|(refine Tx 18 ?_;refine gO xEq <| gO xA ?_)|(refine Tx 20 ?_;refine gO xEq <| gO xA ?_)|refine AdR ?_)
    exact Au rfl (.cons_ (Db rfl (by rw [dq,dq])) .nil_)
 have hb:Mw ps c.F y s=y.args.all fun a=>inK (s - sG c.F a):=by unfold Mw;rw [if_neg k0,if_neg k1,if_neg k6,if_neg k7,if_neg k2,if_neg k11]
 rw [hb]
 repeat' (with_reducible first|refine qq ?_|refine Gn ?_|refine Rl ?_|refine HH ?_|refine Lf ?_|refine Ld ?_|(refine Tx 12 ?_;refine gO xEq <| gO xA ?_)|(refine Tx 14 ?_;refine gO xEq <| gO xA ?_)|(refine Tx 16 ?_;refine gO xEq <| gO xA ?_)|(refine Tx 18 ?_;refine gO xEq <| gO xA ?_)|(refine Tx 20 ?_;refine gO xEq <| gO xA ?_)|(refine Tx 22 ?_;refine gO xF <| gO xD <| gO xN <| gO xM ?_))
 refine AJ (Be 3) (Al (fun n Fr H=>∃ k:Nat,k≤y.args.length∧n=y.args.length - k∧(y.args.take k).all (fun a=>inK (s - sG c.F a))=true∧Fr=ofL [(4,vr 1),(7,vr 2),(9,.one (.clo (.func 129) [])),(150,vd (AU t y.args)),(151,vi y.args.length),(152,vi ((k:Nat)))]∧H=[.box 26 [.d (CY t ps),.d (Cw t bs),.d (AU t os)],.box 30 [.d (AU u c.F),.d (.row false 6 c.R.length (An (dIw false) c.R)),.d (.row false 3 c.E.length (An dyP c.E))],.box 3 [.d (.val (.int .i64 s))]]) (n0:=y.args.length) ⟨0,ad _,rfl,rfl,rfl,rfl⟩ ?_)
 clear HC CTN
 rintro n Fr H ⟨k,hk,rfl,hal,rfl,rfl⟩
 by_cases hlt:k<y.args.length
 case pos =>
  obtain ⟨z,hz⟩:∃ z,y.args[k]?=some z:=⟨_,gE hlt⟩
  have hzm:=gM hz
  have hzb:=B.all k0 z hzm
  have hzr:=hall z hzm
  obtain ⟨m,rfl⟩:∃ m:Nat,z=(m:Int):=⟨z.toNat,by omega⟩
  have hFm:=My (F:=c.F) (k:=m) (by omega)
  rw [show sG c.F ((m:Nat):Int)=scA c.F m by unfold sG;rw [ap]] at hzr
  have SHC:=Nn (s - scA c.F m)
  cases hq:inK (s - scA c.F m)
  case false =>
   rw [hq] at SHC
   repeat' (with_reducible first|refine qq ?_|(refine Tx 23 ?_;refine gO xLt ?_)|refine AiD ?_|(refine Tx 26 ?_;refine gO xA ?_))
   exact Au rfl (.cons_ (Db rfl ((AdM (p:=fun a=>inK (s - sG c.F a)) hz hq).symm)) .nil_)
  rw [hq] at SHC
  repeat' (with_reducible first|refine qq ?_|(refine Tx 23 ?_;refine gO xLt ?_)|refine AiD ?_|(refine Tx 27 ?_;refine gO xAd <| gO xM ?_))
  refine ⟨_,_,Be 3,_,by omega,k+1,by omega,rfl,XI (p:=fun a=>inK (s - sG c.F a)) hz hal hq,rfl,rfl⟩
 obtain rfl:k=y.args.length:=by omega
 rw [aq] at hal
 repeat' (with_reducible first|refine qq ?_|(refine Tx 23 ?_;refine gO xLt ?_)|(refine Tx 28 ?_;refine gO xA ?_))
 exact Au rfl (.cons_ (Db rfl (hal.symm)) .nil_)
theorem Yy {k:Nat} (h:k<E.length):((An dyP E).drop (k*3)).take 3=dyP (E[k]?.getD (0,0)):=AfX (eg_c h)
theorem Yz {R:List Iq} {k:Nat} (h:k<R.length):((An (dIw false) R).drop (k*6)).take 6=dIw false (R[k]?.getD iZ):=Cu (UV h)
theorem Nx (R:List Iq) (k:Nat):rG R (k:Int)=R[k]?.getD iZ:=by unfold rG;rw [ap]
theorem HJ (E:List Pq) (k:Nat):eG E (k:Int)=E[k]?.getD (0,0):=by unfold eG;rw [ap]
theorem Cm (F:List Int) (k:Nat):sG F (k:Int)=scA F k:=by unfold sG;rw [ap]
theorem zdy:([.val (.bool false),.row false 1 0 [],.val (.int .i64 0)]:List D)=dDy false 0 0:=(A.agg.inj Ht).symm
theorem Cj (t u:Bool) (c:Ct) (y:Bk) (k:Nat) {r:Nat} (hk:y.args[k]?=some (r:Int)) (hr:r<c.R.length) (ha:y.args.length≤1000000) (hv:c.R.length≤1000000):CV prog Ah 131 [aI (k:Int),.one (.ptr true (dCt u c)),.one (.ptr true (dBk t y))] [aIw false (c.R[r]?.getD iZ)]:=by
 refine cvz func131 ntmps131 ?_
 have l1:=(gS.1 hk).1
 repeat' (with_reducible first|refine qq ?_|(refine Tx 0 ?_;refine gN (xAl Ai) ?_)|(refine Ax (id:=1) 9 AC (by kernel_rfl) ?_;dsimp only [List.take,List.drop];refine gP xF <| gP xD <| gP xF <| gP xD <| gP xM <| gP (by first|exact xIr Ae (Ay hk)|exact xIr Ae (Yz hr)) <| gP xD <| gP (xIr Ad (Yz hr)) <| gP xL ?_;refine Ke ?_;refine gZ (xSk Ab) ?_))
 exact Au rfl (.cons_ (rvJ Ab rfl) .nil_)
theorem GT (k:p') (h:Hd9 p'→p:=by with_reducible first|(intro Z9;refine qq ?_;exact Z9.o)|(intro Z9;refine Tx 0 ?_;refine gN xBo <| gN xBo <| gO xA ?_;exact Z9.o)|(intro Z9;refine Tx 1 ?_;refine gO xF <| gO xD <| gO xM <| gO (by first|exact xIr Ak (Dq hy)|exact xIr Ak (hwi)) <| gO xL <| gN (xAl Bu) <| gZ (xSk Bh) ?_;exact Z9.o)|(intro Z9;refine Tx 2 ?_;refine gO (by first|exact xMf [(1,0,none),(2,0,none)]|exact Dm rfl (by repeat' first|exact Br rfl rfl|refine AO rfl rfl rfl ?_)) <| gO xA ?_;exact Z9.o)|(intro Z9;refine Tx 3 ?_;refine gN (xAl Ai) ?_;exact Z9.o)|(intro Z9;refine Tx 4 ?_;refine gO xF <| gO xD ?_;exact Z9.o)|(intro Z9;refine Tx 6 ?_;refine gO xEq <| gO xA ?_;exact Z9.o)|(intro Z9;refine Bl (id:=29) AC (by kernel_rfl) ?_;refine gP xL <| gP xF <| gP xD <| gP xM <| gP (xIr Ad (hwi)) <| gP xL <| gP (xCl func144 (IS)) <| gP xA ?_;refine Ke ?_;exact Z9.o)|fail):p:=h ⟨k⟩
theorem HW (k:p') (h:Hd9 p'→p:=by with_reducible first|(intro Z9;refine Tx 9 ?_;refine gO xEq <| gO xA ?_;exact Z9.o)|fail):p:=h ⟨k⟩
theorem Lg (k:p') (h:Hd9 p'→p:=by with_reducible first|(intro Z9;refine Tx 11 ?_;refine gO xEq <| gO xA ?_;exact Z9.o)|fail):p:=h ⟨k⟩
theorem Lh (h:p:=by
 exact this.more (by decide) (by decide)):p:=h
theorem Aqa (h:p:=by first|exact xCl func135 (RV)|exact xCl func135 (RU)):p:=h
theorem WA (t u:Bool) {ps:List Prt} {bs:List Bk} (os:List Int) (c:Ct) (i:Nat) {y:Bk} (hy:bs[i]?=some y) (B:AeV ps bs.length y) (hR:c.R.length=bs.length) (sR:∀ p∈c.R,IwS p LB LB) (hn:bs.length≤1000000) (hpn:ps.length≤1000000):CV prog Ah 61 [aDg t ps bs os,.agg (dCt u c),aI (i:Int)] [aB (Da ps c.R y i)]:=by
 refine cvz func61 ntmps61 ?_
 have hil:=(gS.1 hy).1
 have hBl:=B.len
 have wi:=(BE sR i).more LBx LBx
 have hwi:=Yz (R:=c.R) (k:=i) (by omega)
 rcases B.hk with h|h|h|h|h|h|h|h|h|h|h|h
 ·
  obtain ⟨j,pp,hA0,ha0,hp,PS⟩:=B.port h
  have l3:=(gS.1 hp).1
  have hL0:=(gS.1 hA0).1
  have f0:=PS.l0
  have f1:=PS.le
  have f2:=PS.h1
  have f3:=PS.f0
  have f4:=PS.f1
  have IN:=Uy pp.lo pp.hi (by omega) (by omega)
  have UN:=PQ pp.fr (by omega) (by omega)
  have SC:=IA (CI [(pp.lo,0),(pp.hi,0)]) (pw (-pp.fr)) (EK (LI pp.lo (by omega) (by decide)) (LI pp.hi (by omega) (by decide))).2.2 ((UU f3 f4).more (by decide) (by decide))
  rw [show IY (CI [(pp.lo,0),(pp.hi,0)]) (pw (-pp.fr))=IK pp from PS.scale] at SC
  have hb:LO ps c.R y=IK pp:=by unfold LO Bs;rw [if_neg (by omega),if_pos h,hA0];simp [hp]
  have ws:IwS (IK pp) 20000 20000:=PS.iw.more (by decide) (by decide)
  unfold Da
  rw [hb]
  have IS:=Cb _ _ ws wi
  repeat' (with_reducible first|refine GT ?_|(refine Ax (id:=7) 9 AC (by kernel_rfl) ?_;dsimp only [List.take,List.drop];refine gP xF <| gP xD <| gP xF <| gP xD <| gP (by first|exact xIr Ae (hwi)|exact xIr Ae (Ay hA0)) <| gP xD <| gP (by first|exact xIr Ci (hwi)|exact xIr Ci (IV hp)) <| gP xL <| gQ (xAl OV) ?_;refine Ke ?_;refine gZ (xSk Lv) ?_)|(refine Ax (id:=8) 9 AC (by kernel_rfl) ?_;dsimp only [List.take,List.drop];refine gP xF <| gP xD <| gP xF <| gP xD <| gP (xCl func133 (IN)) <| gP xF <| gP xD <| gP (xCl func134 (UN)) <| gP (xCl func132 (SC)) ?_;refine Ke ?_;refine gZ (xSk Ab) ?_))
  exact Df
 ·
  have hv:=B.sv (by omega)
  have RV:=GI y.vn y.ve hv
  have sv:=(EP hv).more LBx LBx
  have PT:=DQ (Af y.vn 0 y.ve) sv.ok sv.lz
  have hb:LO ps c.R y=((Af y.vn 0 y.ve),(Af y.vn 0 y.ve)):=by unfold LO Bs DB;simp [h]
  have ws:IwS (((Af y.vn 0 y.ve),(Af y.vn 0 y.ve))) 20000 20000:=by
   have:=GR (y:=y) (Ei (y:=y) sR) (fun h2=>B.sv (by omega)) (fun h2=>B.su h2) (by omega)
   rw [show DB y (CZ c.R y)=((Af y.vn 0 y.ve),(Af y.vn 0 y.ve)) by unfold DB;simp [h]] at this
   exact Lh
  unfold Da
  rw [hb]
  have IS:=Cb _ _ ws wi
  repeat' (with_reducible first|refine GT ?_|refine HW ?_|(refine Tx 10 ?_;refine gO xF <| gO xL <| gO (xCl func135 (RV)) <| gO (xCl func79 (PT)) <| gZ (xSk Ab) ?_))
  exact Df
 ·
  obtain ⟨a,hA0,ha0,hl0⟩:=B.a0 (by omega)
  have hl0:=hl0 (by omega)
  have hL0:=(gS.1 hA0).1
  obtain ⟨P,hP⟩:∃ P,c.R[a]?.getD iZ=P:=⟨_,rfl⟩
  have sp:=(BE sR a).more LBx LBx
  have A0:=Cj t u c y 0 hA0 (by omega) (by omega) (by omega)
  have hj0:(CZ c.R y)[0]?=some P:=CB (by omega) hA0 (by rw [ap,←hP];exact UV (by omega))
  rw [hP] at sp A0
  have hv:=B.sv (by omega)
  have RV:=GI y.vn y.ve hv
  have sv:=(EP hv).more LBx LBx
  have PT:=DQ (Af y.vn 0 y.ve) sv.ok sv.lz
  have C:=PD ((Af y.vn 0 y.ve),(Af y.vn 0 y.ve)) P (.pt sv) sp
  have hb:LO ps c.R y=Gg ((Af y.vn 0 y.ve),(Af y.vn 0 y.ve)) P:=by unfold LO;rw [if_pos h,ha0,Nx,hP]
  have ws:IwS (Gg ((Af y.vn 0 y.ve),(Af y.vn 0 y.ve)) P) 20000 20000:=(IwS.pt (EP hv)).hull (hP ▸ BE sR a) |>.more LBx LBx
  unfold Da
  rw [hb]
  have IS:=Cb _ _ ws wi
  repeat' (with_reducible first|refine GT ?_|refine HW ?_|refine Lg ?_|(refine Tx 12 ?_;refine gO xF <| gO xL <| gO (xCl func135 (RV)) <| gO (xCl func79 (PT)) <| gO xM <| gO (xCc func131 A0 (args:=[_]) rfl) <| gO (xCl func82 (C)) <| gZ (xSk Ab) ?_))
  exact Df
 ·
  obtain ⟨a,hA0,ha0,hl0⟩:=B.a0 (by omega)
  have hl0:=hl0 (by omega)
  have hL0:=(gS.1 hA0).1
  obtain ⟨P,hP⟩:∃ P,c.R[a]?.getD iZ=P:=⟨_,rfl⟩
  have sp:=(BE sR a).more LBx LBx
  have A0:=Cj t u c y 0 hA0 (by omega) (by omega) (by omega)
  have hj0:(CZ c.R y)[0]?=some P:=CB (by omega) hA0 (by rw [ap,←hP];exact UV (by omega))
  rw [hP] at sp A0
  obtain ⟨b,hA1,ha1,hl1⟩:=B.a1 (by omega)
  have hL1:=(gS.1 hA1).1
  obtain ⟨Q,hQ⟩:∃ Q,c.R[b]?.getD iZ=Q:=⟨_,rfl⟩
  have sq:=(BE sR b).more LBx LBx
  have A1:=Cj t u c y 1 hA1 (by omega) (by omega) (by omega)
  have hj1:(CZ c.R y)[1]?=some Q:=CB (by omega) hA1 (by rw [ap,←hQ];exact UV (by omega))
  rw [hQ] at sq A1
  have C:=Su P Q sp sq
  have hb:LO ps c.R y=Aav P Q:=by unfold LO Bs DB;simp [h,hj0,hj1]
  have ws:IwS (Aav P Q) 20000 20000:=by
   have:=GR (y:=y) (Ei (y:=y) sR) (fun h2=>B.sv (by omega)) (fun h2=>B.su h2) (by omega)
   rw [show DB y (CZ c.R y)=Aav P Q by unfold DB;simp [h,hj0,hj1]] at this
   exact Lh
  unfold Da
  rw [hb]
  have IS:=Cb _ _ ws wi
  repeat' (with_reducible first|refine GT ?_|refine HW ?_|refine Lg ?_|(refine Tx 13 ?_;refine gO xEq <| gO xA ?_)|(refine Tx 14 ?_;refine gO xM <| gO (xCc func131 A0 (args:=[_]) rfl) <| gO xM <| gO (xCc func131 A1 (args:=[_]) rfl) <| gO (xCl func136 (C)) <| gZ (xSk Ab) ?_))
  exact Df
 ·
  obtain ⟨a,hA0,ha0,hl0⟩:=B.a0 (by omega)
  have hl0:=hl0 (by omega)
  have hL0:=(gS.1 hA0).1
  obtain ⟨P,hP⟩:∃ P,c.R[a]?.getD iZ=P:=⟨_,rfl⟩
  have sp:=(BE sR a).more LBx LBx
  have A0:=Cj t u c y 0 hA0 (by omega) (by omega) (by omega)
  have hj0:(CZ c.R y)[0]?=some P:=CB (by omega) hA0 (by rw [ap,←hP];exact UV (by omega))
  rw [hP] at sp A0
  obtain ⟨b,hA1,ha1,hl1⟩:=B.a1 (by omega)
  have hL1:=(gS.1 hA1).1
  obtain ⟨Q,hQ⟩:∃ Q,c.R[b]?.getD iZ=Q:=⟨_,rfl⟩
  have sq:=(BE sR b).more LBx LBx
  have A1:=Cj t u c y 1 hA1 (by omega) (by omega) (by omega)
  have hj1:(CZ c.R y)[1]?=some Q:=CB (by omega) hA1 (by rw [ap,←hQ];exact UV (by omega))
  rw [hQ] at sq A1
  have C:=Yd P Q sp sq
  have hb:LO ps c.R y=Agq P Q:=by unfold LO Bs DB;simp [h,hj0,hj1]
  have ws:IwS (Agq P Q) 20000 20000:=by
   have:=GR (y:=y) (Ei (y:=y) sR) (fun h2=>B.sv (by omega)) (fun h2=>B.su h2) (by omega)
   rw [show DB y (CZ c.R y)=Agq P Q by unfold DB;simp [h,hj0,hj1]] at this
   exact Lh
  unfold Da
  rw [hb]
  have IS:=Cb _ _ ws wi
  repeat' (with_reducible first|refine GT ?_|refine HW ?_|refine Lg ?_|(refine Tx 13 ?_;refine gO xEq <| gO xA ?_)|(refine Tx 15 ?_;refine gO xEq <| gO xA ?_)|(refine Tx 16 ?_;refine gO xM <| gO (xCc func131 A0 (args:=[_]) rfl) <| gO xM <| gO (xCc func131 A1 (args:=[_]) rfl) <| gO (xCl func137 (C)) <| gZ (xSk Ab) ?_))
  exact Df
 ·
  obtain ⟨a,hA0,ha0,hl0⟩:=B.a0 (by omega)
  have hl0:=hl0 (by omega)
  have hL0:=(gS.1 hA0).1
  obtain ⟨P,hP⟩:∃ P,c.R[a]?.getD iZ=P:=⟨_,rfl⟩
  have sp:=(BE sR a).more LBx LBx
  have A0:=Cj t u c y 0 hA0 (by omega) (by omega) (by omega)
  have hj0:(CZ c.R y)[0]?=some P:=CB (by omega) hA0 (by rw [ap,←hP];exact UV (by omega))
  rw [hP] at sp A0
  have C:=Ss P sp
  have hb:LO ps c.R y=ZS P:=by unfold LO Bs DB;simp [h,hj0]
  have ws:IwS (ZS P) 20000 20000:=by
   have:=GR (y:=y) (Ei (y:=y) sR) (fun h2=>B.sv (by omega)) (fun h2=>B.su h2) (by omega)
   rw [show DB y (CZ c.R y)=ZS P by unfold DB;simp [h,hj0]] at this
   exact Lh
  unfold Da
  rw [hb]
  have IS:=Cb _ _ ws wi
  repeat' (with_reducible first|refine GT ?_|refine HW ?_|refine Lg ?_|(refine Tx 13 ?_;refine gO xEq <| gO xA ?_)|(refine Tx 15 ?_;refine gO xEq <| gO xA ?_)|(refine Tx 17 ?_;refine gO xEq <| gO xA ?_)|(refine Tx 19 ?_;refine gO xEq <| gO xA ?_)|(refine Tx 20 ?_;refine gO xM <| gO (xCc func131 A0 (args:=[_]) rfl) <| gO (xCl func139 (C)) <| gZ (xSk Ab) ?_))
  exact Df
 ·
  obtain ⟨a,hA0,ha0,hl0⟩:=B.a0 (by omega)
  have hl0:=hl0 (by omega)
  have hL0:=(gS.1 hA0).1
  obtain ⟨P,hP⟩:∃ P,c.R[a]?.getD iZ=P:=⟨_,rfl⟩
  have sp:=(BE sR a).more LBx LBx
  have A0:=Cj t u c y 0 hA0 (by omega) (by omega) (by omega)
  have hj0:(CZ c.R y)[0]?=some P:=CB (by omega) hA0 (by rw [ap,←hP];exact UV (by omega))
  rw [hP] at sp A0
  have hv:=B.sv (by omega)
  have RV:=GI y.vn y.ve hv
  have sv:=(EP hv).more LBx LBx
  have C:=IA P (Af y.vn 0 y.ve) sp sv
  have hb:LO ps c.R y=IY P (Af y.vn 0 y.ve):=by unfold LO Bs DB;simp [h,hj0]
  have ws:IwS (IY P (Af y.vn 0 y.ve)) 20000 20000:=by
   have:=GR (y:=y) (Ei (y:=y) sR) (fun h2=>B.sv (by omega)) (fun h2=>B.su h2) (by omega)
   rw [show DB y (CZ c.R y)=IY P (Af y.vn 0 y.ve) by unfold DB;simp [h,hj0]] at this
   exact Lh
  unfold Da
  rw [hb]
  have IS:=Cb _ _ ws wi
  repeat' (with_reducible first|refine GT ?_|refine HW ?_|refine Lg ?_|(refine Tx 13 ?_;refine gO xEq <| gO xA ?_)|(refine Tx 15 ?_;refine gO xEq <| gO xA ?_)|(refine Tx 17 ?_;refine gO xEq <| gO xA ?_)|(refine Tx 19 ?_;refine gO xEq <| gO xA ?_)|(refine Tx 21 ?_;refine gO xEq <| gO xA ?_)|(refine Tx 23 ?_;refine gO xEq <| gO xA ?_)|(refine Ax (id:=24) 6 AC (by kernel_rfl) ?_;dsimp only [List.take,List.drop];refine gP xM <| gP (xCc func131 A0 (args:=[_]) rfl) <| gP xF <| gP xL <| gP (xCl func135 (RV)) <| gP (xCl func132 (C)) ?_;refine Ke ?_;refine gZ (xSk Ab) ?_))
  exact Df
 ·
  obtain ⟨a,hA0,ha0,hl0⟩:=B.a0 (by omega)
  have hl0:=hl0 (by omega)
  have hL0:=(gS.1 hA0).1
  obtain ⟨P,hP⟩:∃ P,c.R[a]?.getD iZ=P:=⟨_,rfl⟩
  have sp:=(BE sR a).more LBx LBx
  have A0:=Cj t u c y 0 hA0 (by omega) (by omega) (by omega)
  have hj0:(CZ c.R y)[0]?=some P:=CB (by omega) hA0 (by rw [ap,←hP];exact UV (by omega))
  rw [hP] at sp A0
  obtain ⟨b,hA1,ha1,hl1⟩:=B.a1 (by omega)
  have hL1:=(gS.1 hA1).1
  obtain ⟨Q,hQ⟩:∃ Q,c.R[b]?.getD iZ=Q:=⟨_,rfl⟩
  have sq:=(BE sR b).more LBx LBx
  have A1:=Cj t u c y 1 hA1 (by omega) (by omega) (by omega)
  have hj1:(CZ c.R y)[1]?=some Q:=CB (by omega) hA1 (by rw [ap,←hQ];exact UV (by omega))
  rw [hQ] at sq A1
  have C:=Sy P Q sp sq
  have hb:LO ps c.R y=AeS P Q:=by unfold LO Bs DB;simp [h,hj0,hj1]
  have ws:IwS (AeS P Q) 20000 20000:=by
   have:=GR (y:=y) (Ei (y:=y) sR) (fun h2=>B.sv (by omega)) (fun h2=>B.su h2) (by omega)
   rw [show DB y (CZ c.R y)=AeS P Q by unfold DB;simp [h,hj0,hj1]] at this
   exact Lh
  unfold Da
  rw [hb]
  have IS:=Cb _ _ ws wi
  repeat' (with_reducible first|refine GT ?_|refine HW ?_|refine Lg ?_|(refine Tx 13 ?_;refine gO xEq <| gO xA ?_)|(refine Tx 15 ?_;refine gO xEq <| gO xA ?_)|(refine Tx 17 ?_;refine gO xEq <| gO xA ?_)|(refine Tx 18 ?_;refine gO xM <| gO (xCc func131 A0 (args:=[_]) rfl) <| gO xM <| gO (xCc func131 A1 (args:=[_]) rfl) <| gO (xCl func138 (C)) <| gZ (xSk Ab) ?_))
  exact Df
 ·
  obtain ⟨a,hA0,ha0,hl0⟩:=B.a0 (by omega)
  have hl0:=hl0 (by omega)
  have hL0:=(gS.1 hA0).1
  obtain ⟨P,hP⟩:∃ P,c.R[a]?.getD iZ=P:=⟨_,rfl⟩
  have sp:=(BE sR a).more LBx LBx
  have A0:=Cj t u c y 0 hA0 (by omega) (by omega) (by omega)
  have hj0:(CZ c.R y)[0]?=some P:=CB (by omega) hA0 (by rw [ap,←hP];exact UV (by omega))
  rw [hP] at sp A0
  obtain ⟨b,hA1,ha1,hl1⟩:=B.a1 (by omega)
  have hL1:=(gS.1 hA1).1
  obtain ⟨Q,hQ⟩:∃ Q,c.R[b]?.getD iZ=Q:=⟨_,rfl⟩
  have sq:=(BE sR b).more LBx LBx
  have A1:=Cj t u c y 1 hA1 (by omega) (by omega) (by omega)
  have hj1:(CZ c.R y)[1]?=some Q:=CB (by omega) hA1 (by rw [ap,←hQ];exact UV (by omega))
  rw [hQ] at sq A1
  have C:=Sv P Q sp sq
  have hb:LO ps c.R y=Aaw P Q:=by unfold LO Bs DB;simp [h,hj0,hj1]
  have ws:IwS (Aaw P Q) 20000 20000:=by
   have:=GR (y:=y) (Ei (y:=y) sR) (fun h2=>B.sv (by omega)) (fun h2=>B.su h2) (by omega)
   rw [show DB y (CZ c.R y)=Aaw P Q by unfold DB;simp [h,hj0,hj1]] at this
   exact Lh
  unfold Da
  rw [hb]
  have IS:=Cb _ _ ws wi
  repeat' (with_reducible first|refine GT ?_|refine HW ?_|refine Lg ?_|(refine Tx 13 ?_;refine gO xEq <| gO xA ?_)|(refine Tx 15 ?_;refine gO xEq <| gO xA ?_)|(refine Tx 17 ?_;refine gO xEq <| gO xA ?_)|(refine Tx 19 ?_;refine gO xEq <| gO xA ?_)|(refine Tx 21 ?_;refine gO xEq <| gO xA ?_)|(refine Tx 23 ?_;refine gO xEq <| gO xA ?_)|(refine Tx 25 ?_;refine gO xEq <| gO xA ?_)|(refine Tx 26 ?_;refine gO xM <| gO (xCc func131 A0 (args:=[_]) rfl) <| gO xM <| gO (xCc func131 A1 (args:=[_]) rfl) <| gO (xCl func141 (C)) <| gZ (xSk Ab) ?_))
  exact Df
 ·
  obtain ⟨a,hA0,ha0,hl0⟩:=B.a0 (by omega)
  have hl0:=hl0 (by omega)
  have hL0:=(gS.1 hA0).1
  obtain ⟨P,hP⟩:∃ P,c.R[a]?.getD iZ=P:=⟨_,rfl⟩
  have sp:=(BE sR a).more LBx LBx
  have A0:=Cj t u c y 0 hA0 (by omega) (by omega) (by omega)
  have hj0:(CZ c.R y)[0]?=some P:=CB (by omega) hA0 (by rw [ap,←hP];exact UV (by omega))
  rw [hP] at sp A0
  obtain ⟨b,hA1,ha1,hl1⟩:=B.a1 (by omega)
  have hL1:=(gS.1 hA1).1
  obtain ⟨Q,hQ⟩:∃ Q,c.R[b]?.getD iZ=Q:=⟨_,rfl⟩
  have sq:=(BE sR b).more LBx LBx
  have A1:=Cj t u c y 1 hA1 (by omega) (by omega) (by omega)
  have hj1:(CZ c.R y)[1]?=some Q:=CB (by omega) hA1 (by rw [ap,←hQ];exact UV (by omega))
  rw [hQ] at sq A1
  have C:=Sw P Q sp sq
  have hb:LO ps c.R y=Aax P Q:=by unfold LO Bs DB;simp [h,hj0,hj1]
  have ws:IwS (Aax P Q) 20000 20000:=by
   have:=GR (y:=y) (Ei (y:=y) sR) (fun h2=>B.sv (by omega)) (fun h2=>B.su h2) (by omega)
   rw [show DB y (CZ c.R y)=Aax P Q by unfold DB;simp [h,hj0,hj1]] at this
   exact Lh
  unfold Da
  rw [hb]
  have IS:=Cb _ _ ws wi
  repeat' (with_reducible first|refine GT ?_|refine HW ?_|refine Lg ?_|(refine Tx 13 ?_;refine gO xEq <| gO xA ?_)|(refine Tx 15 ?_;refine gO xEq <| gO xA ?_)|(refine Tx 17 ?_;refine gO xEq <| gO xA ?_)|(refine Tx 19 ?_;refine gO xEq <| gO xA ?_)|(refine Tx 21 ?_;refine gO xEq <| gO xA ?_)|(refine Tx 23 ?_;refine gO xEq <| gO xA ?_)|(refine Tx 25 ?_;refine gO xEq <| gO xA ?_)|(refine Tx 27 ?_;refine gO xEq <| gO xA ?_)|(refine Tx 28 ?_;refine gO xM <| gO (xCc func131 A0 (args:=[_]) rfl) <| gO xM <| gO (xCc func131 A1 (args:=[_]) rfl) <| gO (xCl func142 (C)) <| gZ (xSk Ab) ?_))
  exact Df
 ·
  obtain ⟨a,hA0,ha0,hl0⟩:=B.a0 (by omega)
  have hl0:=hl0 (by omega)
  have hL0:=(gS.1 hA0).1
  obtain ⟨P,hP⟩:∃ P,c.R[a]?.getD iZ=P:=⟨_,rfl⟩
  have sp:=(BE sR a).more LBx LBx
  have A0:=Cj t u c y 0 hA0 (by omega) (by omega) (by omega)
  have hj0:(CZ c.R y)[0]?=some P:=CB (by omega) hA0 (by rw [ap,←hP];exact UV (by omega))
  rw [hP] at sp A0
  have C:=Sz P sp
  have hb:LO ps c.R y=QX P:=by unfold LO Bs DB;simp [h,hj0]
  have ws:IwS (QX P) 20000 20000:=by
   have:=GR (y:=y) (Ei (y:=y) sR) (fun h2=>B.sv (by omega)) (fun h2=>B.su h2) (by omega)
   rw [show DB y (CZ c.R y)=QX P by unfold DB;simp [h,hj0]] at this
   exact Lh
  unfold Da
  rw [hb]
  have IS:=Cb _ _ ws wi
  repeat' (with_reducible first|refine GT ?_|refine HW ?_|refine Lg ?_|(refine Tx 13 ?_;refine gO xEq <| gO xA ?_)|(refine Tx 15 ?_;refine gO xEq <| gO xA ?_)|(refine Tx 17 ?_;refine gO xEq <| gO xA ?_)|(refine Tx 19 ?_;refine gO xEq <| gO xA ?_)|(refine Tx 21 ?_;refine gO xEq <| gO xA ?_)|(refine Tx 22 ?_;refine gO xM <| gO (xCc func131 A0 (args:=[_]) rfl) <| gO (xCl func140 (C)) <| gZ (xSk Ab) ?_))
  exact Df
 ·
  obtain ⟨a,hA0,ha0,hl0⟩:=B.a0 (by omega)
  have hl0:=hl0 (by omega)
  have hL0:=(gS.1 hA0).1
  obtain ⟨P,hP⟩:∃ P,c.R[a]?.getD iZ=P:=⟨_,rfl⟩
  have sp:=(BE sR a).more LBx LBx
  have A0:=Cj t u c y 0 hA0 (by omega) (by omega) (by omega)
  have hj0:(CZ c.R y)[0]?=some P:=CB (by omega) hA0 (by rw [ap,←hP];exact UV (by omega))
  rw [hP] at sp A0
  have hv:=B.sv (by omega)
  have RV:=GI y.vn y.ve hv
  have sv:=(EP hv).more LBx LBx
  have hu:=B.su h
  have RU:=GI y.un y.ue hu
  have su:=(EP hu).more LBx LBx
  have C:=Uz P (Af y.vn 0 y.ve) (Af y.un 0 y.ue) sp sv su (B.cl h)
  have hb:LO ps c.R y=Qo P (Af y.vn 0 y.ve) (Af y.un 0 y.ue):=by unfold LO Bs DB;simp [h,hj0]
  have ws:IwS (Qo P (Af y.vn 0 y.ve) (Af y.un 0 y.ue)) 20000 20000:=by
   have:=GR (y:=y) (Ei (y:=y) sR) (fun h2=>B.sv (by omega)) (fun h2=>B.su h2) (by omega)
   rw [show DB y (CZ c.R y)=Qo P (Af y.vn 0 y.ve) (Af y.un 0 y.ue) by unfold DB;simp [h,hj0]] at this
   exact Lh
  unfold Da
  rw [hb]
  have IS:=Cb _ _ ws wi
  repeat' (with_reducible first|refine GT ?_|refine HW ?_|refine Lg ?_|(refine Tx 13 ?_;refine gO xEq <| gO xA ?_)|(refine Tx 15 ?_;refine gO xEq <| gO xA ?_)|(refine Tx 17 ?_;refine gO xEq <| gO xA ?_)|(refine Tx 19 ?_;refine gO xEq <| gO xA ?_)|(refine Tx 21 ?_;refine gO xEq <| gO xA ?_)|(refine Tx 23 ?_;refine gO xEq <| gO xA ?_)|(refine Tx 25 ?_;refine gO xEq <| gO xA ?_)|(refine Tx 27 ?_;refine gO xEq <| gO xA ?_)|(refine Im (id:=5) 12 [(12,11)] AC (by kernel_rfl) ?_;dsimp only [List.take,List.drop];refine gP xM <| gP (xCc func131 A0 (args:=[_]) rfl) <| gP xF <| gP xL <| gP Aqa <| gP xF <| gP xL <| gP Aqa <| gP (xCl func143 (C)) <| gP xMt <| gP (by exact CQ rfl rfl rfl) <| gP xEx ?_;refine Ke ?_;refine gZ (xSk Ab) ?_))
  exact Df
def AgO (mk:Bool) (E:List Pq):D:=.row mk 3 E.length (An dyP E)
def dCx (u:Bool) (c:Ct) (xd:D):List D:=[AU u c.F,.row false 6 c.R.length (An (dIw false) c.R),xd]
theorem Aqb (h:p:=by first|exact xIr Ae (Ay hk)|exact xIr Ae (Ay hFr)|exact xIr Ae (hEr)):p:=h
theorem AiE (k:p') (h:Hd9 p'→p:=by with_reducible first|(intro Z9;refine qq ?_;exact Z9.o)|(intro Z9;refine Tx 0 ?_;refine gN (xAl Aj) ?_;exact Z9.o)|(intro Z9;refine Tx 1 ?_;refine gO xF <| gO xD <| gO xM <| gO Aqb <| gO xD <| gO xA ?_;exact Z9.o)|(intro Z9;refine Bl (id:=2) AC (by kernel_rfl) ?_;refine gP xD <| gP xF <| gP xD <| gP xM <| gP Aqb <| gP xD <| gP xGe ?_;refine Ke ?_;exact Z9.o)|(intro Z9;refine Tx 3 ?_;refine gO xD <| gO xM <| gO (xIr Ag (hEr)) <| gO xL <| gZ (xSk Aa) ?_;exact Z9.o)|(intro Z9;refine Ax (id:=4) 6 AC (by kernel_rfl) ?_;dsimp only [List.take,List.drop];refine gP xD <| gP xM <| gP (xIr Ag (hEr)) <| gP xL <| gP xL <| gP (xCl func146 (AD)) ?_;refine Ke ?_;refine gZ (xSk Aa) ?_;exact Z9.o)|fail):p:=h ⟨k⟩
theorem ER (mk:Bool) (xd:D) (t u:Bool) (c:Ct) (E:List Pq) (y:Bk) (s:Int) (s0:0≤s) (s1:s≤30) (sE:∀ p∈E,Sm p LB LB) (k:Nat) {r:Nat} (hk:y.args[k]?=some (r:Int)) (hr:r<c.F.length) (hr2:r<E.length) (ha:y.args.length≤1000000) (hv:c.F.length≤1000000) (hv2:E.length≤1000000):CV prog Ah 145 [aI (k:Int),.one (.ptr true (dBk t y)),.one (.ptr true [dI s]),.one (.ptr true (dCx u c xd)),.one (.ptr true [AgO mk E]),.one (.ptr true (dDy false (pw (-s)).1 (pw (-s)).2))] [aDy false (mvP c.F E s (r:Int)).1 (mvP c.F E s (r:Int)).2]:=by
 refine cvz func145 ntmps145 ?_
 have l1:=(gS.1 hk).1
 have hFr:=My (F:=c.F) (k:=r) (by omega)
 have hEr:=Yy (E:=E) (k:=r) (by omega)
 have sm:=DA sE r
 obtain ⟨e,he⟩:∃ e,E[r]?.getD (0,0)=e:=⟨_,rfl⟩
 rw [he] at sm hEr
 have um:=UU s0 s1
 have AD:=Eg e.1 e.2 (pw (-s)).1 (pw (-s)).2 sm.ok um.ok sm.lz um.lz
 by_cases h:scA c.F r≤s
 case pos =>
  rw [show mvP c.F E s (r:Int)=e by unfold mvP;rw [Cm,if_pos h,HJ,he]]
  repeat' (with_reducible first|refine AiE ?_)
  exact DR
 rw [show mvP c.F E s (r:Int)=DP e (pw (-s)) by unfold mvP;rw [Cm,if_neg h,HJ,he]]
 repeat' (with_reducible first|refine AiE ?_)
 exact DR
theorem Np (b:Bool) (s:Int):CV prog Ah 147 [aB b,.one (.ptr true (dDy false (pw (-s)).1 (pw (-s)).2))] [aDy false (ixP b s).1 (ixP b s).2]:=by
 refine cvz func147 ntmps147 ?_
 cases b
 case true =>
  rw [show ixP true s=pw (-s) from rfl]
  repeat' (with_reducible first|refine qq ?_|(refine Tx 0 ?_;refine gN (xAl Aj) ?_)|(refine Tx 1 ?_;refine gO xM ?_)|(refine Tx 2 ?_;refine gO xL <| gZ (xSk Aa) ?_))
  exact DR
 case false =>
  rw [show ixP false s=(0,0) from rfl,Ht]
  repeat' (with_reducible first|refine qq ?_|(refine Tx 0 ?_;refine gN (xAl Aj) ?_)|(refine Tx 1 ?_;refine gO xM ?_)|(refine Tx 3 ?_;refine gO (by exact AF rfl Ga rfl rfl) <| gZ (xSk Aa) ?_))
  exact Au rfl (.cons_ (ArK Aa rfl) .nil_)
theorem Gp (k:p') (h:Hd9 p'→p:=by with_reducible first|(intro Z9;refine qq ?_;exact Z9.o)|(intro Z9;refine Tx 0 ?_;refine gN xBo <| gN xBo <| gN xBo <| gN (xAl Aj) ?_;exact Z9.o)|(intro Z9;refine Tx 3 ?_;refine gO xD <| gO (xCl func134 (UN)) <| gN (xAl Aj) <| gZ (xSk Aa) ?_;exact Z9.o)|(intro Z9;refine Tx 4 ?_;refine gO (by first|exact xMf [(4,0,none),(5,0,none),(1,0,none),(2,0,none),(6,0,none)]|exact Dm rfl (by repeat' first|exact Br rfl rfl|refine AO rfl rfl rfl ?_)) <| gO xA ?_;exact Z9.o)|(intro Z9;refine Tx 5 ?_;refine gO (by first|exact xMf [(6,0,none)]|exact Dm rfl (by repeat' first|exact Br rfl rfl|refine AO rfl rfl rfl ?_)) <| gO xA ?_;exact Z9.o)|(intro Z9;refine Tx 6 ?_;refine gO xF <| gO xD ?_;exact Z9.o)|(intro Z9;refine Tx 7 ?_;refine gO xEq <| gO xA ?_;exact Z9.o)|fail):p:=h ⟨k⟩
theorem Ia (k:p') (h:Hd9 p'→p:=by with_reducible first|(intro Z9;refine Tx 1 ?_;refine gO xF <| gO xD <| gO xM <| gO (xIr Ak (Dq hy)) <| gO xL <| gN (xAl Bu) <| gZ (xSk Bh) ?_;exact Z9.o)|(intro Z9;refine Tx 2 ?_;refine gO xF <| gO xD <| gO xM <| gO (xIr Ae (Ay hFi)) <| gO xD <| gN (xAl CC) <| gZ Aad ?_;exact Z9.o)|fail):p:=h ⟨k⟩
theorem GU (k:p') (h:Hd9 p'→p:=by with_reducible first|(intro Z9;refine Tx 9 ?_;refine gO xEq <| gO xA ?_;exact Z9.o)|fail):p:=h ⟨k⟩
theorem Ib (k:p') (h:Hd9 p'→p:=by with_reducible first|(intro Z9;refine Tx 11 ?_;refine gO xEq <| gO xA ?_;exact Z9.o)|fail):p:=h ⟨k⟩
theorem Li (k:p') (h:Hd9 p'→p:=by with_reducible first|(intro Z9;refine Tx 12 ?_;refine gO xEq <| gO xA ?_;exact Z9.o)|fail):p:=h ⟨k⟩
theorem Aqc (h:p:=by first|exact xCl func148 (WH)|exact xCl func148 (WU)):p:=h
theorem AiF (k:p') (h:Hd9 p'→p:=by with_reducible first|(intro Z9;refine Ax (id:=27) 17 AC (by kernel_rfl) ?_;dsimp only [List.take,List.drop];refine gP xM <| gP (xCc func145 M0 (args:=[_]) rfl) <| gP xM <| gP xF <| gP xL <| gP xD <| gP Aqc <| gP Gm <| gP xM ?_;(first|iterate 5 refine Kd ?_|(refine Ky (xFa Eb AM) ?_;refine Ky (xLa AM) ?_;refine Ky (xLd Az) ?_;refine Ky Aqc ?_;refine Ky Gm ?_));refine gP xPk <| gP (xCc func147 IX (args:=[_]) rfl) <| gP (xCl func91 (C)) ?_;refine Ke ?_;refine gZ (xSk Aa) ?_;exact Z9.o)|fail):p:=h ⟨k⟩
theorem AlZ (h:p:=by first|exact xIr Ae (Ay hFi)|exact xIr Ae (Ay hF0)|exact xIr Ae (Ay hF1)|exact xIr Ae (hE0)|exact xIr Ae (hE1)|exact xIr Ae (hI0)|exact xIr Ae (hI1)):p:=h
theorem Aqd (h:p:=by first|exact xIr Ad (hE0)|exact xIr Ad (hE1)|exact xIr Ad (hI0)|exact xIr Ad (hI1)):p:=h
theorem AgP (h:p:=by first|exact xIr Ag (hE0)|exact xIr Ag (hE1)|exact xIr Ag (hI0)|exact xIr Ag (hI1)):p:=h
theorem Aqe (h:p:=by first|exact xIr Ae (Ay hFi)|exact xIr Ae (Ay hF0)|exact xIr Ae (hEa)):p:=h
theorem Ama (h:p:=by first|exact xCl func149 (MA)|exact xCl func149 (MB)|exact xCl func149 (MC)):p:=h
theorem Amb (h:p:=by first|exact xCl func146 (D1)|exact xCl func146 (D2)|exact xCl func146 (D3)):p:=h
theorem Aqf (h:p:=by first|exact xCl func151 (MG0)|exact xCl func151 (MG1)):p:=h
theorem Aqg (h:p:=by first|exact xIr Ae (Ay hA0)|exact xIr Ae (hEa)):p:=h
theorem Amc (h:p:=by first|exact Abn rfl rfl rfl|exact xLt):p:=h
theorem Nq (mk:Bool) (xd:D) (t u:Bool) {ps:List Prt} {bs:List Bk} (os:List Int) (c:Ct) (E:List Pq) (hE:E.length=bs.length) (sE:∀ p∈E,Sm p LB LB) (i:Nat) {y:Bk} (hy:bs[i]?=some y) (B:AeV ps bs.length y) (hF:c.F.length=bs.length) (hR:c.R.length=bs.length) (sR:∀ p∈c.R,IwS p LB LB) (hn:bs.length≤1000000) (hpn:ps.length≤1000000) (hs2:0≤scA c.F i∧scA c.F i≤30) (hsa:y.kind≠0→∀ a∈y.args,0≤sG c.F a∧sG c.F a≤30):CV prog Ah 62 [aDg t ps bs os,.agg (dCx u c xd),.one (AgO mk E),aI (i:Int)] [aDy false (AP ps c.F c.R E y (scA c.F i)).1 (AP ps c.F c.R E y (scA c.F i)).2]:=by
 refine cvz func62 ntmps62 ?_
 have hil:=(gS.1 hy).1
 have hFi:=My (F:=c.F) (k:=i) (by omega)
 obtain ⟨s,hs⟩:∃ s,scA c.F i=s:=⟨_,rfl⟩
 rw [hs] at hFi
 have hBl:=B.len
 obtain ⟨s0,s1⟩:=hs2
 rw [hs] at s0 s1
 have UN:=PQ s (by omega) (by omega)
 have um:=UU s0 s1
 rw [hs]
 rcases B.hk with h|h|h|h|h|h|h|h|h|h|h|h
 ·
  obtain ⟨j,pp,hA0,ha0,hp,PS⟩:=B.port h
  have l3:=(gS.1 hp).1
  have hL0:=(gS.1 hA0).1
  rw [show AP ps c.F c.R E y s=ixP (decide (s<pp.fr)) s by unfold AP;rw [if_pos h,ha0,SW hp]]
  have IX:=Np (decide (s<pp.fr)) s
  repeat' (with_reducible first|refine Gp ?_|refine Ia ?_|(refine Ax (id:=8) 13 AC (by kernel_rfl) ?_;dsimp only [List.take,List.drop];refine gP xM <| gP xD <| gP xF <| gP xD <| gP xF <| gP xD <| gP (xIr Ae (Ay hA0)) <| gP xD <| gP (xIr Ci (IV hp)) <| gP xF <| gP xD <| gP Amc <| gP (xCc func147 IX (args:=[_]) rfl) ?_;refine Ke ?_;refine gZ (xSk Aa) ?_))
  exact DR
 ·
  have WH:=IE y.vn y.ve s (B.sv (by omega)) s0 s1
  have IX:=Np (!Bn y.vn y.ve s) s
  rw [show AP ps c.F c.R E y s=ixP (!Bn y.vn y.ve s) s by unfold AP;rw [if_neg (by omega),if_pos h]]
  repeat' (with_reducible first|refine Gp ?_|refine Ia ?_|refine GU ?_|(refine Tx 10 ?_;refine gO xM <| gO xF <| gO xL <| gO xD <| gO (xCl func148 (WH)) <| gO Gm <| gO (xCc func147 IX (args:=[_]) rfl) <| gZ (xSk Aa) ?_))
  exact DR
 ·
  obtain ⟨a,hA0,ha0,hl0⟩:=B.a0 (by omega)
  have hl0:=hl0 (by omega)
  have hL0:=(gS.1 hA0).1
  have M0:=ER mk xd t u c E y s s0 s1 sE 0 hA0 (by omega) (by omega) (by omega) (by omega) (by omega)
  obtain ⟨m0,hm0⟩:∃ m,mvP c.F E s (a:Int)=m:=⟨_,rfl⟩
  have t0:=Ev (F:=c.F) s0 s1 sE (a:Int)
  rw [hm0] at M0 t0
  have WH:=IE y.vn y.ve s (B.sv (by omega)) s0 s1
  have ib:=Mx (b:=(!Bn y.vn y.ve s)) s0 s1
  have IX:=Np (!Bn y.vn y.ve s) s
  have C:=FI m0.1 m0.2 (ixP (!Bn y.vn y.ve s) s).1 (ixP (!Bn y.vn y.ve s) s).2 t0.ok ib.ok t0.lz ib.lz
  rw [show AP ps c.F c.R E y s=GG m0 (ixP (!Bn y.vn y.ve s) s) by unfold AP;rw [if_neg (by omega),if_neg (by omega),if_neg (by omega),if_neg (by omega),if_neg (by omega),if_neg (by omega),if_neg (by omega),if_neg (by omega),ha0,hm0]]
  repeat' (with_reducible first|refine Gp ?_|refine Ia ?_|refine GU ?_|refine Ib ?_|refine Li ?_|(refine Tx 14 ?_;refine gO xEq <| gO xA ?_)|(refine Tx 15 ?_;refine gO xEq <| gO xA ?_)|(refine Tx 17 ?_;refine gO xEq <| gO xA ?_)|(refine Tx 18 ?_;refine gO xEq <| gO xA ?_)|(refine Tx 20 ?_;refine gO xEq <| gO xA ?_)|(refine Tx 22 ?_;refine gO xEq <| gO xA ?_)|(refine Tx 26 ?_;refine gO xEq <| gO xA ?_)|(refine Ax (id:=28) 10 AC (by kernel_rfl) ?_;dsimp only [List.take,List.drop];refine gP xM <| gP (xCc func145 M0 (args:=[_]) rfl) <| gP xM <| gP xF <| gP xL <| gP xD <| gP (xCl func148 (WH)) <| gP Gm <| gP (xCc func147 IX (args:=[_]) rfl) <| gP (xCl func91 (C)) ?_;refine Ke ?_;refine gZ (xSk Aa) ?_))
  exact DR
 ·
  obtain ⟨a,hA0,ha0,hl0⟩:=B.a0 (by omega)
  have hl0:=hl0 (by omega)
  have hL0:=(gS.1 hA0).1
  obtain ⟨b,hA1,ha1,hl1⟩:=B.a1 (by omega)
  have hL1:=(gS.1 hA1).1
  have M0:=ER mk xd t u c E y s s0 s1 sE 0 hA0 (by omega) (by omega) (by omega) (by omega) (by omega)
  obtain ⟨m0,hm0⟩:∃ m,mvP c.F E s (a:Int)=m:=⟨_,rfl⟩
  have t0:=Ev (F:=c.F) s0 s1 sE (a:Int)
  rw [hm0] at M0 t0
  have M1:=ER mk xd t u c E y s s0 s1 sE 1 hA1 (by omega) (by omega) (by omega) (by omega) (by omega)
  obtain ⟨m1,hm1⟩:∃ m,mvP c.F E s (b:Int)=m:=⟨_,rfl⟩
  have t1:=Ev (F:=c.F) s0 s1 sE (b:Int)
  rw [hm1] at M1 t1
  have C:=Eg m0.1 m0.2 m1.1 m1.2 t0.ok t1.ok t0.lz t1.lz
  rw [show AP ps c.F c.R E y s=DP m0 m1 by unfold AP;rw [if_neg (by omega),if_neg (by omega),if_pos (by omega),ha0,ha1,hm0,hm1]]
  repeat' (with_reducible first|refine Gp ?_|refine Ia ?_|refine GU ?_|refine Ib ?_|(refine Tx 13 ?_;refine gO xM <| gO (xCc func145 M0 (args:=[_]) rfl) <| gO xM <| gO (xCc func145 M1 (args:=[_]) rfl) <| gO (xCl func146 (C)) <| gZ (xSk Aa) ?_))
  exact DR
 ·
  obtain ⟨a,hA0,ha0,hl0⟩:=B.a0 (by omega)
  have hl0:=hl0 (by omega)
  have hL0:=(gS.1 hA0).1
  obtain ⟨b,hA1,ha1,hl1⟩:=B.a1 (by omega)
  have hL1:=(gS.1 hA1).1
  have M0:=ER mk xd t u c E y s s0 s1 sE 0 hA0 (by omega) (by omega) (by omega) (by omega) (by omega)
  obtain ⟨m0,hm0⟩:∃ m,mvP c.F E s (a:Int)=m:=⟨_,rfl⟩
  have t0:=Ev (F:=c.F) s0 s1 sE (a:Int)
  rw [hm0] at M0 t0
  have M1:=ER mk xd t u c E y s s0 s1 sE 1 hA1 (by omega) (by omega) (by omega) (by omega) (by omega)
  obtain ⟨m1,hm1⟩:∃ m,mvP c.F E s (b:Int)=m:=⟨_,rfl⟩
  have t1:=Ev (F:=c.F) s0 s1 sE (b:Int)
  rw [hm1] at M1 t1
  have C:=Eg m0.1 m0.2 m1.1 m1.2 t0.ok t1.ok t0.lz t1.lz
  rw [show AP ps c.F c.R E y s=DP m0 m1 by unfold AP;rw [if_neg (by omega),if_neg (by omega),if_pos (by omega),ha0,ha1,hm0,hm1]]
  repeat' (with_reducible first|refine Gp ?_|refine Ia ?_|refine GU ?_|refine Ib ?_|refine Li ?_|(refine Tx 13 ?_;refine gO xM <| gO (xCc func145 M0 (args:=[_]) rfl) <| gO xM <| gO (xCc func145 M1 (args:=[_]) rfl) <| gO (xCl func146 (C)) <| gZ (xSk Aa) ?_))
  exact DR
 ·
  obtain ⟨a,hA0,ha0,hl0⟩:=B.a0 (by omega)
  have hl0:=hl0 (by omega)
  have hL0:=(gS.1 hA0).1
  have M0:=ER mk xd t u c E y s s0 s1 sE 0 hA0 (by omega) (by omega) (by omega) (by omega) (by omega)
  obtain ⟨m0,hm0⟩:∃ m,mvP c.F E s (a:Int)=m:=⟨_,rfl⟩
  have t0:=Ev (F:=c.F) s0 s1 sE (a:Int)
  rw [hm0] at M0 t0
  rw [show AP ps c.F c.R E y s=m0 by unfold AP;rw [if_neg (by omega),if_neg (by omega),if_neg (by omega),if_pos (by omega),ha0,hm0]]
  repeat' (with_reducible first|refine Gp ?_|refine Ia ?_|refine GU ?_|refine Ib ?_|refine Li ?_|(refine Tx 14 ?_;refine gO xEq <| gO xA ?_)|(refine Tx 16 ?_;refine gO xM <| gO (xCc func145 M0 (args:=[_]) rfl) <| gZ (xSk Aa) ?_))
  exact DR
 ·
  obtain ⟨a,hA0,ha0,hl0⟩:=B.a0 (by omega)
  have hl0:=hl0 (by omega)
  have hL0:=(gS.1 hA0).1
  have hF0:=My (F:=c.F) (k:=a) (by omega)
  have hr0:=hsa (by omega) a (gM hA0)
  rw [Cm] at hr0
  have hv:=B.sv (by omega)
  have sv:=EP hv
  have hv2:=hv
  unfold DN at hv2
  have RV:=GI y.vn y.ve hv
  have hEa:=Yy (E:=E) (k:=a) (by omega)
  have se:=DA sE a
  obtain ⟨e,he⟩:∃ e,E[a]?.getD (0,0)=e:=⟨_,rfl⟩
  rw [he] at se hEa
  obtain ⟨r,hr⟩:∃ r,scA c.F a=r:=⟨_,rfl⟩
  rw [hr] at hF0 hr0
  obtain ⟨v,hvv⟩:∃ v,Af y.vn 0 y.ve=v:=⟨_,rfl⟩
  rw [hvv] at RV sv
  have AB:=Sh v.1 v.2 sv.ok sv.lz
  have sa:=sv.abs
  have MU:=Hp (GF v).1 (GF v).2 e.1 e.2 sa.ok se.ok sa.lz se.lz (lT (ei sa.d se.d) (by decide))
  have sm:=Sm.mul sa se (by decide)
  have ib:=Mx (b:=decide (s - r+y.ve<0)) s0 s1
  have IX:=Np (decide (s - r+y.ve<0)) s
  have AD:=Eg (CG (GF v) e).1 (CG (GF v) e).2 (ixP (decide (s - r+y.ve<0)) s).1 (ixP (decide (s - r+y.ve<0)) s).2 sm.ok ib.ok sm.lz ib.lz
  rw [show AP ps c.F c.R E y s=DP (CG (GF v) e) (ixP (decide (s - r+y.ve<0)) s) by unfold AP;rw [if_neg (by omega),if_neg (by omega),if_neg (by omega),if_neg (by omega),if_neg (by omega),if_pos h,ha0,Cm,HJ,he,hr,hvv]]
  repeat' (with_reducible first|refine Gp ?_|(refine Tx 1 ?_;refine gO xF <| gO xD <| gO xM <| gO (by first|exact xIr Ak (Dq hy)|exact xIr Ak (hEa)) <| gO xL <| gN (xAl Bu) <| gZ (xSk Bh) ?_)|(refine Tx 2 ?_;refine gO xF <| gO xD <| gO xM <| gO Aqe <| gO xD <| gN (xAl CC) <| gZ Aad ?_)|refine GU ?_|refine Ib ?_|refine Li ?_|(refine Tx 14 ?_;refine gO xEq <| gO xA ?_)|(refine Tx 15 ?_;refine gO xEq <| gO xA ?_)|(refine Tx 17 ?_;refine gO xEq <| gO xA ?_)|(refine Tx 18 ?_;refine gO xEq <| gO xA ?_)|(refine Tx 20 ?_;refine gO xEq <| gO xA ?_)|(refine Ax (id:=21) 30 AC (by kernel_rfl) ?_;dsimp only [List.take,List.drop];refine gP xF <| gP xL <| gP (xCl func135 (RV)) <| gP (xCl func150 (AB)) <| gP xD <| gP xF <| gP xD <| gP Aqg <| gP xD <| gP (xIr Ag (hEa)) <| gP xL <| gP (xCl func149 (MU)) <| gP xM <| gP xD <| gP xF <| gP xD <| gP xF <| gP xD <| gP Aqg <| gP xD <| gP Aqe <| gP xD <| gP xSb <| gP xF <| gP xF <| gP xD <| gP xAd <| gP Amc <| gP (xCc func147 IX (args:=[_]) rfl) <| gP (xCl func146 (AD)) ?_;refine Ke ?_;refine gZ (xSk Aa) ?_))
  exact DR
 ·
  obtain ⟨a,hA0,ha0,hl0⟩:=B.a0 (by omega)
  have hl0:=hl0 (by omega)
  have hL0:=(gS.1 hA0).1
  obtain ⟨b,hA1,ha1,hl1⟩:=B.a1 (by omega)
  have hL1:=(gS.1 hA1).1
  have hF0:=My (F:=c.F) (k:=a) (by omega)
  have hr0:=hsa (by omega) a (gM hA0)
  rw [Cm] at hr0
  have hE0:=Yy (E:=E) (k:=a) (by omega)
  have se0:=DA sE a
  obtain ⟨e0,he0⟩:∃ e,E[a]?.getD (0,0)=e:=⟨_,rfl⟩
  rw [he0] at se0 hE0
  obtain ⟨r0,hq0⟩:∃ r,scA c.F a=r:=⟨_,rfl⟩
  rw [hq0] at hF0 hr0
  have hI0:=Yz (R:=c.R) (k:=a) (by omega)
  have si0:=BE sR a
  obtain ⟨P0,hP0⟩:∃ P,c.R[a]?.getD iZ=P:=⟨_,rfl⟩
  rw [hP0] at si0 hI0
  have MG0:=Mu P0 (si0.more LBx LBx)
  have sg0:=Lc si0
  generalize hG0:Fu P0=G0 at MG0 sg0
  have hF1:=My (F:=c.F) (k:=b) (by omega)
  have hr1:=hsa (by omega) b (gM hA1)
  rw [Cm] at hr1
  have hE1:=Yy (E:=E) (k:=b) (by omega)
  have se1:=DA sE b
  obtain ⟨e1,he1⟩:∃ e,E[b]?.getD (0,0)=e:=⟨_,rfl⟩
  rw [he1] at se1 hE1
  obtain ⟨r1,hq1⟩:∃ r,scA c.F b=r:=⟨_,rfl⟩
  rw [hq1] at hF1 hr1
  have hI1:=Yz (R:=c.R) (k:=b) (by omega)
  have si1:=BE sR b
  obtain ⟨P1,hP1⟩:∃ P,c.R[b]?.getD iZ=P:=⟨_,rfl⟩
  rw [hP1] at si1 hI1
  have MG1:=Mu P1 (si1.more LBx LBx)
  have sg1:=Lc si1
  generalize hG1:Fu P1=G1 at MG1 sg1
  have MA:=Hp G0.1 G0.2 e1.1 e1.2 sg0.ok se1.ok sg0.lz se1.lz (lT (ei sg0.d se1.d) (by decide))
  have sMA:=Sm.mul sg0 se1 (by decide)
  have MB:=Hp G1.1 G1.2 e0.1 e0.2 sg1.ok se0.ok sg1.lz se0.lz (lT (ei sg1.d se0.d) (by decide))
  have sMB:=Sm.mul sg1 se0 (by decide)
  have MC:=Hp e0.1 e0.2 e1.1 e1.2 se0.ok se1.ok se0.lz se1.lz (lT (ei se0.d se1.d) (by decide))
  have sMC:=Sm.mul se0 se1 (by decide)
  generalize hA:CG G0 e1=A at *
  generalize hB:CG G1 e0=Bq at *
  generalize hC:CG e0 e1=Cq at *
  have hAe:Pk G0.1 G0.2 e1.1 e1.2=A:=hA
  have hBe:Pk G1.1 G1.2 e0.1 e0.2=Bq:=hB
  have hCe:Pk e0.1 e0.2 e1.1 e1.2=Cq:=hC
  rw [hAe] at MA sMA
  rw [hBe] at MB sMB
  rw [hCe] at MC sMC
  have D1:=Eg A.1 A.2 Bq.1 Bq.2 sMA.ok sMB.ok sMA.lz sMB.lz
  have t1:Sm (DP A Bq) 16385 8192:=Sm.sum sMA sMB (by decide)
  generalize hS:DP A Bq=S1 at *
  have hSe:CR A.1 A.2 Bq.1 Bq.2=S1:=hS
  rw [hSe] at D1
  have D2:=Eg S1.1 S1.2 Cq.1 Cq.2 t1.ok sMC.ok t1.lz sMC.lz
  have t2:Sm (DP S1 Cq) 24578 8192:=Sm.sum t1 (sMC.more (by decide) (by decide)) (by decide)
  generalize hT:DP S1 Cq=S2 at *
  have hTe:CR S1.1 S1.2 Cq.1 Cq.2=S2:=hT
  rw [hTe] at D2
  have ib:=Mx (b:=decide (s - r0 - r1<0)) s0 s1
  have IX:=Np (decide (s - r0 - r1<0)) s
  have D3:=Eg S2.1 S2.2 (ixP (decide (s - r0 - r1<0)) s).1 (ixP (decide (s - r0 - r1<0)) s).2 t2.ok ib.ok t2.lz ib.lz
  rw [show AP ps c.F c.R E y s=DP S2 (ixP (decide (s - r0 - r1<0)) s) by unfold AP;rw [if_neg (by omega),if_neg (by omega),if_neg (by omega),if_neg (by omega),if_neg (by omega),if_neg (by omega),if_pos h,ha0,ha1,Cm,Cm,HJ,HJ,Nx,Nx,he0,he1,hq0,hq1,hP0,hP1,hG0,hG1,hA,hB,hC,hS,hT]]
  repeat' (with_reducible first|refine Gp ?_|(refine Tx 1 ?_;refine gO xF <| gO xD <| gO xM <| gO (by first|exact xIr Ak (Dq hy)|exact xIr Ak (hE0)|exact xIr Ak (hE1)|exact xIr Ak (hI0)|exact xIr Ak (hI1)) <| gO xL <| gN (xAl Bu) <| gZ (xSk Bh) ?_)|(refine Tx 2 ?_;refine gO xF <| gO xD <| gO xM <| gO AlZ <| gO xD <| gN (xAl CC) <| gZ Aad ?_)|refine GU ?_|refine Ib ?_|refine Li ?_|(refine Tx 14 ?_;refine gO xEq <| gO xA ?_)|(refine Tx 15 ?_;refine gO xEq <| gO xA ?_)|(refine Tx 17 ?_;refine gO xEq <| gO xA ?_)|(refine Tx 18 ?_;refine gO xEq <| gO xA ?_)|(refine Tx 20 ?_;refine gO xEq <| gO xA ?_)|(refine Tx 22 ?_;refine gO xEq <| gO xA ?_)|(refine Bl (id:=23) AC (by kernel_rfl) ?_;refine gP xF <| gP xD <| gP (by first|exact xIr Ae (Ay hA0)|exact xIr Ae (hE0)|exact xIr Ae (hE1)|exact xIr Ae (hI0)|exact xIr Ae (hI1)) <| gP xD <| gP xF <| gP xD <| gP (by first|exact xIr Ae (Ay hA1)|exact xIr Ae (hE0)|exact xIr Ae (hE1)|exact xIr Ae (hI0)|exact xIr Ae (hI1)) <| gP xD <| gP xA <| gP xA ?_;refine Ke ?_)|(refine Ax (id:=24) 24 AC (by kernel_rfl) ?_;dsimp only [List.take,List.drop];refine gP xF <| gP xD <| gP xM <| gP Aqd <| gP xL <| gP Aqf <| gP xD <| gP xM <| gP AgP <| gP xL <| gP Ama <| gP xF <| gP xD <| gP xM <| gP Aqd <| gP xL <| gP Aqf <| gP xD <| gP xM <| gP AgP <| gP xL <| gP Ama <| gP Amb <| gQ (xAl Aj) ?_;refine Ke ?_;refine gZ (xSk Aa) ?_)|(refine Ax (id:=25) 28 AC (by kernel_rfl) ?_;dsimp only [List.take,List.drop];refine gP xL <| gP xD <| gP xM <| gP AgP <| gP xL <| gP xD <| gP xM <| gP AgP <| gP xL <| gP Ama <| gP Amb <| gP xM <| gP xD <| gP xF <| gP xD <| gP xM <| gP AlZ <| gP xD <| gP xSb <| gP xF <| gP xD <| gP xM <| gP AlZ <| gP xD <| gP xSb <| gP Amc <| gP (xCc func147 IX (args:=[_]) rfl) <| gP Amb ?_;refine Ke ?_;refine gZ (xSk Aa) ?_))
  exact DR
 ·
  obtain ⟨a,hA0,ha0,hl0⟩:=B.a0 (by omega)
  have hl0:=hl0 (by omega)
  have hL0:=(gS.1 hA0).1
  obtain ⟨b,hA1,ha1,hl1⟩:=B.a1 (by omega)
  have hL1:=(gS.1 hA1).1
  have M0:=ER mk xd t u c E y s s0 s1 sE 0 hA0 (by omega) (by omega) (by omega) (by omega) (by omega)
  obtain ⟨m0,hm0⟩:∃ m,mvP c.F E s (a:Int)=m:=⟨_,rfl⟩
  have t0:=Ev (F:=c.F) s0 s1 sE (a:Int)
  rw [hm0] at M0 t0
  have M1:=ER mk xd t u c E y s s0 s1 sE 1 hA1 (by omega) (by omega) (by omega) (by omega) (by omega)
  obtain ⟨m1,hm1⟩:∃ m,mvP c.F E s (b:Int)=m:=⟨_,rfl⟩
  have t1:=Ev (F:=c.F) s0 s1 sE (b:Int)
  rw [hm1] at M1 t1
  have C:=FI m0.1 m0.2 m1.1 m1.2 t0.ok t1.ok t0.lz t1.lz
  rw [show AP ps c.F c.R E y s=GG m0 m1 by unfold AP;rw [if_neg (by omega),if_neg (by omega),if_neg (by omega),if_neg (by omega),if_pos (by omega),ha0,ha1,hm0,hm1]]
  repeat' (with_reducible first|refine Gp ?_|refine Ia ?_|refine GU ?_|refine Ib ?_|refine Li ?_|(refine Tx 14 ?_;refine gO xEq <| gO xA ?_)|(refine Tx 15 ?_;refine gO xEq <| gO xA ?_)|(refine Tx 17 ?_;refine gO xEq <| gO xA ?_)|(refine Tx 19 ?_;refine gO xM <| gO (xCc func145 M0 (args:=[_]) rfl) <| gO xM <| gO (xCc func145 M1 (args:=[_]) rfl) <| gO (xCl func91 (C)) <| gZ (xSk Aa) ?_))
  exact DR
 ·
  obtain ⟨a,hA0,ha0,hl0⟩:=B.a0 (by omega)
  have hl0:=hl0 (by omega)
  have hL0:=(gS.1 hA0).1
  obtain ⟨b,hA1,ha1,hl1⟩:=B.a1 (by omega)
  have hL1:=(gS.1 hA1).1
  have M0:=ER mk xd t u c E y s s0 s1 sE 0 hA0 (by omega) (by omega) (by omega) (by omega) (by omega)
  obtain ⟨m0,hm0⟩:∃ m,mvP c.F E s (a:Int)=m:=⟨_,rfl⟩
  have t0:=Ev (F:=c.F) s0 s1 sE (a:Int)
  rw [hm0] at M0 t0
  have M1:=ER mk xd t u c E y s s0 s1 sE 1 hA1 (by omega) (by omega) (by omega) (by omega) (by omega)
  obtain ⟨m1,hm1⟩:∃ m,mvP c.F E s (b:Int)=m:=⟨_,rfl⟩
  have t1:=Ev (F:=c.F) s0 s1 sE (b:Int)
  rw [hm1] at M1 t1
  have C:=FI m0.1 m0.2 m1.1 m1.2 t0.ok t1.ok t0.lz t1.lz
  rw [show AP ps c.F c.R E y s=GG m0 m1 by unfold AP;rw [if_neg (by omega),if_neg (by omega),if_neg (by omega),if_neg (by omega),if_pos (by omega),ha0,ha1,hm0,hm1]]
  repeat' (with_reducible first|refine Gp ?_|refine Ia ?_|refine GU ?_|refine Ib ?_|refine Li ?_|(refine Tx 14 ?_;refine gO xEq <| gO xA ?_)|(refine Tx 15 ?_;refine gO xEq <| gO xA ?_)|(refine Tx 17 ?_;refine gO xEq <| gO xA ?_)|(refine Tx 18 ?_;refine gO xEq <| gO xA ?_)|(refine Tx 19 ?_;refine gO xM <| gO (xCc func145 M0 (args:=[_]) rfl) <| gO xM <| gO (xCc func145 M1 (args:=[_]) rfl) <| gO (xCl func91 (C)) <| gZ (xSk Aa) ?_))
  exact DR
 ·
  obtain ⟨a,hA0,ha0,hl0⟩:=B.a0 (by omega)
  have hl0:=hl0 (by omega)
  have hL0:=(gS.1 hA0).1
  have M0:=ER mk xd t u c E y s s0 s1 sE 0 hA0 (by omega) (by omega) (by omega) (by omega) (by omega)
  obtain ⟨m0,hm0⟩:∃ m,mvP c.F E s (a:Int)=m:=⟨_,rfl⟩
  have t0:=Ev (F:=c.F) s0 s1 sE (a:Int)
  rw [hm0] at M0 t0
  rw [show AP ps c.F c.R E y s=m0 by unfold AP;rw [if_neg (by omega),if_neg (by omega),if_neg (by omega),if_pos (by omega),ha0,hm0]]
  repeat' (with_reducible first|refine Gp ?_|refine Ia ?_|refine GU ?_|refine Ib ?_|refine Li ?_|(refine Tx 14 ?_;refine gO xEq <| gO xA ?_)|(refine Tx 15 ?_;refine gO xEq <| gO xA ?_)|(refine Tx 16 ?_;refine gO xM <| gO (xCc func145 M0 (args:=[_]) rfl) <| gZ (xSk Aa) ?_))
  exact DR
 ·
  obtain ⟨a,hA0,ha0,hl0⟩:=B.a0 (by omega)
  have hl0:=hl0 (by omega)
  have hL0:=(gS.1 hA0).1
  have M0:=ER mk xd t u c E y s s0 s1 sE 0 hA0 (by omega) (by omega) (by omega) (by omega) (by omega)
  obtain ⟨m0,hm0⟩:∃ m,mvP c.F E s (a:Int)=m:=⟨_,rfl⟩
  have t0:=Ev (F:=c.F) s0 s1 sE (a:Int)
  rw [hm0] at M0 t0
  have WH:=IE y.vn y.ve s (B.sv (by omega)) s0 s1
  have WU:=IE y.un y.ue s (B.su h) s0 s1
  have ib:=Mx (b:=(!Bn y.vn y.ve s || !Bn y.un y.ue s)) s0 s1
  have IX:=Np (!Bn y.vn y.ve s || !Bn y.un y.ue s) s
  have C:=FI m0.1 m0.2 (ixP (!Bn y.vn y.ve s || !Bn y.un y.ue s) s).1 (ixP (!Bn y.vn y.ve s || !Bn y.un y.ue s) s).2 t0.ok ib.ok t0.lz ib.lz
  rw [show AP ps c.F c.R E y s=GG m0 (ixP (!Bn y.vn y.ve s || !Bn y.un y.ue s) s) by unfold AP;rw [if_neg (by omega),if_neg (by omega),if_neg (by omega),if_neg (by omega),if_neg (by omega),if_neg (by omega),if_neg (by omega),if_pos h,ha0,hm0]]
  cases hw:Bn y.vn y.ve s
  case false =>
   rw [hw] at WH IX C
   simp only [dg,df,fd,cj] at IX C
   simp only [dg,df,fd,cj]
   repeat' (with_reducible first|refine Gp ?_|refine Ia ?_|refine GU ?_|refine Ib ?_|refine Li ?_|(refine Tx 14 ?_;refine gO xEq <| gO xA ?_)|(refine Tx 15 ?_;refine gO xEq <| gO xA ?_)|(refine Tx 17 ?_;refine gO xEq <| gO xA ?_)|(refine Tx 18 ?_;refine gO xEq <| gO xA ?_)|(refine Tx 20 ?_;refine gO xEq <| gO xA ?_)|(refine Tx 22 ?_;refine gO xEq <| gO xA ?_)|(refine Tx 26 ?_;refine gO xEq <| gO xA ?_)|refine AiF ?_)
   exact DR
  case true =>
   rw [hw] at WH IX C
   simp only [dg,df,fd,cj] at IX C
   simp only [dg,df,fd,cj]
   repeat' (with_reducible first|refine Gp ?_|refine Ia ?_|refine GU ?_|refine Ib ?_|refine Li ?_|(refine Tx 14 ?_;refine gO xEq <| gO xA ?_)|(refine Tx 15 ?_;refine gO xEq <| gO xA ?_)|(refine Tx 17 ?_;refine gO xEq <| gO xA ?_)|(refine Tx 18 ?_;refine gO xEq <| gO xA ?_)|(refine Tx 20 ?_;refine gO xEq <| gO xA ?_)|(refine Tx 22 ?_;refine gO xEq <| gO xA ?_)|(refine Tx 26 ?_;refine gO xEq <| gO xA ?_)|refine AiF ?_)
   exact DR
theorem vfit {M E:Pq} {f:Int}:GS (DP M E) f=decide (Bm (Af (CR M.1 M.2 E.1 E.2).1 (CR M.1 M.2 E.1 E.2).2 f).1 (Af (CR M.1 M.2 E.1 E.2).1 (CR M.1 M.2 E.1 E.2).2 f).2 2147483647 0≤0):=rfl
theorem AdS (x:Pq) (sx:Sm x 40064 40000):CV prog Ah 89 [aDy false x.1 x.2] [aDy false (upQ x).1 (upQ x).2]:=by
 refine cvz func89 ntmps89 ?_
 have CE:=Uw x.1 x.2 62 sx.ok sx.lz (by decide)
 repeat' (with_reducible first|refine qq ?_|(refine Tx 0 ?_;refine gN xBo <| gN (xAl Aj) ?_)|(refine Tx 1 ?_;refine gO xL <| gO (xCl func169 (CE)) <| gO xMt <| gO (by exact CQ rfl rfl rfl) <| gO xEx <| gN (xAl Aj) <| gZ (xSk Aa) <| gO xA ?_)|(refine Tx 2 ?_;refine gO xL <| gZ (xSk Aa) ?_))
 exact DR
theorem YA (x:Pq) (sx:Sm x 41000 40000):CV prog Ah 90 [aDy false x.1 x.2] [aB (Rk x)]:=by
 refine cvz func90 ntmps90 ?_
 have OF:=FS 1099511627776 (by decide) (by decide)
 have CM:=Ck x.1 x.2 1099511627776 0 sx.ok ⟨by decide,fun h=>absurd rfl h⟩ sx.lz (lT (Aw (k:=2) (by decide)) (by decide))
 rw [show Rk x=decide (0<Bm x.1 x.2 1099511627776 0) from rfl]
 generalize Bm x.1 x.2 1099511627776 0=q at *
 repeat' (with_reducible first|refine qq ?_|(refine Tx 0 ?_;refine gN xBo <| gO xA ?_)|(refine Bl (id:=1) AC (by kernel_rfl) ?_;refine gP xL <| gP (xCl func123 (OF)) <| gP (xCl func9 (CM)) <| gP (by first|exact Aht rfl rfl rfl|exact xGt) <| gP xA ?_;refine Ke ?_))
 exact Df
theorem AdT (k:p') (h:Hd9 p'→p:=by with_reducible first|(intro Z9;refine qq ?_;exact Z9.o)|(intro Z9;refine Tx 0 ?_;refine gN xBo <| gN xBo <| gO xA ?_;exact Z9.o)|(intro Z9;refine Tx 1 ?_;refine gO (xCl func123 (OF)) <| gN (xAl Aj) <| gZ (xSk Aa) ?_;exact Z9.o)|fail):p:=h ⟨k⟩
theorem AiG (k:p') (h:Hd9 p'→p:=by with_reducible first|(intro Z9;refine Tx 2 ?_;refine gO xF <| gO xD <| gO xM <| gO (by first|exact xIr Ae (Ay hFi)|exact xIr Ae (hIi)|exact xIr Ae (hEi)) <| gO xD <| gO xA ?_;exact Z9.o)|(intro Z9;refine Bl (id:=3) AC (by kernel_rfl) ?_;refine gP xF <| gP xD <| gP xM <| gP (by first|exact xIr Ad (hIi)|exact xIr Ad (hEi)) <| gP xL <| gP (xCl func151 (MG)) <| gP xM <| gP xM <| gP (by first|exact xIr Ag (hIi)|exact xIr Ag (hEi)) <| gP xL <| gP (xCl func146 (AD1)) <| gP xM <| gP (xCl func27 (SH1)) <| gP xL <| gP (xCl func9 (CM1)) <| gP xGt ?_;refine Ke ?_;exact Z9.o)|fail):p:=h ⟨k⟩
theorem Aqh (h:p:=by first|exact xIr Ad (hIi)|exact xIr Ad (hEi)|exact xIr Ad (hIa)|exact xIr Ad (hEa)):p:=h
theorem Aqi (h:p:=by first|exact xIr Ag (hIi)|exact xIr Ag (hEi)|exact xIr Ag (hIa)|exact xIr Ag (hEa)):p:=h
theorem Aqj (h:p:=by first|exact xCl func146 (AD1)|exact xCl func146 (AD2)):p:=h
theorem Aqk (h:p:=by first|exact xCl func27 (SH1)|exact xCl func27 (SH2)):p:=h
theorem Aql (h:p:=by first|exact xCl func9 (CM1)|exact xCl func9 (CM2)):p:=h
theorem AdU (t u:Bool) {ps:List Prt} {bs:List Bk} (os:List Int) (c:Ct) (E:List Pq) (hE:E.length=bs.length) (sE:∀ p∈E,Sm p LB LB) (i:Nat) {y:Bk} (hy:bs[i]?=some y) (B:AeV ps bs.length y) (hF:c.F.length=bs.length) (hR:c.R.length=bs.length) (sR:∀ p∈c.R,IwS p LB LB) (hn:bs.length≤1000000) (hs2:0≤scA c.F i∧scA c.F i≤30):CV prog Ah 63 [aDg t ps bs os,.agg (dCt u c),.one (rowE E),aI (i:Int)] [aB (AeU c.F c.R E y i)]:=by
 refine cvz func63 ntmps63 ?_
 have hil:=(gS.1 hy).1
 have hFi:=My (F:=c.F) (k:=i) (by omega)
 obtain ⟨s,hs⟩:∃ s,scA c.F i=s:=⟨_,rfl⟩
 rw [hs] at hFi
 have hBl:=B.len
 rw [hs] at hs2
 have hil2:i<c.R.length:=by omega
 have hIi:=Yz hil2
 have hEi:=Yy (E:=E) (k:=i) (by omega)
 have si:=BE sR i
 have se:=DA sE i
 obtain ⟨P,hP⟩:∃ P,c.R[i]?.getD iZ=P:=⟨_,rfl⟩
 obtain ⟨e,he⟩:∃ e,E[i]?.getD (0,0)=e:=⟨_,rfl⟩
 rw [hP] at si hIi
 rw [he] at se hEi
 have MG:=Mu P (si.more LBx LBx)
 have sg:=Lc si
 obtain ⟨M,hM⟩:∃ M,Fu P=M:=⟨_,rfl⟩
 rw [hM] at MG sg
 have OF:=FS 2147483647 (by decide) (by decide)
 have AD1:=Eg M.1 M.2 e.1 e.2 sg.ok se.ok sg.lz se.lz
 have ss1:=Sm.sum sg se (by decide)
 obtain ⟨S1,hS1⟩:∃ S,CR M.1 M.2 e.1 e.2=S:=⟨_,rfl⟩
 rw [hS1] at AD1 ss1
 have SH1:=BW S1.1 S1.2 s ss1.ok ss1.lz (by have:=ss1.ok.1;omega)
 have st1:=Fq ss1 hs2.1 hs2.2
 obtain ⟨T1,hT1⟩:∃ T,Af S1.1 S1.2 s=T:=⟨_,rfl⟩
 rw [show GN S1 s=T1 from hT1] at st1
 rw [hT1] at SH1
 have CM1:=Ck T1.1 T1.2 2147483647 0 st1.ok ⟨by decide,fun h=>absurd rfl h⟩ st1.lz (lT (Aw (k:=2) (by decide)) (by decide))
 have sb1:GS (DP M e) s=decide (Bm T1.1 T1.2 2147483647 0≤0):=by rw [vfit,hS1,hT1]
 generalize Bm T1.1 T1.2 2147483647 0=q1 at *
 have hb:AeU c.F c.R E y i=(decide (q1≤0) && (!decide (y.kind=11) || GS (DP (rG c.R (De y)).2 (eG E (De y))) s)):=by unfold AeU;rw [hs,hP,he,hM,sb1]
 rw [hb]
 by_cases c1:q1≤0
 case neg =>
  rw [decide_eq_false c1,eg]
  repeat' (with_reducible first|refine AdT ?_|refine AiG ?_|(refine Tx 4 ?_;refine gO xA ?_))
  exact Df
 rw [decide_eq_true c1,dq]
 by_cases k11:y.kind=11
 case neg =>
  rw [decide_eq_false k11,dg,fd]
  repeat' (with_reducible first|refine AdT ?_|refine AiG ?_|(refine Tx 5 ?_;refine gO xF <| gO xD <| gO xM <| gO (by first|exact xIr Ak (Dq hy)|exact xIr Ak (hIi)|exact xIr Ak (hEi)) <| gO xL <| gN (xAl Bu) <| gZ (xSk Bh) ?_)|(refine Tx 6 ?_;refine gO xF <| gO xD <| gO xNe ?_)|(refine Tx 7 ?_;refine gO xA ?_))
  exact Df
 rw [decide_eq_true k11,df,cj]
 obtain ⟨a,hA0,ha0,hl0⟩:=B.a0 (by omega)
 have hl0:=hl0 (by omega)
 have hL0:=(gS.1 hA0).1
 rw [ha0,Nx,HJ]
 have hIa:=Yz (R:=c.R) (k:=a) (by omega)
 have hEa:=Yy (E:=E) (k:=a) (by omega)
 have sj:=BE sR a
 have sf:=DA sE a
 obtain ⟨Q,hQ⟩:∃ Q,c.R[a]?.getD iZ=Q:=⟨_,rfl⟩
 obtain ⟨f,hf⟩:∃ f,E[a]?.getD (0,0)=f:=⟨_,rfl⟩
 rw [hQ] at sj hIa
 rw [hf] at sf hEa
 rw [hQ,hf]
 have sq:=sj.s2
 have AD2:=Eg Q.2.1 Q.2.2 f.1 f.2 sq.ok sf.ok sq.lz sf.lz
 have ss2:=Sm.sum sq sf (by decide)
 obtain ⟨S2,hS2⟩:∃ S,CR Q.2.1 Q.2.2 f.1 f.2=S:=⟨_,rfl⟩
 rw [hS2] at AD2 ss2
 have SH2:=BW S2.1 S2.2 s ss2.ok ss2.lz (by have:=ss2.ok.1;omega)
 have st2:=Fq ss2 hs2.1 hs2.2
 obtain ⟨T2,hT2⟩:∃ T,Af S2.1 S2.2 s=T:=⟨_,rfl⟩
 rw [show GN S2 s=T2 from hT2] at st2
 rw [hT2] at SH2
 have CM2:=Ck T2.1 T2.2 2147483647 0 st2.ok ⟨by decide,fun h=>absurd rfl h⟩ st2.lz (lT (Aw (k:=2) (by decide)) (by decide))
 have sb2:GS (DP Q.2 f) s=decide (Bm T2.1 T2.2 2147483647 0≤0):=by rw [vfit,hS2,hT2]
 generalize Bm T2.1 T2.2 2147483647 0=q2 at *
 rw [sb2]
 repeat' (with_reducible first|refine AdT ?_|(refine Tx 2 ?_;refine gO xF <| gO xD <| gO xM <| gO (by first|exact xIr Ae (Ay hFi)|exact xIr Ae (hIi)|exact xIr Ae (hEi)|exact xIr Ae (hIa)|exact xIr Ae (hEa)) <| gO xD <| gO xA ?_)|(refine Bl (id:=3) AC (by kernel_rfl) ?_;refine gP xF <| gP xD <| gP xM <| gP Aqh <| gP xL <| gP (xCl func151 (MG)) <| gP xM <| gP xM <| gP Aqi <| gP xL <| gP Aqj <| gP xM <| gP Aqk <| gP xL <| gP Aql <| gP xGt ?_;refine Ke ?_)|(refine Tx 5 ?_;refine gO xF <| gO xD <| gO xM <| gO (by first|exact xIr Ak (Dq hy)|exact xIr Ak (hIi)|exact xIr Ak (hEi)|exact xIr Ak (hIa)|exact xIr Ak (hEa)) <| gO xL <| gN (xAl Bu) <| gZ (xSk Bh) ?_)|(refine Tx 6 ?_;refine gO xF <| gO xD <| gO xNe ?_)|(refine Tx 8 ?_;refine gO xF <| gO xD <| gO (by first|exact xIr Ae (hIi)|exact xIr Ae (hEi)|exact xIr Ae (Ay hA0)|exact xIr Ae (hIa)|exact xIr Ae (hEa)) <| gO xD <| gO xA ?_)|(refine Bl (id:=9) AC (by kernel_rfl) ?_;refine gP xF <| gP xD <| gP xM <| gP Aqh <| gP xF <| gP xL <| gP xM <| gP xM <| gP Aqi <| gP xL <| gP Aqj <| gP xM <| gP Aqk <| gP xL <| gP Aql <| gP xLe <| gP xA ?_;refine Ke ?_))
 exact Df
theorem UW (k:p') (h:Hd9 p'→p:=by with_reducible first|(intro Z9;refine qq ?_;exact Z9.o)|(intro Z9;refine Tx 0 ?_;refine gN xBo <| gN xBo <| gO xA ?_;exact Z9.o)|(intro Z9;refine Tx 1 ?_;refine gO xL <| gO xL <| gO xM <| gO (xCl func60 (S1)) <| gO Gm <| gO xA ?_;exact Z9.o)|fail):p:=h ⟨k⟩
theorem YB (k:p') (h:Hd9 p'→p:=by with_reducible first|(intro Z9;refine Tx 3 ?_;refine gO xL <| gO xL <| gO xM <| gO (xCl func61 (S2)) <| gO Gm <| gO xA ?_;exact Z9.o)|fail):p:=h ⟨k⟩
theorem AdV (k:p') (h:Hd9 p'→p:=by with_reducible first|(intro Z9;refine Bl (id:=5) AC (by kernel_rfl) ?_;refine gP xF <| gP xD <| gP xM <| gP (xIr Ag (hEi)) <| gP xL <| gP xL <| gP xL <| gP xF <| gP xD <| gP xM <| gP (xCl func62 (BD)) <| gP (xCl func9 (CM)) <| gP xLt <| gP xA ?_;refine Ke ?_;exact Z9.o)|fail):p:=h ⟨k⟩
theorem UX (h:p:=by
 exact Au rfl (.cons_ (Lw rfl rfl) .nil_)):p:=h
theorem Aae (t u:Bool) {ps:List Prt} {bs:List Bk} (os:List Int) (c:Ct) (i:Nat) {y:Bk} (hy:bs[i]?=some y) (B:AeV ps bs.length y) (ok:AqR bs c) (hn:bs.length≤1000000) (hpn:ps.length≤1000000):CV prog Ah 21 [aDg t ps bs os,.agg (dCt u c),aI (i:Int)] [aI (IL ps bs c i)]:=by
 refine cvz func21 ntmps21 ?_
 have hA:=LF hy
 have hil:=(gS.1 hy).1
 have S1:=Wz t u os c i hy B ok.lF hn hpn
 have S2:=WA t u os c i hy B ok.lR ok.sR hn hpn
 unfold IL
 rw [hA]
 dsimp only
 cases h1:Cl ps c.F y i
 case false =>
  rw [h1] at S1
  rw [if_pos rfl]
  repeat' (with_reducible first|refine UW ?_|(refine Tx 2 ?_;refine gO xA ?_))
  exact UX
 rw [h1] at S1
 rw [if_neg (by decide)]
 have h1s:=h1
 unfold Cl at h1s
 rw [ai,ai] at h1s
 have hs2:0≤scA c.F i∧scA c.F i≤30:=of_decide_eq_true h1s.1
 have hsa:y.kind≠0→∀ a∈y.args,0≤sG c.F a∧sG c.F a≤30:=fun k0 a ha=>by
   have h2:=h1s.2.1
   rw [decide_eq_false k0,cj] at h2
   exact of_decide_eq_true (List.all_eq_true.1 h2 a ha)
 cases h2:Da ps c.R y i
 case false =>
  rw [h2] at S2
  rw [if_pos rfl]
  repeat' (with_reducible first|refine UW ?_|refine YB ?_|(refine Tx 4 ?_;refine gO xA ?_))
  exact UX
 rw [h2] at S2
 rw [if_neg (by decide)]
 have BD:=Nq false (rowE c.E) t u os c c.E ok.lE ok.sE i hy B ok.lF ok.lR ok.sR hn hpn hs2 hsa
 have sb:=ST (ps:=ps) (F:=c.F) (y:=y) hs2.1 hs2.2 ok.sR ok.sE (fun h6=>B.sv (by omega))
 have se:=DA ok.sE i
 have hEi:=Yy (E:=c.E) (k:=i) (by have:=ok.lE;omega)
 have hlE:=ok.lE
 obtain ⟨e,he⟩:∃ e,c.E[i]?.getD (0,0)=e:=⟨_,rfl⟩
 rw [he] at se hEi
 rw [he]
 generalize AP ps c.F c.R c.E y (scA c.F i)=b at *
 have CM:=Ck e.1 e.2 b.1 b.2 se.ok sb.ok se.lz sb.lz
 rw [show Gf e b=Bm e.1 e.2 b.1 b.2 from rfl]
 generalize Bm e.1 e.2 b.1 b.2=q at *
 have FT:=AdU t u os c c.E ok.lE ok.sE i hy B ok.lF ok.lR ok.sR hn hs2
 by_cases h3:q<0
 case pos =>
  rw [if_pos h3]
  repeat' (with_reducible first|refine UW ?_|refine YB ?_|refine AdV ?_|(refine Tx 6 ?_;refine gO xA ?_))
  exact UX
 rw [if_neg h3]
 cases h4:AeU c.F c.R c.E y i
 case false =>
  rw [h4] at FT
  rw [if_pos rfl]
  repeat' (with_reducible first|refine UW ?_|refine YB ?_|refine AdV ?_|(refine Tx 7 ?_;refine gO xL <| gO xL <| gO xF <| gO xD <| gO xM <| gO (xCl func63 (FT)) <| gO Gm <| gO xA ?_)|(refine Tx 8 ?_;refine gO xA ?_))
  exact UX
 rw [h4] at FT
 rw [if_neg (by decide)]
 repeat' (with_reducible first|refine UW ?_|refine YB ?_|refine AdV ?_|(refine Tx 7 ?_;refine gO xL <| gO xL <| gO xF <| gO xD <| gO xM <| gO (xCl func63 (FT)) <| gO Gm <| gO xA ?_)|(refine Tx 9 ?_;refine gO xA ?_))
 exact UX
section
variable {a b c e:Iq} {n d:Nat}
theorem UY {x y:Int} (h:x*2 ^ GQ≤y*2 ^ GQ):x≤y:=Int.le_of_mul_le_mul_right h (Bf GQ)
end
theorem Aqm {x:Pq} (hx:x.2≤GQ) (h:0≤gv x):0≤gv (upQ x):=Int.le_trans h (ApV hx).1
theorem Aqn {b:Bool} {s:Int}:0≤gv (ixP b s):=by
 unfold ixP
 split
 ·rename_i h
  by_cases hs : -65536 ≤ -s ∧ -s≤65536
  ·rw [EL hs.1 hs.2];exact bg (Bf _)
  ·unfold pw Af
   unfold gv
   refine ia ?_ (bg (Bf _))
   have key:∀ (d:Nat) (m:Int),0≤m→0≤(nf m d).1:=fun d=>by
    induction d with
    | zero=>exact fun m h=>h
    | succ d ih =>
     intro m h
     unfold nf
     split
     ·exact ih _ (by omega)
     ·exact h
   split
   ·exact key _ _ (by decide)
   ·exact key _ _ (by have:=Bf (max (-65536) (min (-s) 65536)).toNat;omega)
 ·exact Int.le_of_eq GE.symm
section
variable {ps:List Prt} {bs:List Bk} {os:List Int} {F:List Int} {R:List Iq} {E E':List Pq} {y:Bk} {s:Int}
structure InE (E' E:List Pq):Prop where
 lo:∀ k:Nat,0≤gv (E'[k]?.getD (0,0))
 le:∀ k:Nat,gv (E'[k]?.getD (0,0))≤gv (E[k]?.getD (0,0))
theorem Amd (h0:0≤s) (h1:s≤30) (hE:∀ p∈E,Sm p LB LB) (hE':∀ p∈E',Sm p LB LB) (h:InE E' E) (a:Int):0≤gv (mvP F E' s a)∧gv (mvP F E' s a)≤gv (mvP F E s a):=by
 have l:=h.lo a.toNat
 have g:=h.le a.toNat
 unfold mvP
 split
 ·exact ⟨l,g⟩
 ·rw [show gv (DP (eG E' a) (pw (-s)))=_ from Hw (Fy hE' a).le (UU h0 h1).le,show gv (DP (eG E a) (pw (-s)))=_ from Hw (Fy hE a).le (UU h0 h1).le]
  have:=ArT h0 h1
  have:=Bf (65536 - s.toNat)
  unfold eG
  omega
theorem LP {p q p' q':Pq} (h:p.2+q.2≤GQ) (h':p'.2+q'.2≤GQ) (p0:0≤gv p') (q0:0≤gv q') (hp:gv p'≤gv p) (hq:gv q'≤gv q):0≤gv (CG p' q')∧gv (CG p' q')≤gv (CG p q):=by
 have e:=AcO h
 have e':=AcO h'
 have m1:gv p'*gv q'≤gv p*gv q:=Int.mul_le_mul hp hq q0 (Int.le_trans p0 hp)
 have m0:0≤gv p'*gv q':=ia p0 q0
 refine ⟨?_,UY (by rw [show gv (CG p' q')*2 ^ GQ=_ from e',show gv (CG p q)*2 ^ GQ=_ from e];exact m1)⟩
 refine UY ?_
 rw [Int.zero_mul,show gv (CG p' q')*2 ^ GQ=_ from e']
 exact m0
theorem Ame {a:Iq} {d:Nat} (h:IwS a n d):0≤gv (Fu a):=by
 unfold Fu
 rw [(Wn h).2]
 omega
theorem Aaf (h0:0≤s) (h1:s≤30) (hR:∀ p∈R,IwS p LB LB) (hE:∀ p∈E,Sm p LB LB) (hE':∀ p∈E',Sm p LB LB) (hv:y.kind=6→DN y.vn y.ve) (h:InE E' E):0≤gv (AP ps F R E' y s)∧gv (AP ps F R E' y s)≤gv (AP ps F R E y s):=by
 have mv:=fun a=>Amd (F:=F) h0 h1 hE hE' h a
 have sE:=fun a=>Ev (F:=F) h0 h1 hE a
 have sE':=fun a=>Ev (F:=F) h0 h1 hE' a
 have ix:∀ b,(ixP b s).2≤GQ:=fun b=>(Mx h0 h1).le
 have ip:∀ b,0≤gv (ixP b s):=fun b=>Aqn
 unfold AP
 split
 ·exact ⟨ip _,ci _⟩
 split
 ·exact ⟨ip _,ci _⟩
 split
 ·rw [show gv (DP (mvP F E' s (De y)) (mvP F E' s (FV y)))=_ from Hw (sE' _).le (sE' _).le,show gv (DP (mvP F E s (De y)) (mvP F E s (FV y)))=_ from Hw (sE _).le (sE _).le]
  have:=mv (De y);have:=mv (FV y)
  omega
 split
 ·exact mv _
 split
 ·rw [show gv (GG (mvP F E' s (De y)) (mvP F E' s (FV y)))=_ from EJ (sE' _).le (sE' _).le,show gv (GG (mvP F E s (De y)) (mvP F E s (FV y)))=_ from EJ (sE _).le (sE _).le]
  have:=mv (De y);have:=mv (FV y)
  omega
 split
 ·next h6 =>
  have sv:=(EP (hv h6)).abs
  have m:=LP (p:=GF (Af y.vn 0 y.ve)) (p':=GF (Af y.vn 0 y.ve)) (q:=eG E (De y)) (q':=eG E' (De y)) (lT (ei sv.d (Fy hE _).d) (by decide)) (lT (ei sv.d (Fy hE' _).d) (by decide)) (by rw [Pw];omega) (h.lo _) (ci _) (h.le _)
  have q1:(CG (GF (Af y.vn 0 y.ve)) (eG E (De y))).2≤GQ:=(Sm.mul sv (Fy hE _) (by decide)).le
  have q2:(CG (GF (Af y.vn 0 y.ve)) (eG E' (De y))).2≤GQ:=(Sm.mul sv (Fy hE' _) (by decide)).le
  rw [show gv (DP (CG (GF (Af y.vn 0 y.ve)) (eG E' (De y))) _)=_ from Hw q2 (ix _),show gv (DP (CG (GF (Af y.vn 0 y.ve)) (eG E (De y))) _)=_ from Hw q1 (ix _)]
  have:=ip (decide (s - sG F (De y)+y.ve<0))
  omega
 split
 ·have sM:=fun a=>Lc (AlX hR a)
  have pM:=fun a=>Ame (AlX hR a)
  have m1:∀ a b,0≤gv (CG (Fu (rG R a)) (eG E' b))∧gv (CG (Fu (rG R a)) (eG E' b))≤gv (CG (Fu (rG R a)) (eG E b)):=fun a b=>LP (lT (ei (sM a).d (Fy hE b).d) (by decide)) (lT (ei (sM a).d (Fy hE' b).d) (by decide)) (pM a) (h.lo _) (ci _) (h.le _)
  have m2:∀ a b,0≤gv (CG (eG E' a) (eG E' b))∧gv (CG (eG E' a) (eG E' b))≤gv (CG (eG E a) (eG E b)):=fun a b=>LP (lT (ei (Fy hE a).d (Fy hE b).d) (by decide)) (lT (ei (Fy hE' a).d (Fy hE' b).d) (by decide)) (h.lo _) (h.lo _) (h.le _) (h.le _)
  have key:∀ E0:List Pq,(∀ p∈E0,Sm p LB LB)→gv (DP (DP (DP (CG (Fu (rG R (De y))) (eG E0 (FV y))) (CG (Fu (rG R (FV y))) (eG E0 (De y)))) (CG (eG E0 (De y)) (eG E0 (FV y)))) (ixP (decide (s - sG F (De y) - sG F (FV y)<0)) s))=gv (CG (Fu (rG R (De y))) (eG E0 (FV y)))+gv (CG (Fu (rG R (FV y))) (eG E0 (De y)))+gv (CG (eG E0 (De y)) (eG E0 (FV y)))+gv (ixP (decide (s - sG F (De y) - sG F (FV y)<0)) s):=fun E0 h0=>by
   have a1:∀ a b,Sm (CG (Fu (rG R a)) (eG E0 b)) 8192 8192:=fun a b=>Sm.mul (sM a) (Fy h0 b) (by decide)
   have a2:∀ a b,Sm (CG (eG E0 a) (eG E0 b)) 8192 8192:=fun a b=>Sm.mul (Fy h0 a) (Fy h0 b) (by decide)
   have s1:=Sm.sum (a1 (De y) (FV y)) (a1 (FV y) (De y)) (by decide)
   have s2:=Sm.sum s1 ((a2 (De y) (FV y)).more (n':=16385) (d':=8192) (by decide) (by decide)) (by decide)
   rw [show gv (DP (DP (DP (CG (Fu (rG R (De y))) (eG E0 (FV y))) (CG (Fu (rG R (FV y))) (eG E0 (De y)))) (CG (eG E0 (De y)) (eG E0 (FV y)))) _)=_ from Hw s2.le (ix _),show gv (DP (DP (CG (Fu (rG R (De y))) (eG E0 (FV y))) (CG (Fu (rG R (FV y))) (eG E0 (De y)))) (CG (eG E0 (De y)) (eG E0 (FV y))))=_ from Hw s1.le (a2 _ _).le,show gv (DP (CG (Fu (rG R (De y))) (eG E0 (FV y))) (CG (Fu (rG R (FV y))) (eG E0 (De y))))=_ from Hw (a1 _ _).le (a1 _ _).le]
  rw [key E hE,key E' hE']
  have:=m1 (De y) (FV y);have:=m1 (FV y) (De y);have:=m2 (De y) (FV y);have:=ip (decide (s - sG F (De y) - sG F (FV y)<0))
  omega
 have mx:∀ b,gv (GG (mvP F E' s (De y)) (ixP b s))=max (gv (mvP F E' s (De y))) (gv (ixP b s))∧gv (GG (mvP F E s (De y)) (ixP b s))=max (gv (mvP F E s (De y))) (gv (ixP b s)):=fun b=>⟨EJ (sE' _).le (ix _),EJ (sE _).le (ix _)⟩
 split
 ·rw [(mx _).1,(mx _).2]
  have:=mv (De y);have:=ip (!Bn y.vn y.ve s || !Bn y.un y.ue s)
  omega
 ·rw [(mx _).1,(mx _).2]
  have:=mv (De y);have:=ip (!Bn y.vn y.ve s)
  omega
end
structure AgQ (ps:List Prt) (bs:List Bk) (os:List Int) (c:Ct):Prop where
 he:AY ps bs os=0
 ok:AqR bs c
 ver:∀ i,i<bs.length→IL ps bs c i=0
section
variable {ps:List Prt} {bs:List Bk} {os:List Int} {c:Ct}
theorem WB (h:∀ p∈E,Sm p 128 62):∀ p∈E,Sm p LB LB:=fun p hp=>(h p hp).more (by decide) (by decide)
end
theorem LQ:∀ {l:List Int},(∀ x∈l,x=0)→Ar l=0
 | [],_=>rfl
 | x::l,h=>by
  unfold Ar
  rw [if_pos (h x (ig ..))]
  exact LQ fun y hy=>h y (gd _ hy)
section
variable {P:Program} {F:Frm} {H:List Ob}
theorem AqS {t:Tmp} {ty' k:Nat} {x y:Int} (hk:TyK P ty true k) (hi:2=k:=by rfl) (hF:F t=.one (.ref id 0 none):=by with_unfolding_all exact rfl) (hH:H[id]?=some (.box ty' [.d (.val (.int .i64 x)),.d (.val (.int .i64 y))]):=by with_unfolding_all exact rfl):RV P F H (.cell t ty) (.agg [dI x,dI y]):=by
 obtain ⟨⟨dd,hu,hd⟩,hz⟩:=hk
 exact .cellA hF hH hu hd (by rw [hz,←hi];rfl) (.cons_ (.d fun _=>.val _) (.cons_ (.d fun _=>.val _) .nil_))
end
def dCr (u:Bool) (F:List Int) (qs:List (Rv × Rv)) (rs:List Rv):List D:=[AU u F,Vn qs,AoU rs]
def PR (q:Rv × Rv) (r:Rv):Int:=if ivC q=false∨vdB r.rw=false∨sgI (rvP r).1<0 then 2 else if EH (rvP r)=true∨EH (rvP q.1)=true∨EH (rvP q.2)=true then 4 else 0
def ckL (qs:List (Rv × Rv)) (rs:List Rv):Int:=Ar (List.zipWith PR qs rs)
def ckE (ps:List Prt) (bs:List Bk) (os:List Int) (F:List Int) (qs:List (Rv × Rv)) (rs:List Rv):Int :=
 if AY ps bs os≠0 then AY ps bs os else if F.length=bs.length∧qs.length=bs.length∧rs.length=bs.length then ckL qs rs else 11
def AdW (F:List Int) (qs:List (Rv × Rv)) (rs:List Rv):Ct:=⟨F,qs.map ivQ,rs.map rvP⟩
theorem AdX {k:Nat} {q:Rv × Rv} (h1:qs[k]?=some q) (h2:rs[k]?=some r):(List.zipWith PR qs rs)[k]?=some (PR q r):=by rw [List.getElem?_zipWith,h1,h2]
theorem Aqo {k:Nat} {q:Rv × Rv} (h:∀ j x,j<k→(List.zipWith PR qs rs)[j]?=some x→x=0) (h1:qs[k]?=some q) (h2:rs[k]?=some r) (h0:PR q r≠0):ckL qs rs=PR q r:=Wh h (AdX h1 h2) h0
theorem Amf (hr:RvL r) (hv:vdB r.rw=true):dRv false r=dyP (rvP r)∧Nf (rvP r).1 (rvP r).2∧(Ac (rvP r).1.natAbs).length≤40000:=by
 obtain ⟨a,b,c⟩:=Wg (t:=false) hr.1 hv
 exact ⟨a,b,by rw [show (rvP r).1=r.rw.x from rfl,c];exact hr.2⟩
theorem Aqp (hq:∀ q∈qs,RvL q.1∧RvL q.2) (hr:∀ r∈rs,RvL r) (h:ckE ps bs os F qs rs=0):AY ps bs os=0∧AqR bs (AdW F qs rs)∧dCr false F qs rs=dCt false (AdW F qs rs)∧(∀ q∈qs,ivC q=true)∧(∀ r∈rs,vdB r.rw=true):=by
 unfold ckE at h
 by_cases h0:AY ps bs os=0
 case neg=>rw [if_pos h0] at h;exact absurd h h0
 rw [if_neg (not_not_intro h0)] at h
 by_cases hl:F.length=bs.length∧qs.length=bs.length∧rs.length=bs.length
 case neg=>rw [if_neg hl] at h;cases h
 rw [if_pos hl] at h
 obtain ⟨l1,l2,l3⟩:=hl
 have hz:=Ec h
 have key:∀ (k:Nat) (q:Rv × Rv) (r:Rv),qs[k]?=some q→rs[k]?=some r→ivC q=true∧vdB r.rw=true∧0≤sgI (rvP r).1∧EH (rvP r)=false∧EH (rvP q.1)=false∧EH (rvP q.2)=false:=fun k q r h1 h2=>by
  have h3:=hz _ (gM (AdX h1 h2))
  unfold PR at h3
  by_cases c1:ivC q=false∨vdB r.rw=false∨sgI (rvP r).1<0
  ·rw [if_pos c1] at h3;cases h3
  rw [if_neg c1] at h3
  by_cases c2:EH (rvP r)=true∨EH (rvP q.1)=true∨EH (rvP q.2)=true
  ·rw [if_pos c2] at h3;cases h3
  simp only [not_or,gf,ay,Int.not_lt] at c1 c2
  exact ⟨c1.1,c1.2.1,c1.2.2,c2.1,c2.2.1,c2.2.2⟩
 have kq:∀ q∈qs,∃r,r∈rs∧ivC q=true∧EH (rvP q.1)=false∧EH (rvP q.2)=false:=fun q hm=>by
  obtain ⟨k,hk⟩:=gb hm
  obtain ⟨r,hr⟩:∃ r,rs[k]?=some r:=⟨_,gE (by have:=(gS.1 hk).1;omega)⟩
  have:=key k q r hk hr
  exact ⟨r,gM hr,this.1,this.2.2.2.2.1,this.2.2.2.2.2⟩
 have kr:∀ r∈rs,vdB r.rw=true∧0≤sgI (rvP r).1∧EH (rvP r)=false:=fun r hm=>by
  obtain ⟨k,hk⟩:=gb hm
  obtain ⟨q,hq⟩:∃ q,qs[k]?=some q:=⟨_,gE (by have:=(gS.1 hk).1;omega)⟩
  have:=key k q r hq hk
  exact ⟨this.2.1,this.2.2.1,this.2.2.2.1⟩
 refine ⟨h0,⟨l1,by show (qs.map ivQ).length=_;rw [af];exact l2,by show (rs.map rvP).length=_;rw [af];exact l3,fun p hp=>?_,fun p hp=>?_,fun p hp=>?_⟩,?_,fun q hm=>(kq q hm).choose_spec.2.1,fun r hm=>(kr r hm).1⟩
 ·obtain ⟨q,hm,rfl⟩:=List.mem_map.1 hp
  obtain ⟨_,_,v,g1,g2⟩:=kq q hm
  exact PF (PJ (hq q hm).1 (hq q hm).2 v).1 (by unfold Eu;rw [show EH (ivQ q).1=false from g1,show EH (ivQ q).2=false from g2];rfl)
 ·obtain ⟨r,hm,rfl⟩:=List.mem_map.1 hp
  obtain ⟨v,_,g⟩:=kr r hm
  exact AlG (Amf (hr r hm) v).2.1 g
 ·obtain ⟨r,hm,rfl⟩:=List.mem_map.1 hp
  obtain ⟨_,g,_⟩:=kr r hm
  have hx:0≤(rvP r).1:=bu fun hn=>by rw [show sgI (rvP r).1 = -1 by unfold sgI;(repeat' split) <;> omega] at g;omega
  exact ia hx (bg (Bf _))
 ·unfold dCr dCt AdW Vn AoU
  have e1:An (dIr false) qs=An (dIw false) (qs.map ivQ):=by
   unfold An
   rw [dp]
   congr 1
   exact fc fun q hm=>by
    obtain ⟨_,_,v,_⟩:=kq q hm
    exact (PJ (hq q hm).1 (hq q hm).2 v).2.1
  have e2:An (dRv false) rs=An dyP (rs.map rvP):=by
   unfold An
   rw [dp]
   congr 1
   exact fc fun r hm=>(Amf (hr r hm) (kr r hm).1).1
  rw [e1,e2]
  simp only [af]
def vfK (ps:List Prt) (bs:List Bk) (c:Ct):Option Nat:=(List.range bs.length).find? fun i=>decide (IL ps bs c i≠0)
def vfF (ps:List Prt) (bs:List Bk) (c:Ct):Int × Int:=match vfK ps bs c with
 | none=>(0,0)
 | some i=>(IL ps bs c i,(i:Int))
theorem WC {c:Ct}:vfK ps bs c=none ↔ ∀ i,i<bs.length→IL ps bs c i=0:=by
 unfold vfK
 rw [List.find?_eq_none]
 simp
theorem AdY {c:Ct} {k:Nat} (hk:k<bs.length) (h:∀ i,i<k→IL ps bs c i=0) (h0:IL ps bs c k≠0):vfK ps bs c=some k:=by
 unfold vfK
 rw [List.find?_range_eq_some]
 exact ⟨by simpa using h0,List.mem_range.2 hk,fun j hj=>by simp [h j hj]⟩
def vfE (ps:List Prt) (bs:List Bk) (os F:List Int) (qs:List (Rv × Rv)) (rs:List Rv):Bool:=decide (ckE ps bs os F qs rs=0) && (vfK ps bs (AdW F qs rs)).isNone
def vfP (ps:List Prt) (bs:List Bk) (os F:List Int) (qs:List (Rv × Rv)) (rs:List Rv):Int × Int:=if ckE ps bs os F qs rs=0 then vfF ps bs (AdW F qs rs) else (0,0)
theorem Amg (hq:∀ q∈qs,RvL q.1∧RvL q.2) (hr:∀ r∈rs,RvL r) (h:vfE ps bs os F qs rs=true):AgQ ps bs os (AdW F qs rs):=by
 unfold vfE at h
 rw [ai,decide_eq_true_eq,Option.isNone_iff_eq_none] at h
 obtain ⟨a,b,_⟩:=Aqp hq hr h.1
 exact ⟨a,b,WC.1 h.2⟩
theorem PZ (x:Pq) (n1:Nf x.1 x.2) (l1:(Ac x.1.natAbs).length≤40000):CV prog Ah 59 [aDy false x.1 x.2] [aB (EH x)]:=by
 refine cvz func59 ntmps59 ?_
 have B1:=Oq x.1 x.2 n1 l1
 have hm:decide ((4096:Int)<max ((Bj x.1.natAbs:Nat):Int) (x.2:Int))=EH x:=by unfold EH Um;rw [ji,decide_eq_true_eq,decide_eq_true_eq];omega
 repeat' (with_reducible first|refine qq ?_|(refine Tx 0 ?_;refine gN xBo <| gO xA ?_)|(refine Bl (id:=1) AC (by kernel_rfl) ?_;refine gP xL <| gP (xCl func126 (B1)) <| gP xF <| gP xD <| gP (by exact Lr rfl rfl rfl) <| gP (by first|exact Hk rfl rfl rfl hm|exact xGt) <| gP xA ?_;refine Ke ?_))
 exact Df
theorem UZ (k:p') (h:Hd9 p'→p:=by with_reducible first|(intro Z9;refine Tx 0 ?_;refine gN xBo <| gN xBo <| gO xA ?_;exact Z9.o)|(intro Z9;refine Tx 1 ?_;refine gO xL <| gO (xCl func22 (CK)) <| gO xA ?_;exact Z9.o)|fail):p:=h ⟨k⟩
theorem YD (k:p') (h:Hd9 p'→p:=by with_reducible first|(intro Z9;refine Tx 2 ?_;refine gO xM <| gO (xNE Am) ?_;exact Z9.o)|(intro Z9;refine Tx 4 ?_;refine gO xF <| gO xD <| gO xN <| gO xA ?_;exact Z9.o)|(intro Z9;refine Tx 5 ?_;refine gO xF <| gO xD <| gO xN <| gO xM <| gO xNe <| gO xM ?_;(first|iterate 5 refine Jd ?_|(refine Jy (xFa Io Bg) ?_;refine Jy (xLd Bg) ?_;refine Jy (xLn Ad) ?_;refine Jy xM1 ?_;refine Jy xNe ?_));refine gO xPk <| gO xM ?_;(first|iterate 5 refine Jd ?_|(refine Jy (xFa DI AG) ?_;refine Jy (xLd AG) ?_;refine Jy (xLn Ag) ?_;refine Jy xM1 ?_;refine Jy xNe ?_));refine gO xPk ?_;exact Z9.o)|fail):p:=h ⟨k⟩
theorem Aqq (h:p:=by first|exact xIr Ag (PI hq)|exact xIr Ag (Agm hr)):p:=h
theorem AiH (k:p') (h:Hd9 p'→p:=by with_reducible first|(intro Z9;refine Tx 9 ?_;refine gO xM <| gO (by first|exact xIr Ad (PI hq)|exact xIr Ad (Agm hr)) <| gO xL <| gN (xAl Ai) <| gO xA <| gZ (xSk Ab) ?_;exact Z9.o)|(intro Z9;refine Tx 10 ?_;refine gO xL <| gO (xCl func57 (VI)) <| gO Gm <| gO xM ?_;(first|iterate 7 refine Jd ?_|(refine Jy (xFa DI AG) ?_;refine Jy (xLd AG) ?_;refine Jy xM1 ?_;refine Jy Aqq ?_;refine Jy (xLa Aa) ?_;refine Jy (xCl func58 (VD)) ?_;refine Jy Gm ?_));refine gO xPk <| gO xM ?_;(first|iterate 5 refine Jd ?_|(refine Jy (xFa DI AG) ?_;refine Jy (xLd AG) ?_;refine Jy xM1 ?_;refine Jy Aqq ?_;refine Jy (xLa Aa) ?_));refine Jd ?_;(first|refine Jd ?_|refine Jy xLt ?_);refine gO xPk ?_;exact Z9.o)|fail):p:=h ⟨k⟩
theorem Amh (h:p:=by first|exact xCl func59 (LR)|exact xCl func59 (L1)|exact xCl func59 (L2)):p:=h
theorem Ami (h:p:=by first|exact xIr Ag (hia)|exact xIr Ag (hra)):p:=h
theorem YE (k:p') (h:Hd9 p'→p:=by with_reducible first|(intro Z9;refine Tx 9 ?_;refine gO xM <| gO (by first|exact xIr Ad (hia)|exact xIr Ad (hra)) <| gO xL <| gN (xAl Ai) <| gO xA <| gZ (xSk Ab) ?_;exact Z9.o)|(intro Z9;refine Tx 10 ?_;refine gO xL <| gO (xCl func57 (VI2)) <| gO Gm <| gO xM ?_;(first|iterate 7 refine Jd ?_|(refine Jy (xFa DI AG) ?_;refine Jy (xLd AG) ?_;refine Jy xM1 ?_;refine Jy Ami ?_;refine Jy (xLa Aa) ?_;refine Jy (xCl func58 (VD2)) ?_;refine Jy Gm ?_));refine gO xPk <| gO xM ?_;(first|iterate 7 refine Jd ?_|(refine Jy (xFa DI AG) ?_;refine Jy (xLd AG) ?_;refine Jy xM1 ?_;refine Jy Ami ?_;refine Jy (xLa Aa) ?_;refine Jy (xCl func28 (SG)) ?_;refine Jy xLt ?_));refine gO xPk ?_;exact Z9.o)|(intro Z9;refine Tx 12 ?_;refine gO xF <| gO xD <| gO xM <| gO Ami <| gO xL <| gO Amh <| gO xM ?_;(first|iterate 3 refine Jd ?_|(refine Jy (xFa CO Aa) ?_;refine Jy (xLa Aa) ?_;refine Jy Amh ?_));refine gO xPk <| gO xM ?_;(first|iterate 3 refine Jd ?_|(refine Jy (xFa AI Aa) ?_;refine Jy (xLa Aa) ?_;refine Jy Amh ?_));refine gO xPk ?_;exact Z9.o)|fail):p:=h ⟨k⟩
theorem Mz (h:p:=by
 exact Au rfl (.cons_ (ZB rfl (by decide) rfl) .nil_)):p:=h
theorem Aqr (h:p:=by first|exact BN rfl Am rfl (Hl h0)|exact BN rfl Am rfl (OX (by first|rfl|omega))|exact BN rfl Am rfl (Hl (by first|assumption|omega))|exact BN rfl Am rfl rfl):p:=h
theorem Aqs (h:p:=by first|exact xIr Ag (PI hq)|exact xIr Ag (hra)):p:=h
theorem Aag (t u:Bool) {ps:List Prt} {bs:List Bk} {os:List Int} (hl:Dx ps bs os) (F:List Int) (qs:List (Rv × Rv)) (rs:List Rv) (hwq:∀ q∈qs,RvL q.1∧RvL q.2) (hwr:∀ r∈rs,RvL r) (hFl:F.length≤1000000) (hQl:qs.length≤1000000) (hRl:rs.length≤1000000):CV prog Ah 20 [aDg t ps bs os,.agg (dCr u F qs rs)] [aE (ckE ps bs os F qs rs)]:=by
 refine cvz func20 ntmps20 ?_
 have CK:=(Mp t hl).cv
 have hl1:=hl.l1
 have hl2:=hl.l2
 by_cases h0:AY ps bs os=0
 case neg =>
  have hb:ckE ps bs os F qs rs=AY ps bs os:=by unfold ckE;rw [if_pos h0]
  rw [hb]
  repeat' (with_reducible first|refine qq ?_|refine UZ ?_|(refine Tx 2 ?_;refine gO xM <| gO Aqr ?_)|(refine Tx 3 ?_;refine gO xM <| gO xA ?_))
  exact Au rfl (.cons_ (AbN rfl rfl) .nil_)
 rw [h0] at CK
 by_cases hF:F.length=bs.length
 case neg =>
  have hb:ckE ps bs os F qs rs=11:=by unfold ckE;rw [if_neg (not_not_intro h0),if_neg (fun h=>hF h.1)]
  rw [hb]
  repeat' (with_reducible first|refine qq ?_|refine UZ ?_|refine YD ?_|(refine Tx 6 ?_;refine gO (xMi underlying85) <| gO xA ?_))
  exact Mz
 by_cases hQ:qs.length=bs.length
 case neg =>
  have hb:ckE ps bs os F qs rs=11:=by unfold ckE;rw [if_neg (not_not_intro h0),if_neg (fun h=>hQ h.2.1)]
  rw [hb]
  repeat' (with_reducible first|refine qq ?_|refine UZ ?_|refine YD ?_|(refine Tx 6 ?_;refine gO (xMi underlying85) <| gO xA ?_))
  exact Mz
 by_cases hR:rs.length=bs.length
 case neg =>
  have hb:ckE ps bs os F qs rs=11:=by unfold ckE;rw [if_neg (not_not_intro h0),if_neg (fun h=>hR h.2.2)]
  rw [hb]
  repeat' (with_reducible first|refine qq ?_|refine UZ ?_|refine YD ?_|(refine Tx 6 ?_;refine gO (xMi underlying85) <| gO xA ?_))
  exact Mz
 have hb:ckE ps bs os F qs rs=ckL qs rs:=by unfold ckE;rw [if_neg (not_not_intro h0),if_pos ⟨hF,hQ,hR⟩]
 rw [hb]
 repeat' (with_reducible first|refine qq ?_|refine UZ ?_|refine YD ?_|(refine Tx 7 ?_;refine gO xF <| gO xD <| gO xN <| gO xM ?_))
 refine AJ (Be 2) (Al (fun n Fr H=>∃ k:Nat,k≤qs.length∧n=qs.length - k∧(∀ (j:Nat) (x:Int),j<k→(List.zipWith PR qs rs)[j]?=some x→x=0)∧Fr=ofL [(3,vr 1),(38,vd (Vn qs)),(39,vi qs.length),(40,vi ((k:Nat)))]∧H=[.box 26 [.d (CY t ps),.d (Cw t bs),.d (AU t os)],.box 30 [.d (AU u F),.d (Vn qs),.d (AoU rs)]]) (n0:=qs.length) ⟨0,ad _,rfl,(fun j x hj=>absurd hj (fo _)),rfl,rfl⟩ ?_)
 rintro n Fr H ⟨k,hk,rfl,hz,rfl,rfl⟩
 by_cases hlt:k<qs.length
 case pos =>
  obtain ⟨q,hq⟩:∃ q,qs[k]?=some q:=⟨_,gE hlt⟩
  obtain ⟨r,hr⟩:∃ r,rs[k]?=some r:=⟨_,gE (by omega)⟩
  have wq:=hwq q (gM hq)
  have wr:=hwr r (gM hr)
  have VI:CV prog Ah 57 [.agg (dIr false q)] [aB (ivC q)]:=Iz q.1 q.2 wq.1 wq.2
  have VD:=(Pr (G:=Ah) false r wr.1 (by have:=wr.2;omega)).cv
  have hit:=Aqo hz hq hr
  cases h1:ivC q
  case false =>
   have hc:PR q r=2:=by unfold PR;rw [if_pos (.inl h1)]
   rw [hit (by rw [hc];decide),hc]
   rw [h1] at VI
   repeat' (with_reducible first|refine qq ?_|(refine Tx 8 ?_;refine gO xLt ?_)|refine AiH ?_|(refine Tx 11 ?_;refine gO (xMi underlying85) <| gO xA ?_))
   exact Mz
  rw [h1] at VI
  cases h2:vdB r.rw
  case false =>
   have hc:PR q r=2:=by unfold PR;rw [if_pos (.inr (.inl h2))]
   rw [hit (by rw [hc];decide),hc]
   rw [h2] at VD
   repeat' (with_reducible first|refine qq ?_|(refine Tx 8 ?_;refine gO xLt ?_)|refine AiH ?_|(refine Tx 11 ?_;refine gO (xMi underlying85) <| gO xA ?_))
   exact Mz
  rw [h2] at VD
  obtain ⟨d0,n0,m0⟩:=Amf wr h2
  have SG:=Ms (rvP r).1 (rvP r).2 n0 m0
  have hra:=Agm hr
  have hra:=Agm hr
  have VD2:CV prog Ah 58 [.agg (dyP (rvP r))] [aB true]:=by rw [←d0];exact VD
  rw [d0] at hra
  by_cases h3:sgI (rvP r).1<0
  case pos =>
   have hc:PR q r=2:=by unfold PR;rw [if_pos (.inr (.inr h3))]
   rw [hit (by rw [hc];decide),hc]
   repeat' (with_reducible first|refine qq ?_|(refine Tx 8 ?_;refine gO xLt ?_)|(refine Tx 9 ?_;refine gO xM <| gO (by first|exact xIr Ad (PI hq)|exact xIr Ad (hra)) <| gO xL <| gN (xAl Ai) <| gO xA <| gZ (xSk Ab) ?_)|(refine Tx 10 ?_;refine gO xL <| gO (xCl func57 (VI)) <| gO Gm <| gO xM ?_;(first|iterate 7 refine Jd ?_|(refine Jy (xFa DI AG) ?_;refine Jy (xLd AG) ?_;refine Jy xM1 ?_;refine Jy Aqs ?_;refine Jy (xLa Aa) ?_;refine Jy (xCl func58 (VD2)) ?_;refine Jy Gm ?_));refine gO xPk <| gO xM ?_;(first|iterate 7 refine Jd ?_|(refine Jy (xFa DI AG) ?_;refine Jy (xLd AG) ?_;refine Jy xM1 ?_;refine Jy Aqs ?_;refine Jy (xLa Aa) ?_;refine Jy (xCl func28 (SG)) ?_;refine Jy xLt ?_));refine gO xPk ?_)|(refine Tx 11 ?_;refine gO (xMi underlying85) <| gO xA ?_))
   exact Mz
  obtain ⟨sw,hdy,lw1,lw2⟩:=PJ wq.1 wq.2 h1
  have hia:=PI hq
  have VI2:CV prog Ah 57 [.agg (dIw false (ivQ q))] [aB true]:=by rw [←hdy];exact VI
  rw [hdy] at hia
  have LR:=PZ (rvP r) n0 m0
  have L1:=PZ (rvP q.1) sw.s1.ok lw1
  have L2:=PZ (rvP q.2) sw.s2.ok lw2
  have hn2:¬ (ivC q=false∨vdB r.rw=false∨sgI (rvP r).1<0):=by rw [h1,h2];simpa using h3
  cases h4:EH (rvP r)
  case true =>
   have hc:PR q r=4:=by unfold PR;rw [if_neg hn2,if_pos (.inl h4)]
   rw [hit (by rw [hc];decide),hc]
   rw [h4] at LR
   repeat' (with_reducible first|refine qq ?_|(refine Tx 8 ?_;refine gO xLt ?_)|refine YE ?_|(refine Tx 13 ?_;refine gO (xMi underlying85) <| gO xA ?_))
   exact Mz
  rw [h4] at LR
  cases h5:EH (rvP q.1)
  case true =>
   have hc:PR q r=4:=by unfold PR;rw [if_neg hn2,if_pos (.inr (.inl h5))]
   rw [hit (by rw [hc];decide),hc]
   rw [h5] at L1
   repeat' (with_reducible first|refine qq ?_|(refine Tx 8 ?_;refine gO xLt ?_)|refine YE ?_|(refine Tx 13 ?_;refine gO (xMi underlying85) <| gO xA ?_))
   exact Mz
  rw [h5] at L1
  cases h6:EH (rvP q.2)
  case true =>
   have hc:PR q r=4:=by unfold PR;rw [if_neg hn2,if_pos (.inr (.inr h6))]
   rw [hit (by rw [hc];decide),hc]
   rw [h6] at L2
   repeat' (with_reducible first|refine qq ?_|(refine Tx 8 ?_;refine gO xLt ?_)|refine YE ?_|(refine Tx 13 ?_;refine gO (xMi underlying85) <| gO xA ?_))
   exact Mz
  rw [h6] at L2
  have hc:PR q r=0:=by unfold PR;rw [if_neg hn2,if_neg (by simp [h4,h5,h6])]
  repeat' (with_reducible first|refine qq ?_|(refine Tx 8 ?_;refine gO xLt ?_)|refine YE ?_|(refine Tx 14 ?_;refine gO xAd <| gO xM ?_))
  exact ⟨_,_,Gw [(3,vr 1),(38,vd (Vn qs)),(39,vi qs.length),(40,vi (((k+1):Nat)))] 2 rfl (mB rfl rfl) ⟨BS rfl,BS rfl,trivial⟩,_,by omega,k+1,by omega,rfl,(fun j x hj hx=>by
    rcases cw j k with h|h
    ·exact hz j x h hx
    ·obtain rfl:j=k:=by omega
     rw [AdX hq hr] at hx
     cases hx
     exact hc),rfl,rfl⟩
 obtain rfl:k=qs.length:=by omega
 have he:ckL qs rs=0:=LQ fun x hx=>by
  obtain ⟨j,hj⟩:=gb hx
  exact hz j x (by have:=(gS.1 hj).1;rw [List.length_zipWith] at this;omega) hj
 rw [he]
 repeat' (with_reducible first|refine qq ?_|(refine Tx 8 ?_;refine gO xLt ?_)|(refine Tx 15 ?_;refine gO xA ?_))
 exact Au rfl (.cons_ (Hc rfl rfl) .nil_)
theorem LS (t:Bool) {ps:List Prt} {bs:List Bk} {os:List Int} (hl:Dx ps bs os) (F:List Int) (qs:List (Rv × Rv)) (rs:List Rv) (hwq:∀ q∈qs,RvL q.1∧RvL q.2) (hwr:∀ r∈rs,RvL r) (hFl:F.length≤1000000) (hQl:qs.length≤1000000) (hRl:rs.length≤1000000):CV prog Ah 6 [aDg t ps bs os,.agg (dCr false F qs rs)] [aB (vfE ps bs os F qs rs),.agg [dI (vfP ps bs os F qs rs).1,dI (vfP ps bs os F qs rs).2],aE (ckE ps bs os F qs rs)]:=by
 refine cvz func6 ntmps6 ?_
 have CK:=Aag t false hl F qs rs hwq hwr hFl hQl hRl
 have hl1:=hl.l1
 have hl2:=hl.l2
 by_cases h0:ckE ps bs os F qs rs=0
 case neg =>
  have e1:vfE ps bs os F qs rs=false:=by unfold vfE;rw [decide_eq_false h0];rfl
  have e2:vfP ps bs os F qs rs=(0,0):=if_neg h0
  rw [e1,e2]
  repeat' (with_reducible first|refine qq ?_|(refine Tx 0 ?_;refine gN xBo <| gN xBo <| gO xA <| gN (xAl CN) <| gO xA ?_)|(refine Tx 1 ?_;refine gO xL <| gO xL <| gO (xCl func20 (CK)) <| gO xA ?_)|(refine Tx 2 ?_;refine gO xM <| gO Aqr ?_)|(refine Tx 3 ?_;refine gO (by exact AF rfl Cr rfl rfl) <| gO xM <| gO xA <| gZ (xSk AV) <| gO xA ?_))
  exact Au rfl (.cons_ (Db rfl rfl) (.cons_ (AqS AV) (.cons_ (AbN rfl rfl) .nil_)))
 obtain ⟨hd,ok,hdc,_,_⟩:=Aqp hwq hwr h0
 rw [h0] at CK
 rw [h0]
 have e2:vfP ps bs os F qs rs=vfF ps bs (AdW F qs rs):=if_pos h0
 have e1:vfE ps bs os F qs rs=(vfK ps bs (AdW F qs rs)).isNone:=by unfold vfE;rw [decide_eq_true h0,dq]
 rw [e1,e2]
 rw [hdc] at CK
 rw [hdc]
 generalize AdW F qs rs=c at *
 clear e1 e2 h0
 repeat' (with_reducible first|refine qq ?_|(refine Tx 0 ?_;refine gN xBo <| gN xBo <| gO xA <| gN (xAl CN) <| gO xA ?_)|(refine Tx 1 ?_;refine gO xL <| gO xL <| gO (xCl func20 (CK)) <| gO xA ?_)|(refine Tx 2 ?_;refine gO xM <| gO (xNE Am) ?_)|(refine Tx 4 ?_;refine gO xF <| gO xD <| gO xN <| gO xM ?_))
 refine AJ (Be 3) (Al (fun n Fr H=>∃ k:Nat,k≤bs.length∧n=bs.length - k∧(∀ i,i<k→IL ps bs c i=0)∧Fr=ofL [(2,vr 0),(3,vr 1),(5,vr 2),(18,vd (Cw t bs)),(19,vi bs.length),(20,vi ((k:Nat)))]∧H=[.box 26 [.d (CY t ps),.d (Cw t bs),.d (AU t os)],.box 30 [.d (AU false c.F),.d (.row false 6 c.R.length (An (dIw false) c.R)),.d (.row false 3 c.E.length (An dyP c.E))],.box 34 [.d (.val (.int .i64 0)),.d (.val (.int .i64 0))]]) (n0:=bs.length) ⟨0,ad _,rfl,(fun i hi=>absurd hi (fo _)),rfl,rfl⟩ ?_)
 rintro n Fr H ⟨k,hk,rfl,hz,rfl,rfl⟩
 by_cases hlt:k<bs.length
 case pos =>
  obtain ⟨y,hy⟩:∃ y,bs[k]?=some y:=⟨_,gE hlt⟩
  have LK:=Aae t false os c k hy (Aac hd hy) ok hl2 hl1
  have vs:=AdY hlt hz
  generalize hq:IL ps bs c k=q at *
  by_cases h1:q=0
  case neg =>
   have vs:=vs h1
   have e1:(vfK ps bs c).isNone=false:=by rw [vs];rfl
   have e2:vfF ps bs c=(q,(k:Int)):=by unfold vfF;rw [vs];show (IL ps bs c k,_)=_;rw [hq]
   rw [e1,e2]
   repeat' (with_reducible first|refine qq ?_|(refine Tx 5 ?_;refine gO xLt ?_)|(refine Tx 6 ?_;refine gO xM <| gO xA ?_)|(refine Tx 7 ?_;refine gO xL <| gO xL <| gO xM <| gO (xCl func21 (LK)) <| gO xA ?_)|(refine Tx 8 ?_;refine gO xM <| gO xNe ?_)|(refine Tx 9 ?_;refine gO xM <| gO xM <| gO (by exact AF rfl Cr rfl rfl) <| gO xA <| gZ (xSk AV) <| gO xA ?_))
   exact Au rfl (.cons_ (Db rfl rfl) (.cons_ (AqS AV) (.cons_ (Hc rfl rfl) .nil_)))
  subst h1
  repeat' (with_reducible first|refine qq ?_|(refine Tx 5 ?_;refine gO xLt ?_)|(refine Tx 6 ?_;refine gO xM <| gO xA ?_)|(refine Tx 7 ?_;refine gO xL <| gO xL <| gO xM <| gO (xCl func21 (LK)) <| gO xA ?_)|(refine Tx 8 ?_;refine gO xM <| gO xNe ?_)|(refine Tx 10 ?_;refine gO xAd <| gO xM ?_))
  refine ⟨_,_,Be 3,_,by omega,k+1,by omega,rfl,Sn hz hq,rfl,rfl⟩
 obtain rfl:k=bs.length:=by omega
 have vn:=WC.2 hz
 have e1:(vfK ps bs c).isNone=true:=by rw [vn];rfl
 have e2:vfF ps bs c=(0,0):=by unfold vfF;rw [vn]
 rw [e1,e2]
 repeat' (with_reducible first|refine qq ?_|(refine Tx 5 ?_;refine gO xLt ?_)|(refine Tx 11 ?_;refine gO (by exact AF rfl Cr rfl rfl) <| gO xA <| gZ (xSk AV) <| gO xA ?_))
 exact Au rfl (.cons_ (Db rfl rfl) (.cons_ (AqS AV) (.cons_ (Hc rfl rfl) .nil_)))
def wiB (a:Iq) (f m:Int):Bool:=decide (Gf (GN (Fu a) f) (m,0)≤0)
def pkF (a:Iq):Nat→Int
 | 0 => -1
 | n+1=>if wiB a (n:Int) 1073741824=true then (n:Int) else pkF a n
def pkS (a:Iq):Int:=pkF a 31
def pkB (a:Iq):Bool:=decide (0≤pkS a)
theorem AiI (a:Iq):∀ n:Nat,-1≤pkF a n∧pkF a n≤(n:Int) - 1
 | 0=>⟨ci _,ci _⟩
 | n+1=>by
  have:=AiI a n
  unfold pkF
  split <;> omega
theorem Aqt (a:Iq) : -1≤pkS a∧pkS a≤30:=AiI a 31
def NT:Nat→Int→Pq→Int
 | 0,k,_=>k
 | n+1,k,x=>if Gf (pw k) x<0 then NT n (k+1) x else k
def Tl (x:Pq):Pq:=pw (NT 50000 (-62) x)
section
variable (ps:List Prt) (bs:List Bk) (os:List Int) (F:List Int) (R:List Iq)
def erB (E:List Pq) (i:Nat):Pq:=upQ (AP ps F R E (AqO bs i) (scA F i))
def erO:List Nat→List Pq→Option (List Pq)
 | [],E=>some E
 | i::l,E=>if Rk (erB ps bs F R E i)=true then none else erO l (E.set i (erB ps bs F R E i))
def erM (E:List Pq) (i:Nat):Pq:=GG (E[i]?.getD (0,0)) (erB ps bs F R E i)
def erX (w:Bool) (E:List Pq) (i:Nat):Pq:=if w=true then Tl (erM ps bs F R E i) else erM ps bs F R E i
def erD (w:Bool):List Nat→List Pq→Bool→Option (List Pq × Bool)
 | [],E,b=>some (E,b)
 | i::l,E,b=>if Gf (erM ps bs F R E i) (E[i]?.getD (0,0))=0 then erD w l E b
  else if Rk (erX ps bs F R w E i)=true then none else erD w l (E.set i (erX ps bs F R w E i)) true
def erR:Nat→Nat→List Pq→Option (List Pq)
 | 0,_,_=>none
 | n+1,r,E=>match erO ps bs F R (Co bs) E with
  | none=>none
  | some E1=>match erD ps bs F R (decide (64≤r)) (AX bs) E1 false with
   | none=>none
   | some (E2,b)=>if b=true then erR n (r+1) E2 else some E2
def erA:Option (List Pq):=erR ps bs F R 128 0 (List.replicate bs.length (0,0))
def vfA (E:List Pq):Bool:=vfE ps bs os F (R.map Rh) (E.map DU)
def mkT:Option (List Pq):=match erA ps bs F R with
 | none=>none
 | some E=>if vfA ps bs os F R E=true then some E else none
end
def Va (F:List Int):Bool:=F.any fun f=>decide (0<f)
def AiJ (f:Int):Int:=if 0<f then f - 1 else f
def Tm (F:List Int):List Int:=F.map AiJ
def mkL (ps:List Prt) (bs:List Bk) (os:List Int) (R:List Iq):Nat→List Int→Option Ct
 | 0,_=>none
 | n+1,F=>match mkT ps bs os F R with
  | some E=>some ⟨F,R,E⟩
  | none=>if Va F=true then mkL ps bs os R n (Tm F) else none
def mkC (ps:List Prt) (bs:List Bk) (os:List Int) (e:Int) (l:List Iq):Option Ct :=
 if e=0∧(rgV ps bs l).all pkB=true then mkL ps bs os (rgV ps bs l) 31 ((rgV ps bs l).map pkS) else none
structure LZ (bs:List Bk) (E:List Pq):Prop where
 len:E.length=bs.length
 sm:∀ p∈E,Sm p 128 62
 nn:∀ p∈E,0≤gv p
theorem LZ.zero (bs:List Bk):LZ bs (List.replicate bs.length (0,0)):=⟨ep ..,fun p hp=>by rw [List.eq_of_mem_replicate hp];exact Sm.zero _ _,fun p hp=>by rw [List.eq_of_mem_replicate hp,GE];exact ci _⟩
theorem LZ.set (h:LZ bs E) {p:Pq} (hs:Sm p 128 62) (h0:0≤gv p) (i:Nat):LZ bs (E.set i p):=⟨by rw [ee];exact h.len,fun q hq=>by
 rcases ld hq with hq|rfl
 ·exact h.sm q hq
 ·exact hs,fun q hq=>by
 rcases ld hq with hq|rfl
 ·exact h.nn q hq
 ·exact h0⟩
theorem LZ.at_ (h:LZ bs E) (i:Nat):Sm (E[i]?.getD (0,0)) 128 62∧0≤gv (E[i]?.getD (0,0)):=by
 rcases he:E[i]? with _|p
 ·exact ⟨Sm.zero _ _,Int.le_of_eq GE.symm⟩
 ·exact ⟨h.sm p (gM he),h.nn p (gM he)⟩
theorem LZ.inE (h:LZ bs E):InE E E:=⟨fun k=>(h.at_ k).2,fun _=>ci _⟩
theorem YF {p:Pq} (h:Sm p n 62) (h0:0≤gv p) (hf:Rk p=false):Sm p 128 62:=by
 have h1:gv p≤1099511627776*2 ^ GQ:=by
  have h2:=of_decide_eq_false hf
  have h3:=(Hx (p:=p) (q:=(1099511627776,0)) h.le (by decide)).1 (Int.not_lt.1 h2)
  rwa [Py] at h3
 refine ⟨h.ok,?_,h.d⟩
 have hp:=Bf (GQ - p.2)
 have hd:=h.d
 have e:(2:Int) ^ GQ=2 ^ p.2*2 ^ (GQ - p.2):=by rw [←ak];congr 1;have:=h.le;omega
 unfold gv at h0 h1
 rw [e,←am] at h1
 have h2:p.1≤1099511627776*2 ^ p.2:=Int.le_of_mul_le_mul_right h1 hp
 have h3:0≤p.1:=bu fun hn=>by
  have:=kz (show p.1<0 by omega) hp
  omega
 have h4:(2:Int) ^ p.2≤2 ^ 62:=by
  have h5:=au (n:=2) (by decide) hd
  exact_mod_cast h5
 have h6:p.1<2 ^ 128:=by
  have:(1099511627776:Int)*2 ^ p.2≤1099511627776*2 ^ 62:=jz h4 (by decide)
  have h7:(1099511627776:Int)*2 ^ 62<2 ^ 128:=by decide
  omega
 have h8:((p.1.natAbs:Nat):Int)<((2 ^ 128:Nat):Int):=by
  rw [Int.natAbs_of_nonneg h3]
  exact_mod_cast h6
 exact_mod_cast h8
theorem Aqu {k:Int} (h0 : -62≤k) (h1:k<n) (hn:n≤65536) (h2:0<n):Sm (pw k) n 62:=by
 unfold pw Af
 split
 ·exact (Sm.mk_nf (m:=1) (n:=n) (d:=62) (p:=0+(-(max (-65536) (min k 65536))).toNat) (by omega) (by omega) (Nat.one_lt_two_pow (by omega)))
 ·refine (Sm.mk_nf (n:=n) (d:=62) (p:=0) (by omega) (by omega) ?_)
  rw [Int.one_mul,fx]
  exact Nat.pow_lt_pow_right (by decide) (by omega)
theorem ME {k:Int} (h0 : -62≤k) (h1:k≤40064):Sm (pw k) 40065 62:=Aqu h0 (by omega) (by decide) (by decide)
theorem Ta {a b:Nat} (h:a≤b):(2:Int) ^ a≤2 ^ b:=by
 have:=au (n:=2) (by decide) h
 exact_mod_cast this
theorem ArU {x:Pq} {d:Nat} (h:Sm x n d):gv x<2 ^ (n+GQ):=by
 have h1:x.1<2 ^ n:=by
  have h2:=h.n
  have h3:((x.1.natAbs:Nat):Int)<((2 ^ n:Nat):Int):=by exact_mod_cast h2
  have h4:((2 ^ n:Nat):Int)=2 ^ n:=by push_cast;rfl
  omega
 have hp:=Bf (GQ - x.2)
 have hq:(2:Int) ^ (GQ - x.2)≤2 ^ GQ:=Ta (Nat.sub_le GQ x.2)
 unfold gv
 rw [ak]
 exact Int.lt_of_lt_of_le (kg h1 hp) (jz hq (bg (Bf n)))
theorem Qa {a b:Nat} (h:(2:Int) ^ a<2 ^ b):a<b:=bu fun hn=>by
 have h1:=au (n:=2) (by decide) (show b≤a by omega)
 have h2:(2:Int) ^ b≤2 ^ a:=by exact_mod_cast h1
 omega
theorem YG {x:Pq} (hx:Sm x 40064 62) {k:Int} (h0 : -62≤k) (h1:k≤40064) (h:Gf (pw k) x<0):k+1≤40064:=by
 have h2:¬ gv x≤gv (pw k):=fun hc=>absurd h (Int.not_lt.2 ((Px (p:=pw k) (q:=x) (ME h0 h1).le hx.le).2 hc))
 have h3:=ArU hx
 rw [EL (by omega) (by omega)] at h2
 have h4:=Qa (Int.lt_trans (Int.not_le.1 h2) h3)
 have h5:GQ=65536:=rfl
 omega
theorem AdZ {x:Pq} (hx:Sm x 40064 62):∀ (n:Nat) (k:Int),-62≤k→k≤40064 → -62≤NT n k x∧NT n k x≤40064
 | 0,k,h0,h1=>⟨h0,h1⟩
 | n+1,k,h0,h1=>by
  unfold NT
  split
  ·rename_i h
   exact AdZ hx n (k+1) (by omega) (YG hx h0 h1 h)
  ·exact ⟨h0,h1⟩
theorem Amj {x:Pq} (hx:Sm x 40064 62):Sm (Tl x) 40065 62∧0≤gv (Tl x):=by
 obtain ⟨h0,h1⟩:=AdZ hx 50000 (-62) (by decide) (by decide)
 unfold Tl
 exact ⟨ME h0 h1,by rw [EL (by omega) (by omega)];exact bg (Bf _)⟩
theorem Amk {k:Int} (h0 : -62≤k) (h1:k≤40063):GN (pw k) 1=pw (k+1):=by
 have s1:=ME h0 (by omega)
 have s2:=ME (k:=k+1) (by omega) (by omega)
 refine Nu (Fq s1 (by decide) (by decide)).ok s2.ok ?_
 have:=Uo (p:=pw k) (n:=1) s1.le (by decide)
 rw [show gv (GN (pw k) 1)=_ from this,EL (by omega) (by omega),EL (by omega) (by omega),←ak]
 congr 1
 omega
section
variable {ps:List Prt} {bs:List Bk} {os:List Int} {F:List Int} {R:List Iq} {E:List Pq}
theorem Rn (he:AY ps bs os=0) {i:Nat} {y:Bk} (hy:bs[i]?=some y) (hs:0≤scA F i∧scA F i≤30) (sR:∀ p∈R,IwS p LB LB) (h:LZ bs E):Sm (AP ps F R E y (scA F i)) 40064 9000∧Sm (erB ps bs F R E i) 40064 62∧0≤gv (erB ps bs F R E i):=by
 have hv:y.kind=6→DN y.vn y.ve:=fun h6=>Ps he hy (by rw [h6];rfl)
 have lb:∀ p∈E,Sm p LB LB:=WB h.sm
 have sb:=ST (ps:=ps) (F:=F) (y:=y) hs.1 hs.2 sR lb hv
 have nn:=(Aaf (ps:=ps) (F:=F) (y:=y) hs.1 hs.2 sR lb lb hv h.inE).1
 unfold erB
 rw [LF hy]
 exact ⟨sb,(SS (den:=62) sb.neg (by decide)).neg,Aqm sb.le nn⟩
theorem Aea (he:AY ps bs os=0) {i:Nat} {y:Bk} (hy:bs[i]?=some y) (hs:0≤scA F i∧scA F i≤30) (sR:∀ p∈R,IwS p LB LB) (h:LZ bs E):Sm (erM ps bs F R E i) 40064 62∧0≤gv (erM ps bs F R E i):=by
 obtain ⟨_,s,n⟩:=Rn he hy hs sR h
 obtain ⟨s',n'⟩:=h.at_ i
 unfold erM
 refine ⟨Sm.max (s'.more (by decide) (aa _)) s,?_⟩
 rw [show gv (GG (E[i]?.getD (0,0)) (erB ps bs F R E i))=_ from EJ s'.le s.le]
 omega
theorem Aeb (he:AY ps bs os=0) {i:Nat} {y:Bk} (hy:bs[i]?=some y) (hs:0≤scA F i∧scA F i≤30) (sR:∀ p∈R,IwS p LB LB) (h:LZ bs E) (w:Bool):Sm (erX ps bs F R w E i) 40065 62∧0≤gv (erX ps bs F R w E i):=by
 obtain ⟨s,n⟩:=Aea he hy hs sR h
 unfold erX
 split
 ·exact Amj s
 ·exact ⟨s.more (by decide) (aa _),n⟩
theorem AiK (he:AY ps bs os=0) (hF:∀ i,i<bs.length→0≤scA F i∧scA F i≤30) (sR:∀ p∈R,IwS p LB LB):∀ (l:List Nat) (E E':List Pq),(∀ i∈l,i<bs.length)→LZ bs E→erO ps bs F R l E=some E'→LZ bs E'
 | [],E,E',_,h,hr=>by cases hr;exact h
 | i::l,E,E',hl,h,hr=>by
  have hi:=hl i (ig ..)
  obtain ⟨y,hy⟩:∃ y,bs[i]?=some y:=⟨_,gE hi⟩
  obtain ⟨_,s,n⟩:=Rn he hy (hF i hi) sR h
  unfold erO at hr
  by_cases hf:Rk (erB ps bs F R E i)=true
  ·rw [if_pos hf] at hr;cases hr
  ·rw [if_neg hf] at hr
   rw [ay] at hf
   exact AiK he hF sR l _ E' (fun j hj=>hl j (gd _ hj)) (h.set (YF s n hf) n i) hr
theorem Aec (he:AY ps bs os=0) (hF:∀ i,i<bs.length→0≤scA F i∧scA F i≤30) (sR:∀ p∈R,IwS p LB LB) (w:Bool):∀ (l:List Nat) (E:List Pq) (b:Bool) (x:List Pq × Bool),(∀ i∈l,i<bs.length)→LZ bs E→erD ps bs F R w l E b=some x→LZ bs x.1
 | [],E,b,x,_,h,hr=>by cases hr;exact h
 | i::l,E,b,x,hl,h,hr=>by
  have hi:=hl i (ig ..)
  have hl':∀ j∈l,j<bs.length:=fun j hj=>hl j (gd _ hj)
  obtain ⟨y,hy⟩:∃ y,bs[i]?=some y:=⟨_,gE hi⟩
  obtain ⟨s,n⟩:=Aeb he hy (hF i hi) sR h w
  unfold erD at hr
  by_cases hc:Gf (erM ps bs F R E i) (E[i]?.getD (0,0))=0
  ·rw [if_pos hc] at hr
   exact Aec he hF sR w l E b x hl' h hr
  rw [if_neg hc] at hr
  by_cases hf:Rk (erX ps bs F R w E i)=true
  ·rw [if_pos hf] at hr;cases hr
  ·rw [if_neg hf] at hr
   rw [ay] at hf
   exact Aec he hF sR w l _ true x hl' (h.set (YF s n hf) n i) hr
theorem Aqv:∀ i∈Co bs,i<bs.length:=fun i hi=>by
 obtain ⟨k,hk⟩:=gb hi
 exact (Pt hk).1
theorem Aqw:∀ i∈AX bs,i<bs.length:=fun i hi=>by
 obtain ⟨k,hk⟩:=gb hi
 exact (Hv hk).1
theorem AiL (he:AY ps bs os=0) (hF:∀ i,i<bs.length→0≤scA F i∧scA F i≤30) (sR:∀ p∈R,IwS p LB LB):∀ (n r:Nat) (E E':List Pq),LZ bs E→erR ps bs F R n r E=some E'→LZ bs E'
 | 0,_,_,_,_,hr=>by cases hr
 | n+1,r,E,E',h,hr=>by
  unfold erR at hr
  split at hr
  ·cases hr
  rename_i E1 h1
  have k1:=AiK he hF sR _ _ _ Aqv h h1
  split at hr
  ·cases hr
  rename_i E2 b h2
  have k2:=Aec he hF sR _ _ _ _ _ Aqw k1 h2
  split at hr
  ·exact AiL he hF sR n (r+1) E2 E' k2 hr
  ·cases hr;exact k2
theorem Aed (he:AY ps bs os=0) (hF:∀ i,i<bs.length→0≤scA F i∧scA F i≤30) (sR:∀ p∈R,IwS p LB LB) (hr:erA ps bs F R=some E):LZ bs E:=AiL he hF sR _ _ _ _ (.zero bs) hr
structure WD (bs:List Bk) (F:List Int):Prop where
 len:F.length=bs.length
 in_:∀ f∈F,0≤f∧f≤30
theorem WD.sc (h:WD bs F):∀ i,i<bs.length→0≤scA F i∧scA F i≤30:=fun i hi=>h.in_ _ (gM (My (by rw [h.len];exact hi)))
theorem WD.low (h:WD bs F):WD bs (Tm F):=⟨by unfold Tm;rw [af];exact h.len,fun f hf=>by
 obtain ⟨g,hg,rfl⟩:=List.mem_map.1 hf
 have:=h.in_ g hg
 unfold AiJ
 split <;> omega⟩
theorem Aqx (F:List Int) (R:List Iq) (E:List Pq):AdW F (R.map Rh) (E.map DU)=⟨F,R,E⟩:=by
 unfold AdW
 rw [IC]
 congr 1
 rw [dp]
 exact (fc fun p _=>GP p).trans (List.map_id E)
theorem ArV (u:Bool) (F:List Int) (R:List Iq) (E:List Pq):dCr u F (R.map Rh) (E.map DU)=dCt u ⟨F,R,E⟩:=by
 unfold dCr dCt
 rw [LM,Wp]
theorem er_L (h:LZ bs E):∀ r∈E.map DU,RvL r:=fun r hr=>by
 obtain ⟨p,hp,rfl⟩:=List.mem_map.1 hr
 exact Gi (h.sm p hp) (by decide)
theorem Aml (he:AY ps bs os=0) (hF:WD bs F) (sR:∀ p∈R,IwS p LB LB) (hr:mkT ps bs os F R=some E):AgQ ps bs os ⟨F,R,E⟩∧LZ bs E∧vfA ps bs os F R E=true:=by
 unfold mkT at hr
 split at hr
 ·cases hr
 rename_i E1 h1
 split at hr
 ·rename_i hv
  cases hr
  have k:=Aed he hF.sc sR h1
  have:=Amg (Ri sR (by decide)) (er_L k) hv
  rw [Aqx] at this
  exact ⟨this,k,hv⟩
 ·cases hr
theorem Aee (he:AY ps bs os=0) (sR:∀ p∈R,IwS p LB LB):∀ (n:Nat) (F:List Int) (c:Ct),WD bs F→mkL ps bs os R n F=some c→AgQ ps bs os c∧WD bs c.F∧c.R=R∧LZ bs c.E∧vfA ps bs os c.F R c.E=true
 | 0,_,_,_,hr=>by cases hr
 | n+1,F,c,hF,hr=>by
  unfold mkL at hr
  split at hr
  ·rename_i E hE
   cases hr
   obtain ⟨a,b,d⟩:=Aml he hF sR hE
   exact ⟨a,hF,rfl,b,d⟩
  ·split at hr
   ·exact Aee he sR n _ c hF.low hr
   ·cases hr
theorem Amm (hl:R.length=bs.length) (h:R.all pkB=true):WD bs (R.map pkS):=⟨by rw [af];exact hl,fun f hf=>by
 obtain ⟨a,ha,rfl⟩:=List.mem_map.1 hf
 exact ⟨of_decide_eq_true (List.all_eq_true.1 h a ha),(Aqt a).2⟩⟩
theorem Qb {p:Pq} (h:Sm p LB LB):EH p=false:=by
 have h1:=Dj.2 h.n
 have h2:=h.d
 unfold LB at h1 h2
 exact decide_eq_false (by omega)
theorem Aef (he:AY ps bs os=0) (hF:WD bs F) (hl:R.length=bs.length) (sR:∀ p∈R,IwS p LB LB) (h:LZ bs E):ckE ps bs os F (R.map Rh) (E.map DU)=0:=by
 unfold ckE
 rw [if_neg (not_not_intro he),if_pos ⟨hF.len,by rw [af];exact hl,by rw [af];exact h.len⟩]
 refine LQ fun x hx=>?_
 obtain ⟨k,hk⟩:=gb hx
 rw [List.getElem?_zipWith] at hk
 rcases ha:(R.map Rh)[k]? with _|q
 ·rw [ha] at hk;cases hk
 rcases hb:(E.map DU)[k]? with _|r
 ·rw [ha,hb] at hk;cases hk
 rw [ha,hb] at hk
 cases hk
 rw [ag,dj] at ha hb
 obtain ⟨a,ha,rfl⟩:=ha
 obtain ⟨p,hp,rfl⟩:=hb
 have sa:=sR a (gM ha)
 have sp:=h.sm p (gM hp)
 have np:=h.nn p (gM hp)
 have n1:0≤p.1:=bu fun hn=>by
  have:=kz (show p.1<0 by omega) (Bf (GQ - p.2))
  unfold gv at np
  omega
 unfold PR
 rw [show rvP (DU p)=p from GP p,show rvP (Rh a).1=a.1 from GP a.1,show rvP (Rh a).2=a.2 from GP a.2,Wo sp.ok,show ivC (Rh a)=true from ZU sa,Qb (sp.more (n':=LB) (d':=LB) (by decide) (by decide)),Qb sa.s1,Qb sa.s2]
 have hs:¬ sgI p.1<0:=by unfold sgI;(repeat' split) <;> omega
 simp [hs]
end
def cDz:Option Pq→List D
 | none=>[.val (.bool false),.val (.slice none 0 0),.val (.int .i64 0)]
 | some p=>dyP p
theorem ArW (v:List (Option Pq)):cVs v=((v.map cDz).flatten).map C.d:=by
 unfold cVs
 rw [List.map_flatten,dp]
 congr 1
 exact fc fun o _=>by cases o <;> rfl
theorem ArX {v:Value} (h:Bx w S (.val (.slice none 0 0)) v):Bx w S (.row false 1 0 []) v:=by
 cases h
 exact .row [] (aa _) (fun _=>rfl) rfl rfl (fun h=>absurd rfl h) (fun j u x hu=>by simp at hu)
structure Nw where
 ty:TypeId
 s:Nat
 n:Nat
 ds:List D
def Nw.ob (r:Nw):Ob:=.row r.ty r.s r.n (r.ds.map C.d)
inductive Yr where
 | d (x:D)
 | own (k n:Nat)
inductive YT where
 | one (y:Yr)
 | agg (ys:List Yr)
inductive YR where
 | one (y:Yr)
 | agg (ys:List Yr)
 | tup (l:List YT)
def Yr.c (n0:Nat):Yr→C
 | .d x=>.d x
 | .own k n=>.own (n0+k) n
def YT.t (n0:Nat):YT→TC
 | .one y=>.one (y.c n0)
 | .agg ys=>.agg (ys.map (Yr.c n0))
def YR.x (n0:Nat):YR→X
 | .one y=>.one (y.c n0)
 | .agg ys=>.agg (ys.map (Yr.c n0))
 | .tup l=>.tupC (l.map (YT.t n0))
def Qq (S:EN) (w w':World) (es:List Et):EN:=fun t b=>t=false∧(S false b∨(w.heap.size≤b∧b<w'.heap.size∧∀ e∈es,e.own≠some b))
def AmL (w:World) (S:EN) (rows:List Nw) (es:List Et):Yr→Value→Prop
 | .d x,v=>Bx w S x v
 | .own k n,v=>v.oneCell'=true∧∃ e r,es[k]?=some e∧rows[k]?=some r∧r.n=n∧v=e.hv
def Aqy (w:World) (S:EN) (rows:List Nw) (es:List Et):YT→Value→Prop
 | .one y,v=>AmL w S rows es y v
 | .agg ys,v=>∃ vs:List Value,v=.agg vs.toArray∧Ba (AmL w S rows es) ys vs
def Aqz (w:World) (S:EN) (rows:List Nw) (es:List Et):YR→Value→Prop
 | .one y,v=>AmL w S rows es y v
 | .agg ys,v=>∃ vs:List Value,v=.agg vs.toArray∧Ba (AmL w S rows es) ys vs
 | .tup l,v=>∃ vs:List Value,v=.tuple vs.toArray∧Ba (Aqy w S rows es) l vs
structure AqA (w w':World) (S:EN) (rows:List Nw) (es:List Et):Prop where
 len:es.length=rows.length
 each:∀ (k:Nat) (e:Et),es[k]?=some e→∃ (r:Nw) (v:Value) (xs:List Value),rows[k]?=some r∧e=.row v r.ty r.s r.n xs∧e.at_ w' w.heap.size∧Ba (Bx w' S) r.ds xs
 apart:es.Pairwise Abg
def CVN (P:Program) (G:World→Prop) (f:FuncId) (args:List A) (rows:List Nw) (res:YR):Prop :=
 ∀ (w:World) (S:EN) (vs:List Value),G w→(∀ t b,S t b→b<w.heap.size)→Ba (Ft w S) args vs →
  Calls P f vs.toArray w fun e w'=>∃ v es,e=.returned v∧AqA w w' (Qq S w w' es) rows es∧Aqz w' (Qq S w w' es) rows es res v∧Below w.heap.size w w'
def YC (ids:List Nat) (rows:List Nw):Yr→C→Prop
 | .d x,c=>c=.d x∧DY x
 | .own k n,c=>∃ id r,ids[k]?=some id∧rows[k]?=some r∧r.n=n∧c=.own id n
inductive RVT (P:Program) (F:Frm) (H:List Ob) (ids:List Nat) (rows:List Nw):ResultVar→YT→Prop
 | tmp {t:Tmp} {y:Yr} {c:C} (hF:F t=.one c) (h:YC ids rows y c):RVT P F H ids rows (.tmp t) (.one y)
 | cell {t:Tmp} {ty ty' id:Nat} {d:TypeDesc} {cs:List C} {ys:List Yr} (hF:F t=.one (.ref id 0 none)) (hH:H[id]?=some (.box ty' cs)) (hu:P.underlying ty=some d) (hd:d.isRow=true) (hi:(P.info? ty).map (·.size)=some cs.length) (h:Ba (YC ids rows) ys cs):RVT P F H ids rows (.cell t ty) (.agg ys)
inductive AqB (P:Program) (fn:Func) (F:Frm) (H:List Ob) (ids:List Nat) (rows:List Nw):YR→Prop
 | tmp {t:Tmp} {y:Yr} {c:C} (hr:fn.results=#[.tmp t]) (hF:F t=.one c) (h:YC ids rows y c):AqB P fn F H ids rows (.one y)
 | cell {t:Tmp} {ty ty' id:Nat} {d:TypeDesc} {cs:List C} {ys:List Yr} (hr:fn.results=#[.cell t ty]) (hF:F t=.one (.ref id 0 none)) (hH:H[id]?=some (.box ty' cs)) (hu:P.underlying ty=some d) (hd:d.isRow=true) (hi:(P.info? ty).map (·.size)=some cs.length) (h:Ba (YC ids rows) ys cs):AqB P fn F H ids rows (.agg ys)
 | tup {r1 r2:ResultVar} {rs:List ResultVar} {l:List YT} (hr:fn.results.toList=r1::r2::rs) (h:Ba (RVT P F H ids rows) (r1::r2::rs) l):AqB P fn F H ids rows (.tup l)
theorem Qc {tmps:Array Value} {r:ResultVar} {v:Value} (hr:fn.results=#[r]) (h:(VH tmps r).run P w=.ok v w):(results fn tmps).run P w=.ok v w:=by
 have h1:(fn.results.mapM (VH tmps)).run P w=.ok #[v] w:=by
  rw [hr,←jq (xs:=#[r]),jr,map_eq_pure_bind,ah]
  simp [jp,ah,h]
 have hb':∀ (s:Sem (Array Value)) (k:Array Value→Sem Value),(s.bind k).run P w=(s.run P w).andThen fun a w=>(k a).run P w:=fun s k=>ah (x:=s) (f:=k) ..
 rw [Ik,hb',h1]
 rfl
theorem Vb {P:Program} {w:World} {R:YT→Value→Prop} {f:ResultVar→Sem Value}:∀ {rs:List ResultVar} {res:List YT},Ba (fun r y=>∃ v,(f r).run P w=.ok v w∧R y v) rs res→∃ vs:List Value,(rs.mapM f).run P w=.ok vs w∧Ba R res vs
 | [],res,h=>by
  rw [h.unnil]
  exact ⟨[],by simp,Ba.nil_⟩
 | r::rs,res,h=>by
  obtain ⟨y,res',rfl,⟨v,h1,h2⟩,h3⟩:=h.uncons
  obtain ⟨vs,h4,h5⟩:=Vb h3
  exact ⟨v::vs,by simp [jp,ah,h1,h4],Ba.cons_ h2 h5⟩
theorem Vc {tmps:Array Value} {R:YT→Value→Prop} {r1 r2:ResultVar} {rs:List ResultVar} {l:List YT} (hr:fn.results.toList=r1::r2::rs) (h:Ba (fun r y=>∃ v,(VH tmps r).run P w=.ok v w∧R y v) (r1::r2::rs) l):∃ vs:List Value,(results fn tmps).run P w=.ok (.tuple vs.toArray) w∧Ba R l vs:=by
 obtain ⟨vs,h1,h2⟩:=Vb h
 have h1':(fn.results.mapM (VH tmps)).run P w=.ok vs.toArray w:=by
  rw [←jq (xs:=fn.results),hr,jr,map_eq_pure_bind,ah,h1]
  rfl
 have hb':∀ (s:Sem (Array Value)) (k:Array Value→Sem Value),(s.bind k).run P w=(s.run P w).andThen fun a w=>(k a).run P w:=fun s k=>ah (x:=s) (f:=k) ..
 refine ⟨vs,?_,h2⟩
 have hl:2≤vs.length:=by rw [←h2.1,←h.1];show 2≤rs.length+2;omega
 rw [Ik,hb',h1']
 simp only [az,bq]
 match vs,hl with
 | a::b::l,_=>rfl
theorem ents {m:Mm} (ht:Tot m):∀ {ids:List Nat} {rows:List Nw},Ba (fun id (r:Nw)=>m.H[id]?=some r.ob∧∀ d∈r.ds,DY d) ids rows→∃ es:List Et,Ba (fun id e=>m.E id=some e) ids es
 | [],_,_=>⟨[],.nil_⟩
 | id::ids,rows,h=>by
  obtain ⟨r,rs,rfl,h1,h2⟩:=h.uncons
  obtain ⟨es,h3⟩:=ents ht h2
  obtain ⟨e,he⟩:=Option.isSome_iff_exists.1 (ht id r.ob h1.1 rfl)
  exact ⟨e::es,.cons_ he h3⟩
theorem AiM (h:p:=by
 exact run_loadVar_mid m'.w g 0 ty us d (fun j v hj=>by rw [Arm,cell_of_row m'.w g j us.toArray ty' (0,0) hg'];simpa using hj) hu hd (by rw [hi,hl2.1])):p:=h
theorem Ny {G:World→Prop} (hG:∀ w w',Below w.heap.size w w'→G w→G w') {f:FuncId} {fn:Func} {c:Code} {N:Nat} {args:List A} {rows:List Nw} {res:YR} (hf:P.funcs[f]?=some fn) (hb:fn.body=some c) (hN:fn.ntmps=N) (ha:args.length≤N)
  (h:CW P G N c (F0 args) [] (fun e F H=>(e=.ret∨e=.normal)∧∃ ids:List Nat,ids.Nodup∧Ba (fun id (r:Nw)=>H[id]?=some r.ob∧∀ d∈r.ds,DY d) ids rows∧AqB P fn F H ids rows res)):CVN P G f args rows res:=by
 intro w S vs hg hlt hargs
 refine calls_of_wp hf hb ?_
 refine wp_mono (h w.heap.size w ⟨S,[]⟩ _ ⟨w,S,[],fun _=>none⟩ (fun w' hb'=>hG w w' hb' hg) rfl (RF hN ha hlt hargs)) fun e a' w' ⟨F',m',hw,hs,hret⟩=>?_
 subst hw
 obtain ⟨he,ids,hnd,hids,hres⟩:=hret
 obtain ⟨es,hes⟩:=ents hs.tot hids
 have hS:∀ b,m'.S false b→Qq S w m'.w es false b:=fun b hb'=>⟨rfl,(hs.S b hb').elim .inl fun hle=>.inr ⟨hle,hs.cx.lt _ _ hb',fun e he hown=>by
  obtain ⟨k,hk⟩:=gb he
  obtain ⟨id,hid⟩:∃ id,ids[k]?=some id:=⟨_,gE (by have:=(gS.1 hk).1;have:=hes.1;omega)⟩
  exact hs.cx.far id e b false (hes.2 k id e hid hk) hown hb'⟩⟩
 have hdat:∀ {x:D} {v:Value},DY x→Bx m'.w m'.S x v→Bx m'.w (Qq S w m'.w es) x v:=fun hx hv=>Bx.free hS hv hx
 have hnew:AqA w m'.w (Qq S w m'.w es) rows es:=by
  refine ⟨by rw [←hes.1,hids.1],fun k e hk=>?_,List.pairwise_iff_getElem.2 fun i j hi hj hij=>?_⟩
  ·obtain ⟨id,hid⟩:∃ id,ids[k]?=some id:=⟨_,gE (by have:=(gS.1 hk).1;have:=hes.1;omega)⟩
   obtain ⟨r,hr,hHr,hfr⟩:=hids.at_ hid
   have hE:=hes.2 k id e hid hk
   obtain ⟨hat,ob,hob,hrel⟩:=hs.cx.each id e hE
   rw [hHr] at hob
   cases hob
   cases e with
   | box g vs t=>exact hrel.elim
   | row v' ty' s' n' xs =>
    obtain ⟨rfl,rfl,rfl,hl⟩:=hrel
    refine ⟨r,v',xs,hr,rfl,hat,⟨by rw [←hl.1,af],fun j d v hd hv=>?_⟩⟩
    exact hdat (hfr d (gM hd)) (hl.2 j (.d d) v (by rw [ag,hd];rfl) hv)
  ·have h1:=hes.1
   refine hs.cx.apart (ids[i]'(by omega)) (ids[j]'(by omega)) _ _ (List.pairwise_iff_getElem.1 hnd i j (by omega) (by omega) hij) ?_ ?_
   ·exact hes.2 i _ _ (gE _) (gE _)
   ·exact hes.2 j _ _ (gE _) (gE _)
 have hyc:∀ {y:Yr} {c:C} {v:Value},YC ids rows y c→Ep m' c v→AmL m'.w (Qq S w m'.w es) rows es y v:=fun {y c v} hy hv=>by
  cases y with
  | d x =>
   obtain ⟨rfl,hx⟩:=hy
   exact hdat hx hv
  | own k n =>
   obtain ⟨id,r,hid,hr,rfl,rfl⟩:=hy
   obtain ⟨hone,ob,hob,_,hk⟩:=hv
   have hHr:=(hids.2 k id r hid hr).1
   rw [hHr] at hob
   cases hob
   obtain ⟨e,hE,hve⟩:=hk rfl
   obtain ⟨e',he',hE'⟩:=hes.at_ hid
   rw [hE] at hE'
   cases hE'
   exact ⟨hone,e,r,he',hr,rfl,hve⟩
 have hfin:∃ v,(results fn a'.tmps).run P m'.w=.ok v m'.w∧Aqz m'.w (Qq S w m'.w es) rows es res v:=by
  cases hres with
  | @tmp t y c hr hF hy =>
   have hx:=hs.frame t
   rw [hF] at hx
   exact ⟨_,Qc hr rfl,hyc hy hx⟩
  | @cell t ty ty' id d cs ys hr hF hH hu hd hi hl =>
   have hx:=hs.frame t
   rw [hF] at hx
   obtain ⟨g,us,hv,hE,_,hg',hl2⟩:=QD hs.cx hx hH
   refine ⟨.agg us.toArray,Qc hr ?_,us,rfl,by rw [hl.1,hl2.1],fun j y u hy hu'=>?_⟩
   ·simp only [VH,hv,asAddr,ah,bq,az]
    exact AiM
   ·obtain ⟨c,hc,hyj⟩:=hl.at_ hy
    exact hyc hyj (hl2.2 j c u hc hu')
  | tup hr hq =>
   obtain ⟨vs,h1,h2⟩:=Vc (R:=Aqy m'.w (Qq S w m'.w es) rows es) (tmps:=a'.tmps) (P:=P) (w:=m'.w) hr (hq.imp fun r y hry=>by
    cases hry with
    | @tmp t y c hF hy =>
     have hx:=hs.frame t
     rw [hF] at hx
     exact ⟨_,rfl,hyc hy hx⟩
    | @cell t ty ty' id d cs ys hF hH hu hd hi hl =>
     have hx:=hs.frame t
     rw [hF] at hx
     obtain ⟨g,us,hv,hE,_,hg',hl2⟩:=QD hs.cx hx hH
     refine ⟨.agg us.toArray,?_,us,rfl,by rw [hl.1,hl2.1],fun j y u hy hu'=>?_⟩
     ·simp only [VH,hv,asAddr,ah,bq,az]
      exact AiM
     ·obtain ⟨c,hc,hyj⟩:=hl.at_ hy
      exact hyc hyj (hl2.2 j c u hc hu'))
   exact ⟨_,h1,vs,rfl,h2⟩
 obtain ⟨v,hrun,hv⟩:=hfin
 rcases he with rfl|rfl
 ·exact ⟨hs.defers,v,hrun,v,es,rfl,hnew,hv,hs.below⟩
 ·exact ⟨hs.defers,v,hrun,v,es,rfl,hnew,hv,hs.below⟩
section
variable {P:Program} {G:World→Prop} {o:Oper} {F:Frm} {H:List Ob}
theorem FN {c:Code} (ho:o.op=.call { callee:=.value (.func f),args:=xs,argTypes:=ts })
  (hf : P.funcs[f]? = some fn) (hn : (fn.name == "runtime.NumGoroutine") = false) (hb : fn.body = some c) {args : List A} {rows : List Nw} {res : YR} (h : CVN P G f args rows res) (ha : Ba (fun x y => LW true H (F.ev x) y) xs.toList args) :
  AZ P G o F H (res.x H.length) (rows.map Nw.ob):=by
 intro b0 m a hp hx hg hb0 hE hor K Q hK
 have hp0:H <+: m.H:=(jo _ _).trans hp
 have hxs:∀ x∈xs.toList,FU m (F.ev x) (a.eval x):=fun x hm=>Bc hor (by
  rw [ho]
  simp only [Op.operands,Call.operands,iu,iv]
  exact .inr hm)
 let Sx:EN:=fun t b=>m.S t b∨(t=true∧∃ id e,m.E id=some e∧e.own=some b)
 have hcalls:=h m.w Sx (xs.toList.map a.eval) hg (fun t b hb=>by
  rcases hb with hb|⟨_,id,e,he,hown⟩
  ·exact hx.lt t b hb
  ·exact (Et.lt (hx.each id e he).1 hown).2) ⟨by rw [af];exact ha.1.symm,fun j y v hy hv=>by
   simp only [ag,dj] at hv
   obtain ⟨x,hxj,rfl⟩:=hv
   exact LW.rel hx (fun b hb=>.inl hb) (fun _ b hb=>.inl hb) (fun id e g he hg=>.inr ⟨rfl,id,e,he,hg⟩) ((ha.2 j x y hxj hy).pre hp0) (hxs x (gM hxj))⟩
 unfold Oper.wp execOp
 simp only [ho,resolve,Act.eval,Deferred.ofValue,ah,bq,az,invoke]
 rw [Ff hf hn hb]
 rw [gx]
 have he:((#[]:Array Value)++xs.map a.eval++#[])=(xs.toList.map a.eval).toArray:=fy (by simp)
 simp only [he]
 refine hcalls.mono fun e w' ⟨v,es,hev,hnew,hres,hbel⟩=>?_
 subst hev
 have hS:∀ t b,Qq Sx m.w w' es t b→(m.plus w' H.length es).S t b:=fun t b hb=>by
  obtain ⟨rfl,h1|h1⟩:=hb
  ·rcases h1 with h1|⟨h1,_⟩
   ·exact .inl h1
   ·cases h1
  ·exact .inr ⟨rfl,h1.1,h1.2.1,h1.2.2⟩
 have hobs:∀ (k:Nat) (r:Nw),rows[k]?=some r→m.H[H.length+k]?=some r.ob:=fun k r hk=>getElem?_pre hp (by
  rw [dw (by omega),show H.length+k - H.length=k by omega,ag,hk]
  rfl)
 have hEe:∀ (k:Nat) (e:Et),es[k]?=some e→(m.plus w' H.length es).E (H.length+k)=some e:=fun k e hk=>by
  have hlt:=(gS.1 hk).1
  show (if H.length≤H.length+k∧H.length+k<H.length+es.length then es[H.length+k - H.length]? else _)=some _
  rw [if_pos ⟨by omega,by omega⟩,show H.length+k - H.length=k by omega]
  exact hk
 have hyr:∀ {y:Yr} {u:Value},AmL w' (Qq Sx m.w w' es) rows es y u→Ep (m.plus w' H.length es) (y.c H.length) u:=fun {y u} hy=>by
  cases y with
  | d x=>exact Bx.mono hS (fun _ _ _=>rfl) hy
  | own k n =>
   obtain ⟨hone,e,r,he,hr,rfl,rfl⟩:=hy
   exact ⟨hone,_,hobs k r hr,(fun n1 n2 h1 h2=>by cases h1;cases h2;exact aa _),fun _=>⟨_,hEe k e he,rfl⟩⟩
 refine hK v w' es ⟨by rw [hnew.len,af],hbel,fun k e hk=>?_,hnew.apart⟩ ?_
 ·obtain ⟨r,v',xs',hr,rfl,hat,hl⟩:=hnew.each k e hk
  refine ⟨⟨hat.1,hat.2.imp id fun ⟨g,cap,cur,e,hb,r⟩=>⟨g,cap,cur,e,lT hb0 hb,r⟩⟩,fun g hg'=>(Et.lt hat hg').1,r.ob,by rw [ag,hr];rfl,rfl,rfl,rfl,⟨by rw [af];exact hl.1,fun j c u hc hu=>?_⟩⟩
  rw [ag,dj] at hc
  obtain ⟨d,hd,rfl⟩:=hc
  exact Bx.mono hS (fun _ _ _=>rfl) (hl.2 j d u hd hu)
 ·cases res with
  | one y=>exact hyr hres
  | agg ys =>
   obtain ⟨us,rfl,hl⟩:=hres
   exact ⟨us,rfl,by rw [af];exact hl.1,fun j c u hc hu=>by
    rw [ag,dj] at hc
    obtain ⟨y,hy,rfl⟩:=hc
    exact hyr (hl.2 j y u hy hu)⟩
  | tup l =>
   obtain ⟨us,rfl,hl⟩:=hres
   exact ⟨us,rfl,by rw [af];exact hl.1,fun j c u hc hu=>by
    rw [ag,dj] at hc
    obtain ⟨y,hy,rfl⟩:=hc
    have h1:=hl.2 j y u hy hu
    cases y with
    | one y=>exact hyr h1
    | agg ys =>
     obtain ⟨xs,rfl,h2⟩:=h1
     exact ⟨xs,rfl,by rw [af];exact h2.1,fun j c u hc hu=>by
      rw [ag,dj] at hc
      obtain ⟨y,hy,rfl⟩:=hc
      exact hyr (h2.2 j y u hy hu)⟩⟩
def TC.x:TC→X
 | .one c=>.one c
 | .agg cs=>.agg cs
theorem Aeg {x:Operand} {i:Nat} {l:List TC} {y:TC} (ho:o.op=.extract x i) (hx:F.ev x=.tupC l) (hy:l[i]?=some y):AZ P G o F H y.x []:=Ce fun b0 m a _ _ hor=>by
 have hv:=Bc hor (x:=x) (by rw [ho];simp [Op.operands])
 rw [hx] at hv
 obtain ⟨vs,hv,hl⟩:=hv
 obtain ⟨u,hu,hr⟩:=hl.at_ hy
 refine ⟨u,?_,?_⟩
 ·unfold execOp
  simp [ho,hv,Instr.extract,hu]
 ·cases y <;> exact hr
theorem Aeh {x:Operand} {l:List TC} (ho:o.op=.move x) (hx:F.ev x=.tupC l):AZ P G o F H (.tupC l) []:=by rw [←hx];exact VK ho
theorem Aei {c:Code} {args:List A} {ty:TypeId} {ds:List D} (ho:o.op=.call { callee:=.value (.func f),args:=xs,argTypes:=ts })
  (hf : P.funcs[f]? = some fn) (hn : (fn.name == "runtime.NumGoroutine") = false) (hb : fn.body = some c) (h : CVN P G f args [⟨ty, s, n, ds⟩] (.one (.own 0 n))) (ha : Ba (fun x y => LW true H (F.ev x) y) xs.toList args) :
  AZ P G o F H (.one (.own H.length n)) [.row ty s n (ds.map C.d)]:=FN ho hf hn hb h ha
theorem Aej {c:Code} {args:List A} {ty ty' ty2:TypeId} {s' s2 n' n2:Nat} {ds ds' ds2:List D} (ho:o.op=.call { callee:=.value (.func f),args:=xs,argTypes:=ts })
  (hf : P.funcs[f]? = some fn) (hn : (fn.name == "runtime.NumGoroutine") = false) (hb : fn.body = some c) (h : CVN P G f args [⟨ty, s, n, ds⟩, ⟨ty', s', n', ds'⟩, ⟨ty2, s2, n2, ds2⟩] (.agg [.own 0 n, .own 1 n', .own 2 n2])) (ha : Ba (fun x y => LW true H (F.ev x) y) xs.toList args) :
  AZ P G o F H (.agg [.own H.length n,.own (H.length+1) n',.own (H.length+2) n2]) [.row ty s n (ds.map C.d),.row ty' s' n' (ds'.map C.d),.row ty2 s2 n2 (ds2.map C.d)]:=FN ho hf hn hb h ha
theorem Jl {ops:Array Oper} {l:List Oper} {K:Frm→List Ob→Prop} {d:Tmp} {xx:X} {obs:List Ob} (h:AZ P G o F H xx obs) (k:Ti P G ops l (F.put (some d) xx) (H++obs) K) (hg:o.guard=none:=by with_unfolding_all exact rfl) (hd:o.dst=some d:=by with_unfolding_all exact rfl):Ti P G ops (o::l) F H K:=by
 refine Anm hg h ?_
 rw [congrArg (fun q=>F.put q xx) hd]
 exact k
def D.pl:D→Bool
 | .val _=>true
 | _=>false
def A.pl:A→Bool
 | .one d=>d.pl
 | .agg ds=>ds.all D.pl
theorem Aek {w':World} {S':EN} {d:D} {v:Value} (hd:d.pl=true) (h:Bx w S d v):Bx w' S' d v:=by
 cases h with
 | val hv=>exact .val hv
 | row=>cases hd
 | ptr=>cases hd
theorem Ael {S':EN} {x:A} {v:Value} (hd:x.pl=true) (h:Ft w S x v):Ft w S' x v:=by
 cases x with
 | one d=>exact Aek hd h
 | agg ds =>
  obtain ⟨xs,h1,h2⟩:=h
  exact ⟨xs,h1,h2.1,fun j d u hj hu=>Aek (List.all_eq_true.1 hd d (gM hj)) (h2.2 j d u hj hu)⟩
theorem IG {c:Code} (ho:o.op=.call { callee:=.value (.func f),args:=xs,argTypes:=ts })
  (hf : P.funcs[f]? = some fn) (hn : (fn.name == "runtime.NumGoroutine") = false) (hb : fn.body = some c) {args res : List A} (hpl : res.all A.pl = true) (h : CV P G f args res) (ha : Ba (fun x y => ∃ t, LW t H (F.ev x) y) xs.toList args) :
  AZ P G o F H (Akq res) []:=by
 intro b0 m a hp hx hg hb0 _ hor K Q hK
 rw [bc] at hp
 have hxs:∀ x∈xs.toList,FU m (F.ev x) (a.eval x):=fun x hm=>Bc hor (by
  rw [ho]
  simp only [Op.operands,Call.operands,iu,iv]
  exact .inr hm)
 let Sx:EN:=fun t b=>m.S t b∨(∃ id e,m.E id=some e∧e.own=some b)
 have hcalls:=h m.w Sx (xs.toList.map a.eval) hg (fun t b hb=>by
  rcases hb with hb|⟨id,e,he,hown⟩
  ·exact hx.lt t b hb
  ·exact (Et.lt (hx.each id e he).1 hown).2) ⟨by rw [af];exact ha.1.symm,fun j y v hy hv=>by
   simp only [ag,dj] at hv
   obtain ⟨x,hxj,rfl⟩:=hv
   obtain ⟨_,hxe⟩:=ha.2 j x y hxj hy
   exact LW.rel hx (fun b hb=>.inl hb) (fun _ b hb=>.inl hb) (fun id e g he hg=>.inr ⟨id,e,he,hg⟩) (hxe.pre hp) (hxs x (gM hxj))⟩
 unfold Oper.wp execOp
 simp only [ho,resolve,Act.eval,Deferred.ofValue,ah,bq,az,invoke]
 rw [Ff hf hn hb]
 rw [gx]
 have he:((#[]:Array Value)++xs.map a.eval++#[])=(xs.toList.map a.eval).toArray:=fy (by simp)
 simp only [he]
 refine hcalls.mono fun e w' ⟨v,hev,hres,hbel⟩=>?_
 subst hev
 refine hK v w' [] ⟨rfl,hbel,fun k e hk=>by simp at hk,List.Pairwise.nil⟩ (RE ?_)
 have hall:∀ y∈res,y.pl=true:=List.all_eq_true.1 hpl
 have hl:∀ {l:List A} {vs:List Value},(∀ y∈l,y.pl=true)→Ba (Ft w' (Akj Sx m.w w')) l vs→Ba (Ft w' (m.plus w' H.length []).S) l vs:=fun hl h=>⟨h.1,fun j y u hy hu=>Ael (hl y (gM hy)) (h.2 j y u hy hu)⟩
 match res,hres,hall with
 | [],hres,ha=>obtain ⟨vs,h1,h2⟩:=hres;exact ⟨vs,h1,hl ha h2⟩
 | [x],hres,ha=>exact Ael (ha x (by simp)) hres
 | x::y::l,hres,ha=>obtain ⟨vs,h1,h2⟩:=hres;exact ⟨vs,h1,hl ha h2⟩
end
theorem YH {N:Nat} {F:Frm} {cs cs':List C} (id:Nat) (hH:H[id]?=some (.row ty s n cs)) (hc:∀ (m:Mm) (xs:List Value),Ba (Ep m) cs xs→Ba (Ep m) cs' xs):Wk N F H F (H.set id (.row ty s n cs')):=fun b0 w0 S0 a m hm hs=>by
 subst hm
 have hlt:=(gS.1 hH).1
 let m':Mm:={ m with H:=m.H.set id (.row ty s n cs') }
 have hH':∀ i (ob:Ob),m.H[i]?=some ob→∃ ob',m'.H[i]?=some ob'∧ob'.k=ob.k∧(i≠id→ob'=ob):=fun i ob hob=>by
  by_cases h:id=i
  ·subst h
   rw [hH] at hob
   cases hob
   exact ⟨_,gy hlt,rfl,fun h=>absurd rfl h⟩
  ·exact ⟨ob,by show (m.H.set id _)[i]?=_;rw [jt h];exact hob,rfl,fun _=>rfl⟩
 have hle:Le m m':=⟨fun _ _ h=>h,rfl,fun _ _ _=>rfl,fun i ob hob=>by
  obtain ⟨ob',h1,h2,_⟩:=hH' i ob hob
  exact ⟨ob',h1,fun k hk=>.inl ⟨by rw [←h2];exact hk,fun x hx=>⟨x,hx,rfl⟩⟩⟩⟩
 refine ⟨m',rfl,rfl,⟨⟨fun i x hx=>?_,hs.cx.apart,hs.cx.far,hs.cx.lt⟩,fun i ob hob hk=>?_,fun t'=>(hs.frame t').le hle,hs.size,hs.defers,hs.below,hs.base,hs.S,hs.T⟩⟩
 ·obtain ⟨h1,ob,h2,h3⟩:=hs.cx.each i x hx
  obtain ⟨ob',h4,_,h5⟩:=hH' i ob h2
  refine ⟨h1,ob',h4,?_⟩
  by_cases h:i=id
  ·subst h
   rw [hH] at h2
   cases h2
   have h4':(m.H.set i (.row ty s n cs'))[i]?=some ob':=h4
   rw [gy hlt] at h4'
   cases h4'
   cases x with
   | box g vs t=>exact h3.elim
   | row v t' s' n' xs =>
    obtain ⟨e1,e2,e3,hl⟩:=h3
    exact ⟨e1,e2,e3,(hc m xs hl).imp fun _ _=>Ep.le hle⟩
  ·rw [h5 h]
   exact h3.le hle
 ·by_cases h:id=i
  ·subst h
   exact hs.tot id _ hH rfl
  ·have h2:(m.H.set id (.row ty s n cs'))[i]?=some ob:=hob
   rw [jt h] at h2
   exact hs.tot i ob h2 hk
theorem WE {m:Mm}:∀ {n:Nat} {xs:List Value},Ba (Ep m) (cVs (List.replicate n none)) xs→Ba (Ep m) (cVs ((List.replicate n ((0,0):Pq)).map some)) xs
 | 0,xs,h=>h
 | n+1,xs,h=>by
  have h:Ba (Ep m) (cV none++cVs (List.replicate n none)) xs:=h
  obtain ⟨a,x1,rfl,h1,q1⟩:=h.uncons
  obtain ⟨b,x2,rfl,h2,q2⟩:=q1.uncons
  obtain ⟨c,x3,rfl,h3,q3⟩:=q2.uncons
  show Ba (Ep m) ((dyP (0,0)).map C.d++cVs ((List.replicate n ((0,0):Pq)).map some)) (a::b::c::x3)
  rw [show dyP (0,0)=[.val (.bool false),.row false 1 0 [],.val (.int .i64 0)] from zdy.symm]
  exact .cons_ h1 (.cons_ (ArX (w:=m.w) (S:=m.S) h2) (.cons_ h3 (WE q3)))
theorem YI (E:List Pq):cVs (E.map some)=(An dyP E).map C.d:=by
 rw [ArW,dp]
 rfl
theorem Amn (E:List Pq):gV (E.map some)=E:=by
 unfold gV
 rw [dp]
 exact (fc fun _ _=>rfl).trans (List.map_id E)
theorem Tb {t:Bool} {c:C} {y:D} {l:List Pq} (hc:c=.own id n) (hH:H[id]?=some (.row ty 3 n (cVs (l.map some)))) (hy:y=.row t 3 n (An dyP l)):FB t H c y:=AlF hc hH (by rw [Amn];exact hy)
theorem Amo (xs:List Int):cI xs=(xs.map dI).map C.d:=by simp [cI,dI]
theorem Di (l:List Int):∀ d∈l.map dI,DY d:=fun d hd=>by
 obtain ⟨z,_,rfl⟩:=List.mem_map.1 hd
 exact .val _
theorem Ej (l:List Pq):∀ d∈An dyP l,DY d:=fun d hd=>BV (f:=dyP) (fun p=>Nj _ _) l d hd
theorem WF {t:Bool} {c:C} {y:D} {l:List Int} (hc:c=.own id n) (hH:H[id]?=some (.row ty 1 n (cI l))) (hy:y=.row t 1 n (l.map dI)):FB t H c y:=by
 refine Dc hc hH hy ?_
 rw [Amo]
 exact Ba.map_l.2 ⟨rfl,fun j a b ha hb=>by
  rw [ha] at hb
  cases hb
  exact .d fun _=>Di l a (gM ha)⟩
theorem Fe {t:Bool} {cs:List C} {ds:List D} (hc:cs=ds.map C.d) (h:∀ d∈ds,DY d):Ba (FB t H) cs ds:=by
 subst hc
 exact Ba.map_l.2 ⟨rfl,fun j a b ha hb=>by rw [ha] at hb;cases hb;exact .d fun _=>h _ (gM ha)⟩
theorem IH {F:Frm} {ids:List Nat} {rows:List Nw} {t:Tmp} {ty' k:Nat} {cs:List C} {ys:List Yr} (hk:TyK P ty true k) (hF:F t=.one (.ref id 0 none)) (hH:H[id]?=some (.box ty' cs)) (hi:cs.length=k) (h:Ba (YC ids rows) ys cs):RVT P F H ids rows (.cell t ty) (.agg ys):=by
 obtain ⟨⟨d,hu,hd⟩,hz⟩:=hk
 exact .cell hF hH hu hd (by rw [hz,hi]) h
theorem AgR {k:Int} {x:Pq} (h:¬ Gf (pw k) x<0):NT n k x=k:=by
 cases n with
 | zero=>rfl
 | succ n=>unfold NT;rw [if_neg h]
theorem Qd {α:Type} {l:List α} {j:Nat} {i:α} (h:l[j]?=some i):l.drop j=i::l.drop (j+1):=by
 obtain ⟨hlt,he⟩:=gS.1 h
 rw [←he,←dz hlt]
def Vd (F:List Int) (k:Nat):List Int:=Tm (F.take k)++F.drop k
theorem YJ (F:List Int) (k:Nat):(Vd F k).length=F.length:=by
 unfold Vd Tm
 rw [ao,af,←ao,ii]
theorem Aem {k:Nat} {f:Int} (h:F[k]?=some f):(Vd F k)[k]?=some f∧(Vd F k).set k (AiJ f)=Vd F (k+1)∧Va (F.take (k+1))=(Va (F.take k) || decide (0<f)):=by
 have hk:=(gS.1 h).1
 have hl:(Tm (F.take k)).length=k:=by unfold Tm;rw [af,em];omega
 have e:F.take (k+1)=F.take k++[f]:=by rw [bh,h];rfl
 refine ⟨?_,?_,?_⟩
 ·unfold Vd
  rw [dw (by omega),hl,et,bt,ce]
  exact h
 ·unfold Vd
  rw [List.set_append_right _ _ (by omega),hl,et,Qd h,e]
  unfold Tm
  rw [gc,List.append_assoc]
  rfl
 ·rw [e]
  unfold Va
  rw [List.any_append]
  simp
def chW (n:Nat) (b:Bool) (F:List Int):List Nw:=if b=true then [⟨3,1,n,F.map dI⟩] else []
def chY (n:Nat) (b:Bool):YR:=if b=true then .tup [.one (.own 0 n),.one (.d (.val (Rs 0)))] else .tup [.one (.d (.val (.slice none 0 0))),.one (.d (.val (Rs 4)))]
def erW (n:Nat):Option (List Pq)→List Nw
 | none=>[]
 | some E=>[⟨43,3,n,An dyP E⟩]
def erY (n:Nat):Option (List Pq)→YR
 | none=>.tup [.one (.d (.val (.slice none 0 0))),.one (.d (.val (.bool false)))]
 | some _=>.tup [.one (.own 0 n),.one (.d (.val (.bool true)))]
def mkW (n:Nat):Option Ct→List Nw
 | none=>[]
 | some c=>[⟨3,1,n,c.F.map dI⟩,⟨43,3,n,An dyP c.E⟩]
def mkY (n:Nat):Option Ct→YR
 | none=>.tup [.agg [.d (.val (.slice none 0 0)),.d (.val (.slice none 0 0)),.d (.val (.slice none 0 0))],.one (.d (.val (.bool false))),.one (.d (.val (Rs 0)))]
 | some c=>.tup [.agg [.own 0 n,.d (.row false 6 n (An (dIw false) c.R)),.own 1 n],.one (.d (.val (.bool true))),.one (.d (.val (Rs 0)))]
theorem Aah (x:Pq) (sx:Sm x 40064 62):CV prog Ah 92 [aDy false x.1 x.2] [aDy false (Tl x).1 (Tl x).2]:=by
 refine cvz func92 ntmps92 ?_
 have U0:=PQ 62 (by decide) (by decide)
 repeat' (with_reducible first|refine qq ?_|(refine Tx 0 ?_;refine gN xBo <| gN (xAl Aj) ?_)|(refine Tx 1 ?_;refine gO (xCl func134 (U0)) <| gN (xAl Aj) <| gZ (xSk Aa) ?_))
 refine AJ (Be 3) (Al (fun n Fr H=>∃ k:Int,-62≤k∧k≤40064∧40064≤k+n∧NT n k x=NT 50000 (-62) x∧Fr=ofL [(1,vr 0),(2,vr 1),(3,vr 2)]∧H=[.box 43 ((dyP x).map C.d),.box 43 [.d (.val (.bool false)),.d (.val (.slice none 0 0)),.d (.val (.int .i64 0))],.box 43 ((dyP (pw k)).map C.d)]) (n0:=50000) ⟨-62,by decide,by decide,by decide,rfl,rfl,rfl⟩ ?_)
 rintro n Fr H ⟨k,k0,k1,kn,hres,rfl,rfl⟩
 have sp:=ME k0 k1
 have st:=YG sx k0 k1
 have nx:=fun h=>Amk (k:=k) k0 h
 have hstop:=AgR (n:=n) (k:=k) (x:=x)
 have CM:=Ck (pw k).1 (pw k).2 x.1 x.2 sp.ok sx.ok sp.lz sx.lz
 have SH:=BW (pw k).1 (pw k).2 1 sp.ok sp.lz (by have:=sp.d;omega)
 have hqe:Gf (pw k) x=Bm (pw k).1 (pw k).2 x.1 x.2:=rfl
 by_cases hc:Gf (pw k) x<0
 case pos =>
  have k2:=st hc
  rw [show Af (pw k).1 (pw k).2 1=pw (k+1) from nx (by omega)] at SH
  cases n
  case zero=>omega
  rename_i n
  rw [show NT (n+1) k x=NT n (k+1) x by rw [NT,if_pos hc]] at hres
  rw [hqe] at hc
  clear st nx hstop hqe sp
  generalize Bm (pw k).1 (pw k).2 x.1 x.2=q at *
  generalize pw k=p at *
  repeat' (with_reducible first|refine qq ?_|(refine Tx 2 ?_;refine gO xL <| gO xL <| gO (xCl func9 (CM)) <| gO xLt ?_)|(refine Tx 3 ?_;refine gO xL <| gO (xCl func27 (SH)) <| gZ (xSk Aa) ?_))
  refine ⟨_,_,Be 3,_,?_,k+1,by omega,by omega,by omega,hres,rfl,rfl⟩
  ·omega
 rw [show Tl x=pw k by unfold Tl;rw [←hres,hstop hc]]
 rw [hqe] at hc
 clear st nx hstop hqe sp SH
 generalize Bm (pw k).1 (pw k).2 x.1 x.2=q at *
 generalize pw k=p at *
 repeat' (with_reducible first|refine qq ?_|(refine Tx 2 ?_;refine gO xL <| gO xL <| gO (xCl func9 (CM)) <| gO xLt ?_)|(refine Tx 4 ?_;refine gO xL <| gZ (xSk Aa) ?_))
 exact DR
theorem ArY (a:Iq) (f m:Int) (h:IwS a LB LB) (f0:0≤f) (f1:f≤30) (m0:0≤m) (m1:m≤2147483647):CV prog Ah 88 [aIw false a,aI f,aI m] [aB (wiB a f m)]:=by
 refine cvz func88 ntmps88 ?_
 have MG:=Mu a (h.more LBx LBx)
 have sg:=Lc h
 obtain ⟨M,hM⟩:∃ M,Fu a=M:=⟨_,rfl⟩
 rw [hM] at MG sg
 have SH:=BW M.1 M.2 f sg.ok sg.lz (by have:=sg.ok.1;omega)
 have st:=Fq sg f0 f1
 obtain ⟨T,hT⟩:∃ T,GN M f=T:=⟨_,rfl⟩
 rw [hT] at st
 rw [show Af M.1 M.2 f=T from hT] at SH
 have OF:=FS m (by omega) (by omega)
 have CM:=Ck T.1 T.2 m 0 st.ok ⟨by decide,fun h=>absurd rfl h⟩ st.lz (lT (Aw (k:=2) (by omega)) (by decide))
 rw [show wiB a f m=decide (Bm T.1 T.2 m 0≤0) by unfold wiB;rw [hM,hT]]
 generalize Bm T.1 T.2 m 0=q at *
 repeat' (with_reducible first|refine qq ?_|(refine Tx 0 ?_;refine gN xBo <| gO xA ?_)|(refine Tx 1 ?_;refine gO xL <| gO (xCl func151 (MG)) <| gO xM <| gO (xCl func27 (SH)) <| gO xM <| gO (xCl func123 (OF)) <| gO (xCl func9 (CM)) <| gO xLe <| gO xA ?_))
 exact Df
theorem AgS (t:Bool) {ps:List Prt} {bs:List Bk} {os:List Int} (hl:Dx ps bs os) (h0:AY ps bs os=0) (R:List Iq) (hR:R.length=bs.length) (sR:∀ p∈R,IwS p LB LB):CV prog Ah 87 [aDg t ps bs os,.one (.row false 6 R.length (An (dIw false) R))] [aE 0]:=by
 refine cvz func87 ntmps87 ?_
 have CK:=(Mp t hl (ps:=ps) (bs:=bs) (os:=os)).cv
 rw [h0] at CK
 have hn:=hl.l2
 repeat' (with_reducible first|refine qq ?_|(refine Tx 0 ?_;refine gN xBo <| gO xA ?_)|(refine Tx 1 ?_;refine gO xL <| gO (xCl func22 (CK)) <| gO xA ?_)|(refine Tx 2 ?_;refine gO xM <| gO (xNE Am) ?_)|(refine Tx 4 ?_;refine gO xM <| gO xN <| gO xF <| gO xD <| gO xN <| gO xNe ?_)|(refine Tx 6 ?_;refine gO xM <| gO xN <| gO xM ?_))
 refine AJ (Be 1) (Al (fun n Fr H=>∃ k:Nat,k≤R.length∧n=R.length - k∧Fr=ofL [(2,vr 0),(20,vd (.row false 6 R.length (An (dIw false) R))),(21,vi R.length),(22,vi ((k:Nat)))]∧H=[.box 26 [.d (CY t ps),.d (Cw t bs),.d (AU t os)]]) (n0:=R.length) ⟨0,ad _,rfl,rfl,rfl⟩ ?_)
 rintro n Fr H ⟨k,hk,rfl,rfl,rfl⟩
 by_cases hlt:k<R.length
 case pos =>
  obtain ⟨b,hb⟩:∃ b,R[k]?=some b:=⟨_,gE hlt⟩
  have sb:=sR b (gM hb)
  have VI:CV prog Ah 57 [aIw false b] [aB true]:=by
   have:=Iz (DU b.1) (DU b.2) (Gi sb.s1 (by decide)) (Gi sb.s2 (by decide))
   rw [ZU sb] at this
   have e:dIr false (DU b.1,DU b.2)=dIw false b:=by show dRv false (DU b.1)++dRv false (DU b.2)=_;rw [Fo,Fo];rfl
   rw [e] at this
   exact this
  repeat' (with_reducible first|refine qq ?_|(refine Tx 7 ?_;refine gO xLt ?_)|(refine Tx 8 ?_;refine gO (xIr Ad (Cu hb)) <| gO xL <| gN (xAl Ai) <| gZ (xSk Ab) ?_)|(refine Tx 9 ?_;refine gO xL <| gO (xCl func57 (VI)) <| gO Gm ?_)|(refine Tx 11 ?_;refine gO xAd <| gO xM ?_))
  refine ⟨_,_,Be 1,_,by omega,k+1,by omega,rfl,rfl,rfl⟩
 obtain rfl:k=R.length:=by omega
 repeat' (with_reducible first|refine qq ?_|(refine Tx 7 ?_;refine gO xLt ?_)|(refine Tx 12 ?_;refine gO xA ?_))
 exact Au rfl (.cons_ (Hc rfl rfl) .nil_)
theorem Aai (t:Bool) {ps:List Prt} {bs:List Bk} {os:List Int} (hl:Dx ps bs os) (h0:AY ps bs os=0) (R:List Iq) (hR:R.length=bs.length) (sR:∀ p∈R,IwS p LB LB):CVN prog Ah 39 [aDg t ps bs os,.one (.row false 6 R.length (An (dIw false) R))] (chW R.length (R.all pkB) (R.map pkS)) (chY R.length (R.all pkB)):=by
 refine Ny NL func39 rfl ntmps39 (ax rfl) ?_
 have GC:=AgS t hl h0 R hR sR
 have hn:=hl.l2
 repeat' (with_reducible first|refine qq ?_|(refine Tx 0 ?_;refine gN xBo <| gO xA <| gO xA ?_)|(refine Tx 1 ?_;refine gO xL <| gO xM <| gO (xCl func87 (GC)) <| gO xA ?_)|(refine Tx 2 ?_;refine gO xM <| gO (xNE Am) ?_)|(refine Tx 4 ?_;refine gO xA ?_))
 refine AJ (Fh 7 3 1 rfl) ?_
 repeat' (with_reducible first|refine qq ?_|(refine Tx 5 ?_;refine gO xM <| gO xN <| gO xM ?_))
 refine AJ (Be 2) (Al (fun n Fr H=>∃ k:Nat,k≤R.length∧n=R.length - k∧(∀ p∈R.take k,pkB p=true)∧Fr=ofL [(2,vr 0),(7,vo 1 (k)),(17,vd (.row false 6 R.length (An (dIw false) R))),(18,vi R.length),(19,vi ((k:Nat)))]∧H=[.box 26 [.d (CY t ps),.d (Cw t bs),.d (AU t os)],.row 3 1 (k) (cI ((R.map pkS).take (k)))]) (n0:=R.length) ⟨0,ad _,rfl,(fun p hp=>by simp at hp),rfl,rfl⟩ ?_)
 rintro n Fr H ⟨k,hk,rfl,hal,rfl,rfl⟩
 by_cases hlt:k<R.length
 case pos =>
  obtain ⟨b,hb⟩:∃ b,R[k]?=some b:=⟨_,gE hlt⟩
  have sb:=sR b (gM hb)
  repeat' (with_reducible first|refine qq ?_|(refine Tx 6 ?_;refine gO xLt ?_)|(refine Tx 7 ?_;refine gO (xIr Ad (Cu hb)) <| gO xL <| gN (xAl Ai) <| gZ (xSk Ab) ?_)|(refine Tx 8 ?_;refine gO xA ?_))
  refine AJ (Be 3) (Al (fun n Fr H=>n≤31∧pkF b n=pkS b∧Fr=ofL [(2,vr 0),(7,vo 1 (k)),(17,vd (.row false 6 R.length (An (dIw false) R))),(18,vi R.length),(19,vi ((k:Nat))),(9,vr 2),(10,vi (((n:Nat):Int) - 1))]∧H=[.box 26 [.d (CY t ps),.d (Cw t bs),.d (AU t os)],.row 3 1 (k) (cI ((R.map pkS).take (k))),.box 45 ((dIw false b).map C.d)]) (n0:=31) ⟨aa _,rfl,rfl,rfl⟩ ?_)
  rintro n Fr H ⟨hn31,hpk,rfl,rfl⟩
  cases n
  case zero =>
   have hpk:(-1:Int)=pkS b:=hpk
   have hnb:R.all pkB=false:=AdM hb (decide_eq_false (by omega))
   rw [show chW R.length (R.all pkB) (R.map pkS)=[] by rw [hnb];rfl,show chY R.length (R.all pkB)=.tup [.one (.d (.val (.slice none 0 0))),.one (.d (.val (Rs 4)))] by rw [hnb];rfl]
   repeat' (with_reducible first|refine qq ?_|(refine Tx 9 ?_;refine gO xM <| gO xGe <| gO xM ?_;(first|iterate 2 refine Jd ?_|(refine Jy (xLa Ab) ?_;refine Jy xM1 ?_));refine Jd ?_;(first|refine Jd ?_|refine Jy Gm ?_);refine gO xPk ?_)|(refine Tx 11 ?_;refine gO xM <| gO xLt ?_)|(refine Tx 12 ?_;refine gO (xMi underlying85) <| gO xA <| gO xA ?_))
   exact ⟨.inl rfl,[],by decide,.nil_,.tup (congrArg Array.toList results39) (.cons_ (.tmp rfl ⟨rfl,.val _⟩) (.cons_ (.tmp rfl ⟨rfl,.val _⟩) .nil_))⟩
  rename_i n
  have WI:=ArY b ((n+1:Nat) - 1:Int) 1073741824 sb (by omega) (by omega) (by decide) (by decide)
  have hpk:(if wiB b (n:Int) 1073741824=true then (n:Int) else pkF b n)=pkS b:=hpk
  have hne:(((n+1:Nat):Int) - 1)=(n:Int):=by omega
  rw [hne] at WI
  cases hw:wiB b (n:Int) 1073741824
  case false =>
   rw [hw] at WI hpk
   rw [if_neg (by decide)] at hpk
   rw [hne]
   repeat' (with_reducible first|refine qq ?_|(refine Tx 9 ?_;refine gO xM <| gO xGe <| gO xM ?_;(first|iterate 4 refine Jd ?_|(refine Jy (xLa Ab) ?_;refine Jy xM1 ?_;refine Jy (xCl func88 (WI)) ?_;refine Jy Gm ?_));refine gO xPk ?_)|(refine Tx 10 ?_;refine gO xM <| gO xSb <| gO xA ?_))
   refine ⟨_,_,Be 3,n,by omega,by omega,hpk,rfl,rfl⟩
  rw [hw] at WI hpk
  rw [if_pos rfl] at hpk
  have hpb:pkB b=true:=decide_eq_true (by omega)
  have hmp:(R.map pkS)[k]?=some (n:Int):=by rw [ag,hb,hpk];rfl
  have hap:((R.map pkS).take (k))++[(n:Int)]=((R.map pkS).take (k+1)):=by rw [bh,hmp];rfl
  rw [hne]
  repeat' (with_reducible first|refine qq ?_|(refine Tx 9 ?_;refine gO xM <| gO xGe <| gO xM ?_;(first|iterate 4 refine Jd ?_|(refine Jy (xLa Ab) ?_;refine Jy xM1 ?_;refine Jy (xCl func88 (WI)) ?_;refine Jy Gm ?_));refine gO xPk ?_)|(refine Tx 11 ?_;refine gO xM <| gO xLt ?_)|(refine Tx 13 ?_;refine gO xM <| gO xM <| gN (by exact BH rfl Ae CC rfl rfl (by decide) (by decide)) <| gT (by exact QJ rfl rfl rfl rfl rfl rfl Ae CC (by omega) (by decide) hap rfl) <| gO xA ?_)|(refine Tx 14 ?_;refine gO xAd <| gO xM ?_))
  refine ⟨_,_,Be 2,_,by omega,k+1,by omega,rfl,Dr hal hb hpb,rfl,rfl⟩
 obtain rfl:k=R.length:=by omega
 rw [aq] at hal
 have hall:R.all pkB=true:=List.all_eq_true.2 hal
 rw [show chW R.length (R.all pkB) (R.map pkS)=[⟨3,1,R.length,(R.map pkS).map dI⟩] by rw [hall];rfl,show chY R.length (R.all pkB)=.tup [.one (.own 0 R.length),.one (.d (.val (Rs 0)))] by rw [hall];rfl]
 have hT:(R.map pkS).take R.length=R.map pkS:=aj (by rw [af];exact aa _)
 rw [hT]
 repeat' (with_reducible first|refine qq ?_|(refine Tx 6 ?_;refine gO xLt ?_)|(refine Tx 15 ?_;refine gO xM <| gO xA <| gO xA ?_))
 exact ⟨.inl rfl,[1],by decide,.cons_ ⟨congrArg some (congrArg (Ob.row _ 1 _) (Amo _)),Di _⟩ .nil_,.tup (congrArg Array.toList results39) (.cons_ (.tmp rfl ⟨1,_,rfl,rfl,rfl,rfl⟩) (.cons_ (.tmp rfl ⟨rfl,.val _⟩) .nil_))⟩
end Go.Proofs.YtjlkgfeepocjfaaGreatDoor
