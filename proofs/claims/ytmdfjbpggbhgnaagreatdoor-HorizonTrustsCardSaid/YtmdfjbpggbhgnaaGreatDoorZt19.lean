/- What the proofs of this claim share, part 19. No conditions. -/
import Derived.Test.YtmdfjbpggbhgnaaGreatDoorZt18
import Derived.Test.YtmdfjbpggbhgnaaGreatDoorZt17
import Derived.Test.YtmdfjbpggbhgnaaGreatDoorZt12
import Derived.Test.YtmdfjbpggbhgnaaGreatDoorZt16
import Derived.Test.YtmdfjbpggbhgnaaGreatDoorZt13
set_option maxRecDepth 100000
set_option maxHeartbeats 4000000
set_option linter.unusedVariables false
set_option linter.unusedSimpArgs false
set_option linter.unusedSectionVars false
namespace Go.Proofs.YtmdfjbpggbhgnaaGreatDoor
open Go.RowKit
theorem MJ:∀ {l:List Int},(∀ x∈l,x=0)→AH l=0
 | [],_=>rfl
 | x::l,h=>by
  unfold AH
  rw [if_pos (h x (List.mem_cons_self ..))]
  exact MJ fun y hy=>h y (List.mem_cons_of_mem _ hy)
section
variable {P:Program} {F:Frm} {H:List Ob}
theorem AgE {t:Tmp} {ty ty' id k:Nat} {x y:Int} (hk:TyK P ty true k) (hi:2=k:=by rfl) (hF:F t=.one (.ref id 0 none):=by with_unfolding_all exact rfl) (hH:H[id]?=some (.box ty' [.d (.val (.int .i64 x)),.d (.val (.int .i64 y))]):=by with_unfolding_all exact rfl):RV P F H (.cell t ty) (.agg [dI x,dI y]):=by
 obtain ⟨⟨dd,hu,hd⟩,hz⟩:=hk
 exact .cellA hF hH hu hd (by rw [hz,←hi];rfl) (.cons_ (.d fun _=>.val _) (.cons_ (.d fun _=>.val _) .nil_))
end
def dCr (u:Bool) (F:List Int) (qs:List (Rv × Rv)) (rs:List Rv):List D:=[BQ u F,Pa qs,Xb rs]
def MK (q:Rv × Rv) (r:Rv):Int:=if ivC q=false∨vdB r.rw=false∨sgI (rvP r).1<0 then 2 else if Dd (rvP r)=true∨Dd (rvP q.1)=true∨Dd (rvP q.2)=true then 4 else 0
def ckL (qs:List (Rv × Rv)) (rs:List Rv):Int:=AH (List.zipWith MK qs rs)
def ckE (ps:List Prt) (bs:List Bk) (os:List Int) (F:List Int) (qs:List (Rv × Rv)) (rs:List Rv):Int :=
 if BN ps bs os≠0 then BN ps bs os else if F.length=bs.length∧qs.length=bs.length∧rs.length=bs.length then ckL qs rs else 11
def MW (F:List Int) (qs:List (Rv × Rv)) (rs:List Rv):Ct:=⟨F,qs.map ivQ,rs.map rvP⟩
theorem TI {qs:List (Rv × Rv)} {rs:List Rv} {k:Nat} {q:Rv × Rv} {r:Rv} (h1:qs[k]?=some q) (h2:rs[k]?=some r):(List.zipWith MK qs rs)[k]?=some (MK q r):=by rw [List.getElem?_zipWith,h1,h2]
theorem AeY {qs:List (Rv × Rv)} {rs:List Rv} {k:Nat} {q:Rv × Rv} {r:Rv} (h:∀ j x,j<k→(List.zipWith MK qs rs)[j]?=some x→x=0) (h1:qs[k]?=some q) (h2:rs[k]?=some r) (h0:MK q r≠0):ckL qs rs=MK q r:=RK h (TI h1 h2) h0
theorem ZE {r:Rv} (hr:RvL r) (hv:vdB r.rw=true):dRv false r=dyP (rvP r)∧Nf (rvP r).1 (rvP r).2∧(Ad (rvP r).1.natAbs).length≤40000:=by
 obtain ⟨a,b,c⟩:=RI (t:=false) hr.1 hv
 exact ⟨a,b,by rw [show (rvP r).1=r.rw.x from rfl,c];exact hr.2⟩
theorem XH {ps:List Prt} {bs:List Bk} {os F:List Int} {qs:List (Rv × Rv)} {rs:List Rv} (hq:∀ q∈qs,RvL q.1∧RvL q.2) (hr:∀ r∈rs,RvL r) (h:ckE ps bs os F qs rs=0):BN ps bs os=0∧AgB bs (MW F qs rs)∧dCr false F qs rs=dCt false (MW F qs rs)∧(∀ q∈qs,ivC q=true)∧(∀ r∈rs,vdB r.rw=true):=by
 unfold ckE at h
 by_cases h0:BN ps bs os=0
 case neg=>rw [if_pos h0] at h;exact absurd h h0
 rw [if_neg (not_not_intro h0)] at h
 by_cases hl:F.length=bs.length∧qs.length=bs.length∧rs.length=bs.length
 case neg=>rw [if_neg hl] at h;cases h
 rw [if_pos hl] at h
 obtain ⟨l1,l2,l3⟩:=hl
 have hz:=CX h
 have key:∀ (k:Nat) (q:Rv × Rv) (r:Rv),qs[k]?=some q→rs[k]?=some r→ivC q=true∧vdB r.rw=true∧0≤sgI (rvP r).1∧Dd (rvP r)=false∧Dd (rvP q.1)=false∧Dd (rvP q.2)=false:=fun k q r h1 h2=>by
  have h3:=hz _ (List.mem_of_getElem? (TI h1 h2))
  unfold MK at h3
  by_cases c1:ivC q=false∨vdB r.rw=false∨sgI (rvP r).1<0
  ·rw [if_pos c1] at h3;cases h3
  rw [if_neg c1] at h3
  by_cases c2:Dd (rvP r)=true∨Dd (rvP q.1)=true∨Dd (rvP q.2)=true
  ·rw [if_pos c2] at h3;cases h3
  simp only [not_or,Bool.not_eq_false,Bool.not_eq_true,Int.not_lt] at c1 c2
  exact ⟨c1.1,c1.2.1,c1.2.2,c2.1,c2.2.1,c2.2.2⟩
 have kq:∀ q∈qs,∃r,r∈rs∧ivC q=true∧Dd (rvP q.1)=false∧Dd (rvP q.2)=false:=fun q hm=>by
  obtain ⟨k,hk⟩:=List.getElem?_of_mem hm
  obtain ⟨r,hr⟩:∃ r,rs[k]?=some r:=⟨_,List.getElem?_eq_getElem (by have:=(List.getElem?_eq_some_iff.1 hk).1;omega)⟩
  have:=key k q r hk hr
  exact ⟨r,List.mem_of_getElem? hr,this.1,this.2.2.2.2.1,this.2.2.2.2.2⟩
 have kr:∀ r∈rs,vdB r.rw=true∧0≤sgI (rvP r).1∧Dd (rvP r)=false:=fun r hm=>by
  obtain ⟨k,hk⟩:=List.getElem?_of_mem hm
  obtain ⟨q,hq⟩:∃ q,qs[k]?=some q:=⟨_,List.getElem?_eq_getElem (by have:=(List.getElem?_eq_some_iff.1 hk).1;omega)⟩
  have:=key k q r hq hk
  exact ⟨this.2.1,this.2.2.1,this.2.2.2.1⟩
 refine ⟨h0,⟨l1,by show (qs.map ivQ).length=_;rw [List.length_map];exact l2,by show (rs.map rvP).length=_;rw [List.length_map];exact l3,fun p hp=>?_,fun p hp=>?_,fun p hp=>?_⟩,?_,fun q hm=>(kq q hm).choose_spec.2.1,fun r hm=>(kr r hm).1⟩
 ·obtain ⟨q,hm,rfl⟩:=List.mem_map.1 hp
  obtain ⟨_,_,v,g1,g2⟩:=kq q hm
  exact AeP (TB (hq q hm).1 (hq q hm).2 v).1 (by unfold Xw;rw [show Dd (ivQ q).1=false from g1,show Dd (ivQ q).2=false from g2];rfl)
 ·obtain ⟨r,hm,rfl⟩:=List.mem_map.1 hp
  obtain ⟨v,_,g⟩:=kr r hm
  exact AcB (ZE (hr r hm) v).2.1 g
 ·obtain ⟨r,hm,rfl⟩:=List.mem_map.1 hp
  obtain ⟨_,g,_⟩:=kr r hm
  have hx:0≤(rvP r).1:=Classical.byContradiction fun hn=>by rw [show sgI (rvP r).1 = -1 by unfold sgI;(repeat' split) <;> omega] at g;omega
  exact Int.mul_nonneg hx (Int.le_of_lt (BR _))
 ·unfold dCr dCt MW Pa Xb
  have e1:AN (dIr false) qs=AN (dIw false) (qs.map ivQ):=by
   unfold AN
   rw [List.map_map]
   congr 1
   exact List.map_congr_left fun q hm=>by
    obtain ⟨_,_,v,_⟩:=kq q hm
    exact (TB (hq q hm).1 (hq q hm).2 v).2.1
  have e2:AN (dRv false) rs=AN dyP (rs.map rvP):=by
   unfold AN
   rw [List.map_map]
   congr 1
   exact List.map_congr_left fun r hm=>(ZE (hr r hm) (kr r hm).1).1
  rw [e1,e2]
  simp only [List.length_map]
def vfK (ps:List Prt) (bs:List Bk) (c:Ct):Option Nat:=(List.range bs.length).find? fun i=>decide (Ld ps bs c i≠0)
def vfF (ps:List Prt) (bs:List Bk) (c:Ct):Int × Int:=match vfK ps bs c with
 | none=>(0,0)
 | some i=>(Ld ps bs c i,(i:Int))
theorem XI {ps:List Prt} {bs:List Bk} {c:Ct}:vfK ps bs c=none ↔ ∀ i,i<bs.length→Ld ps bs c i=0:=by
 unfold vfK
 rw [List.find?_eq_none]
 simp
theorem AcS {ps:List Prt} {bs:List Bk} {c:Ct} {k:Nat} (hk:k<bs.length) (h:∀ i,i<k→Ld ps bs c i=0) (h0:Ld ps bs c k≠0):vfK ps bs c=some k:=by
 unfold vfK
 rw [List.find?_range_eq_some]
 exact ⟨by simpa using h0,List.mem_range.2 hk,fun j hj=>by simp [h j hj]⟩
def vfE (ps:List Prt) (bs:List Bk) (os F:List Int) (qs:List (Rv × Rv)) (rs:List Rv):Bool:=decide (ckE ps bs os F qs rs=0) && (vfK ps bs (MW F qs rs)).isNone
def vfP (ps:List Prt) (bs:List Bk) (os F:List Int) (qs:List (Rv × Rv)) (rs:List Rv):Int × Int:=if ckE ps bs os F qs rs=0 then vfF ps bs (MW F qs rs) else (0,0)
theorem XJ {ps:List Prt} {bs:List Bk} {os F:List Int} {qs:List (Rv × Rv)} {rs:List Rv} (hq:∀ q∈qs,RvL q.1∧RvL q.2) (hr:∀ r∈rs,RvL r) (h:vfE ps bs os F qs rs=true):Dw ps bs os (MW F qs rs):=by
 unfold vfE at h
 rw [Bool.and_eq_true,decide_eq_true_eq,Option.isNone_iff_eq_none] at h
 obtain ⟨a,b,_⟩:=XH hq hr h.1
 exact ⟨a,b,XI.1 h.2⟩
theorem MM (x:Pq) (n1:Nf x.1 x.2) (l1:(Ad x.1.natAbs).length≤40000):CV Tryz.prog Ax 124 [aDy false x.1 x.2] [aB (Dd x)]:=by
 refine cvz Tryz.func124 Tryz.ntmps124 ?_
 have B1:=Zk x.1 x.2 n1 l1
 have hm:decide ((4096:Int)<max ((CD x.1.natAbs:Nat):Int) (x.2:Int))=Dd x:=by unfold Dd RJ;rw [Bool.eq_iff_iff,decide_eq_true_eq,decide_eq_true_eq];omega
 repeat' (with_reducible first|refine qq ?_|(refine Tx 0 ?_;refine Jn xBo ?_;refine Ja ?_)|(refine AZ (id:=1) AK (by kernel_rfl) ?_;refine kA ?_;refine Ko (xCl Tryz.func212 (B1)) ?_;refine kF ?_;refine kD ?_;refine Ko (by exact FI rfl rfl rfl) ?_;refine Ko (by first|exact VW rfl rfl rfl hm|exact xGt) ?_;refine Ka ?_;refine Ke ?_))
 exact Ap rfl (.cons_ (BL rfl (rfl)) .nil_)
theorem NQ (t u:Bool) {ps:List Prt} {bs:List Bk} {os:List Int} (hl:Lb ps bs os) (F:List Int) (qs:List (Rv × Rv)) (rs:List Rv) (hwq:∀ q∈qs,RvL q.1∧RvL q.2) (hwr:∀ r∈rs,RvL r) (hFl:F.length≤1000000) (hQl:qs.length≤1000000) (hRl:rs.length≤1000000):CV Tryz.prog Ax 49 [aDg t ps bs os,.agg (dCr u F qs rs)] [aE (ckE ps bs os F qs rs)]:=by
 refine cvz Tryz.func49 Tryz.ntmps49 ?_
 have CK:=(XA t hl).cv
 have hl1:=hl.l1
 have hl2:=hl.l2
 by_cases h0:BN ps bs os=0
 case neg =>
  have hb:ckE ps bs os F qs rs=BN ps bs os:=by unfold ckE;rw [if_pos h0]
  rw [hb]
  repeat' (with_reducible first|refine qq ?_|(refine Tx 0 ?_;refine Jn xBo ?_;refine Jn xBo ?_;refine Ja ?_)|(refine Tx 1 ?_;refine jA ?_;refine Jo (xCl Tryz.func35 (CK)) ?_;refine Ja ?_)|(refine Tx 2 ?_;refine Jm ?_;refine Jo (by first|exact DS rfl AQ rfl (Ok h0)|exact DS rfl AQ rfl (Re (by first|rfl|omega))|exact DS rfl AQ rfl (Ok (by first|assumption|omega))|exact DS rfl AQ rfl rfl) ?_)|(refine Tx 3 ?_;refine Jm ?_;refine Ja ?_))
  exact Ap rfl (.cons_ (rv_e rfl rfl) .nil_)
 rw [h0] at CK
 by_cases hF:F.length=bs.length
 case neg =>
  have hb:ckE ps bs os F qs rs=11:=by unfold ckE;rw [if_neg (not_not_intro h0),if_neg (fun h=>hF h.1)]
  rw [hb]
  repeat' (with_reducible first|refine qq ?_|(refine Tx 0 ?_;refine Jn xBo ?_;refine Jn xBo ?_;refine Ja ?_)|(refine Tx 1 ?_;refine jA ?_;refine Jo (xCl Tryz.func35 (CK)) ?_;refine Ja ?_)|(refine Tx 2 ?_;refine Jm ?_;refine Jo (xNE AQ) ?_)|(refine Tx 4 ?_;refine jF ?_;refine jD ?_;refine jN ?_;refine Ja ?_)|(refine Tx 5 ?_;refine jF ?_;refine jD ?_;refine jN ?_;refine Jm ?_;refine Jo xNe ?_;refine Jm ?_;(first|iterate 5 refine Jd ?_|(refine Jy (xFa Df AJ) ?_;refine Jy (xLd AJ) ?_;refine Jy (xLn Af) ?_;refine Jy xM1 ?_;refine Jy xNe ?_));refine Jo xPk ?_;refine Jm ?_;(first|iterate 5 refine Jd ?_|(refine Jy (xFa Bw An) ?_;refine Jy (xLd An) ?_;refine Jy (xLn Ac) ?_;refine Jy xM1 ?_;refine Jy xNe ?_));refine Jo xPk ?_)|(refine Tx 6 ?_;refine Jo (xMi Tryz.underlying109) ?_;refine Ja ?_))
  exact Ap rfl (.cons_ (Ox rfl (by decide) rfl) .nil_)
 by_cases hQ:qs.length=bs.length
 case neg =>
  have hb:ckE ps bs os F qs rs=11:=by unfold ckE;rw [if_neg (not_not_intro h0),if_neg (fun h=>hQ h.2.1)]
  rw [hb]
  repeat' (with_reducible first|refine qq ?_|(refine Tx 0 ?_;refine Jn xBo ?_;refine Jn xBo ?_;refine Ja ?_)|(refine Tx 1 ?_;refine jA ?_;refine Jo (xCl Tryz.func35 (CK)) ?_;refine Ja ?_)|(refine Tx 2 ?_;refine Jm ?_;refine Jo (xNE AQ) ?_)|(refine Tx 4 ?_;refine jF ?_;refine jD ?_;refine jN ?_;refine Ja ?_)|(refine Tx 5 ?_;refine jF ?_;refine jD ?_;refine jN ?_;refine Jm ?_;refine Jo xNe ?_;refine Jm ?_;(first|iterate 5 refine Jd ?_|(refine Jy (xFa Df AJ) ?_;refine Jy (xLd AJ) ?_;refine Jy (xLn Af) ?_;refine Jy xM1 ?_;refine Jy xNe ?_));refine Jo xPk ?_;refine Jm ?_;(first|iterate 5 refine Jd ?_|(refine Jy (xFa Bw An) ?_;refine Jy (xLd An) ?_;refine Jy (xLn Ac) ?_;refine Jy xM1 ?_;refine Jy xNe ?_));refine Jo xPk ?_)|(refine Tx 6 ?_;refine Jo (xMi Tryz.underlying109) ?_;refine Ja ?_))
  exact Ap rfl (.cons_ (Ox rfl (by decide) rfl) .nil_)
 by_cases hR:rs.length=bs.length
 case neg =>
  have hb:ckE ps bs os F qs rs=11:=by unfold ckE;rw [if_neg (not_not_intro h0),if_neg (fun h=>hR h.2.2)]
  rw [hb]
  repeat' (with_reducible first|refine qq ?_|(refine Tx 0 ?_;refine Jn xBo ?_;refine Jn xBo ?_;refine Ja ?_)|(refine Tx 1 ?_;refine jA ?_;refine Jo (xCl Tryz.func35 (CK)) ?_;refine Ja ?_)|(refine Tx 2 ?_;refine Jm ?_;refine Jo (xNE AQ) ?_)|(refine Tx 4 ?_;refine jF ?_;refine jD ?_;refine jN ?_;refine Ja ?_)|(refine Tx 5 ?_;refine jF ?_;refine jD ?_;refine jN ?_;refine Jm ?_;refine Jo xNe ?_;refine Jm ?_;(first|iterate 5 refine Jd ?_|(refine Jy (xFa Df AJ) ?_;refine Jy (xLd AJ) ?_;refine Jy (xLn Af) ?_;refine Jy xM1 ?_;refine Jy xNe ?_));refine Jo xPk ?_;refine Jm ?_;(first|iterate 5 refine Jd ?_|(refine Jy (xFa Bw An) ?_;refine Jy (xLd An) ?_;refine Jy (xLn Ac) ?_;refine Jy xM1 ?_;refine Jy xNe ?_));refine Jo xPk ?_)|(refine Tx 6 ?_;refine Jo (xMi Tryz.underlying109) ?_;refine Ja ?_))
  exact Ap rfl (.cons_ (Ox rfl (by decide) rfl) .nil_)
 have hb:ckE ps bs os F qs rs=ckL qs rs:=by unfold ckE;rw [if_neg (not_not_intro h0),if_pos ⟨hF,hQ,hR⟩]
 rw [hb]
 repeat' (with_reducible first|refine qq ?_|(refine Tx 0 ?_;refine Jn xBo ?_;refine Jn xBo ?_;refine Ja ?_)|(refine Tx 1 ?_;refine jA ?_;refine Jo (xCl Tryz.func35 (CK)) ?_;refine Ja ?_)|(refine Tx 2 ?_;refine Jm ?_;refine Jo (xNE AQ) ?_)|(refine Tx 4 ?_;refine jF ?_;refine jD ?_;refine jN ?_;refine Ja ?_)|(refine Tx 5 ?_;refine jF ?_;refine jD ?_;refine jN ?_;refine Jm ?_;refine Jo xNe ?_;refine Jm ?_;(first|iterate 5 refine Jd ?_|(refine Jy (xFa Df AJ) ?_;refine Jy (xLd AJ) ?_;refine Jy (xLn Af) ?_;refine Jy xM1 ?_;refine Jy xNe ?_));refine Jo xPk ?_;refine Jm ?_;(first|iterate 5 refine Jd ?_|(refine Jy (xFa Bw An) ?_;refine Jy (xLd An) ?_;refine Jy (xLn Ac) ?_;refine Jy xM1 ?_;refine Jy xNe ?_));refine Jo xPk ?_)|(refine Tx 7 ?_;refine jF ?_;refine jD ?_;refine jN ?_;refine Jm ?_))
 refine CF (F':=ofL [(3,vr 1),(38,vd (Pa qs)),(39,vi qs.length),(40,vi ((0:Nat)))]) (H':=[.box 26 [.d (Fk t ps),.d (EX t bs),.d (BQ t os)],.box 30 [.d (BQ u F),.d (Pa qs),.d (Xb rs)]]) (BM _ 2 ?_ ?_ ?_) ?_
 ·rfl
 ·exact mB rfl rfl
 ·exact ⟨AF rfl,AF rfl,trivial⟩
 refine Bp (fun n Fr H=>∃ k:Nat,k≤qs.length∧n=qs.length - k∧(∀ (j:Nat) (x:Int),j<k→(List.zipWith MK qs rs)[j]?=some x→x=0)∧Fr=ofL [(3,vr 1),(38,vd (Pa qs)),(39,vi qs.length),(40,vi ((k:Nat)))]∧H=[.box 26 [.d (Fk t ps),.d (EX t bs),.d (BQ t os)],.box 30 [.d (BQ u F),.d (Pa qs),.d (Xb rs)]]) (n0:=qs.length) ⟨0,Nat.zero_le _,rfl,(fun j x hj=>absurd hj (Nat.not_lt_zero _)),rfl,rfl⟩ ?_
 rintro n Fr H ⟨k,hk,rfl,hz,rfl,rfl⟩
 by_cases hlt:k<qs.length
 case pos =>
  obtain ⟨q,hq⟩:∃ q,qs[k]?=some q:=⟨_,List.getElem?_eq_getElem hlt⟩
  obtain ⟨r,hr⟩:∃ r,rs[k]?=some r:=⟨_,List.getElem?_eq_getElem (by omega)⟩
  have wq:=hwq q (List.mem_of_getElem? hq)
  have wr:=hwr r (List.mem_of_getElem? hr)
  have VI:CV Tryz.prog Ax 122 [.agg (dIr false q)] [aB (ivC q)]:=NP q.1 q.2 wq.1 wq.2
  have VD:=(Mv (G:=Ax) false r wr.1 (by have:=wr.2;omega)).cv
  have hit:=AeY hz hq hr
  cases h1:ivC q
  case false =>
   have hc:MK q r=2:=by unfold MK;rw [if_pos (.inl h1)]
   rw [hit (by rw [hc];decide),hc]
   rw [h1] at VI
   repeat' (with_reducible first|refine qq ?_|(refine Tx 8 ?_;refine Jo xLt ?_)|(refine Tx 9 ?_;refine Jm ?_;refine Jo (by first|exact xIr Af (Gx hq)|exact xIr Af (Lc hr)) ?_;refine jA ?_;refine Jn (xAl Ao) ?_;refine Ja ?_;refine Js (xSk Ag) ?_)|(refine Tx 10 ?_;refine jA ?_;refine Jo (xCl Tryz.func122 (VI)) ?_;refine Jo (by first|exact xNt|exact xNg) ?_;refine Jm ?_;(first|iterate 7 refine Jd ?_|(refine Jy (xFa Bw An) ?_;refine Jy (xLd An) ?_;refine Jy xM1 ?_;refine Jy (by first|exact xIr Ac (Gx hq)|exact xIr Ac (Lc hr)) ?_;refine Jy (xLa Aa) ?_;refine Jy (xCl Tryz.func123 (VD)) ?_;refine Jy (by first|exact xNt|exact xNg) ?_));refine Jo xPk ?_;refine Jm ?_;(first|iterate 5 refine Jd ?_|(refine Jy (xFa Bw An) ?_;refine Jy (xLd An) ?_;refine Jy xM1 ?_;refine Jy (by first|exact xIr Ac (Gx hq)|exact xIr Ac (Lc hr)) ?_;refine Jy (xLa Aa) ?_));refine Jd ?_;(first|refine Jd ?_|refine Jy xLt ?_);refine Jo xPk ?_)|(refine Tx 11 ?_;refine Jo (xMi Tryz.underlying109) ?_;refine Ja ?_))
   exact Ap rfl (.cons_ (Ox rfl (by decide) rfl) .nil_)
  rw [h1] at VI
  cases h2:vdB r.rw
  case false =>
   have hc:MK q r=2:=by unfold MK;rw [if_pos (.inr (.inl h2))]
   rw [hit (by rw [hc];decide),hc]
   rw [h2] at VD
   repeat' (with_reducible first|refine qq ?_|(refine Tx 8 ?_;refine Jo xLt ?_)|(refine Tx 9 ?_;refine Jm ?_;refine Jo (by first|exact xIr Af (Gx hq)|exact xIr Af (Lc hr)) ?_;refine jA ?_;refine Jn (xAl Ao) ?_;refine Ja ?_;refine Js (xSk Ag) ?_)|(refine Tx 10 ?_;refine jA ?_;refine Jo (xCl Tryz.func122 (VI)) ?_;refine Jo (by first|exact xNt|exact xNg) ?_;refine Jm ?_;(first|iterate 7 refine Jd ?_|(refine Jy (xFa Bw An) ?_;refine Jy (xLd An) ?_;refine Jy xM1 ?_;refine Jy (by first|exact xIr Ac (Gx hq)|exact xIr Ac (Lc hr)) ?_;refine Jy (xLa Aa) ?_;refine Jy (xCl Tryz.func123 (VD)) ?_;refine Jy (by first|exact xNt|exact xNg) ?_));refine Jo xPk ?_;refine Jm ?_;(first|iterate 5 refine Jd ?_|(refine Jy (xFa Bw An) ?_;refine Jy (xLd An) ?_;refine Jy xM1 ?_;refine Jy (by first|exact xIr Ac (Gx hq)|exact xIr Ac (Lc hr)) ?_;refine Jy (xLa Aa) ?_));refine Jd ?_;(first|refine Jd ?_|refine Jy xLt ?_);refine Jo xPk ?_)|(refine Tx 11 ?_;refine Jo (xMi Tryz.underlying109) ?_;refine Ja ?_))
   exact Ap rfl (.cons_ (Ox rfl (by decide) rfl) .nil_)
  rw [h2] at VD
  obtain ⟨d0,n0,m0⟩:=ZE wr h2
  have SG:=MH (rvP r).1 (rvP r).2 n0 m0
  have hra:=Lc hr
  have hra:=Lc hr
  have VD2:CV Tryz.prog Ax 123 [.agg (dyP (rvP r))] [aB true]:=by rw [←d0];exact VD
  rw [d0] at hra
  by_cases h3:sgI (rvP r).1<0
  case pos =>
   have hc:MK q r=2:=by unfold MK;rw [if_pos (.inr (.inr h3))]
   rw [hit (by rw [hc];decide),hc]
   repeat' (with_reducible first|refine qq ?_|(refine Tx 8 ?_;refine Jo xLt ?_)|(refine Tx 9 ?_;refine Jm ?_;refine Jo (by first|exact xIr Af (Gx hq)|exact xIr Af (hra)) ?_;refine jA ?_;refine Jn (xAl Ao) ?_;refine Ja ?_;refine Js (xSk Ag) ?_)|(refine Tx 10 ?_;refine jA ?_;refine Jo (xCl Tryz.func122 (VI)) ?_;refine Jo (by first|exact xNt|exact xNg) ?_;refine Jm ?_;(first|iterate 7 refine Jd ?_|(refine Jy (xFa Bw An) ?_;refine Jy (xLd An) ?_;refine Jy xM1 ?_;refine Jy (by first|exact xIr Ac (Gx hq)|exact xIr Ac (hra)) ?_;refine Jy (xLa Aa) ?_;refine Jy (xCl Tryz.func123 (VD2)) ?_;refine Jy (by first|exact xNt|exact xNg) ?_));refine Jo xPk ?_;refine Jm ?_;(first|iterate 7 refine Jd ?_|(refine Jy (xFa Bw An) ?_;refine Jy (xLd An) ?_;refine Jy xM1 ?_;refine Jy (by first|exact xIr Ac (Gx hq)|exact xIr Ac (hra)) ?_;refine Jy (xLa Aa) ?_;refine Jy (xCl Tryz.func55 (SG)) ?_;refine Jy xLt ?_));refine Jo xPk ?_)|(refine Tx 11 ?_;refine Jo (xMi Tryz.underlying109) ?_;refine Ja ?_))
   exact Ap rfl (.cons_ (Ox rfl (by decide) rfl) .nil_)
  obtain ⟨sw,hdy,lw1,lw2⟩:=TB wq.1 wq.2 h1
  have hia:=Gx hq
  have VI2:CV Tryz.prog Ax 122 [.agg (dIw false (ivQ q))] [aB true]:=by rw [←hdy];exact VI
  rw [hdy] at hia
  have LR:=MM (rvP r) n0 m0
  have L1:=MM (rvP q.1) sw.s1.ok lw1
  have L2:=MM (rvP q.2) sw.s2.ok lw2
  have hn2:¬ (ivC q=false∨vdB r.rw=false∨sgI (rvP r).1<0):=by rw [h1,h2];simpa using h3
  cases h4:Dd (rvP r)
  case true =>
   have hc:MK q r=4:=by unfold MK;rw [if_neg hn2,if_pos (.inl h4)]
   rw [hit (by rw [hc];decide),hc]
   rw [h4] at LR
   repeat' (with_reducible first|refine qq ?_|(refine Tx 8 ?_;refine Jo xLt ?_)|(refine Tx 9 ?_;refine Jm ?_;refine Jo (by first|exact xIr Af (hia)|exact xIr Af (hra)) ?_;refine jA ?_;refine Jn (xAl Ao) ?_;refine Ja ?_;refine Js (xSk Ag) ?_)|(refine Tx 10 ?_;refine jA ?_;refine Jo (xCl Tryz.func122 (VI2)) ?_;refine Jo (by first|exact xNt|exact xNg) ?_;refine Jm ?_;(first|iterate 7 refine Jd ?_|(refine Jy (xFa Bw An) ?_;refine Jy (xLd An) ?_;refine Jy xM1 ?_;refine Jy (by first|exact xIr Ac (hia)|exact xIr Ac (hra)) ?_;refine Jy (xLa Aa) ?_;refine Jy (xCl Tryz.func123 (VD2)) ?_;refine Jy (by first|exact xNt|exact xNg) ?_));refine Jo xPk ?_;refine Jm ?_;(first|iterate 7 refine Jd ?_|(refine Jy (xFa Bw An) ?_;refine Jy (xLd An) ?_;refine Jy xM1 ?_;refine Jy (by first|exact xIr Ac (hia)|exact xIr Ac (hra)) ?_;refine Jy (xLa Aa) ?_;refine Jy (xCl Tryz.func55 (SG)) ?_;refine Jy xLt ?_));refine Jo xPk ?_)|(refine Tx 12 ?_;refine jF ?_;refine jD ?_;refine Jm ?_;refine Jo (by first|exact xIr Ac (hia)|exact xIr Ac (hra)) ?_;refine jA ?_;refine Jo (by first|exact xCl Tryz.func124 (LR)|exact xCl Tryz.func124 (L1)|exact xCl Tryz.func124 (L2)) ?_;refine Jm ?_;(first|iterate 3 refine Jd ?_|(refine Jy (xFa Bg Aa) ?_;refine Jy (xLa Aa) ?_;refine Jy (by first|exact xCl Tryz.func124 (LR)|exact xCl Tryz.func124 (L1)|exact xCl Tryz.func124 (L2)) ?_));refine Jo xPk ?_;refine Jm ?_;(first|iterate 3 refine Jd ?_|(refine Jy (xFa Av Aa) ?_;refine Jy (xLa Aa) ?_;refine Jy (by first|exact xCl Tryz.func124 (LR)|exact xCl Tryz.func124 (L1)|exact xCl Tryz.func124 (L2)) ?_));refine Jo xPk ?_)|(refine Tx 13 ?_;refine Jo (xMi Tryz.underlying109) ?_;refine Ja ?_))
   exact Ap rfl (.cons_ (Ox rfl (by decide) rfl) .nil_)
  rw [h4] at LR
  cases h5:Dd (rvP q.1)
  case true =>
   have hc:MK q r=4:=by unfold MK;rw [if_neg hn2,if_pos (.inr (.inl h5))]
   rw [hit (by rw [hc];decide),hc]
   rw [h5] at L1
   repeat' (with_reducible first|refine qq ?_|(refine Tx 8 ?_;refine Jo xLt ?_)|(refine Tx 9 ?_;refine Jm ?_;refine Jo (by first|exact xIr Af (hia)|exact xIr Af (hra)) ?_;refine jA ?_;refine Jn (xAl Ao) ?_;refine Ja ?_;refine Js (xSk Ag) ?_)|(refine Tx 10 ?_;refine jA ?_;refine Jo (xCl Tryz.func122 (VI2)) ?_;refine Jo (by first|exact xNt|exact xNg) ?_;refine Jm ?_;(first|iterate 7 refine Jd ?_|(refine Jy (xFa Bw An) ?_;refine Jy (xLd An) ?_;refine Jy xM1 ?_;refine Jy (by first|exact xIr Ac (hia)|exact xIr Ac (hra)) ?_;refine Jy (xLa Aa) ?_;refine Jy (xCl Tryz.func123 (VD2)) ?_;refine Jy (by first|exact xNt|exact xNg) ?_));refine Jo xPk ?_;refine Jm ?_;(first|iterate 7 refine Jd ?_|(refine Jy (xFa Bw An) ?_;refine Jy (xLd An) ?_;refine Jy xM1 ?_;refine Jy (by first|exact xIr Ac (hia)|exact xIr Ac (hra)) ?_;refine Jy (xLa Aa) ?_;refine Jy (xCl Tryz.func55 (SG)) ?_;refine Jy xLt ?_));refine Jo xPk ?_)|(refine Tx 12 ?_;refine jF ?_;refine jD ?_;refine Jm ?_;refine Jo (by first|exact xIr Ac (hia)|exact xIr Ac (hra)) ?_;refine jA ?_;refine Jo (by first|exact xCl Tryz.func124 (LR)|exact xCl Tryz.func124 (L1)|exact xCl Tryz.func124 (L2)) ?_;refine Jm ?_;(first|iterate 3 refine Jd ?_|(refine Jy (xFa Bg Aa) ?_;refine Jy (xLa Aa) ?_;refine Jy (by first|exact xCl Tryz.func124 (LR)|exact xCl Tryz.func124 (L1)|exact xCl Tryz.func124 (L2)) ?_));refine Jo xPk ?_;refine Jm ?_;(first|iterate 3 refine Jd ?_|(refine Jy (xFa Av Aa) ?_;refine Jy (xLa Aa) ?_;refine Jy (by first|exact xCl Tryz.func124 (LR)|exact xCl Tryz.func124 (L1)|exact xCl Tryz.func124 (L2)) ?_));refine Jo xPk ?_)|(refine Tx 13 ?_;refine Jo (xMi Tryz.underlying109) ?_;refine Ja ?_))
   exact Ap rfl (.cons_ (Ox rfl (by decide) rfl) .nil_)
  rw [h5] at L1
  cases h6:Dd (rvP q.2)
  case true =>
   have hc:MK q r=4:=by unfold MK;rw [if_neg hn2,if_pos (.inr (.inr h6))]
   rw [hit (by rw [hc];decide),hc]
   rw [h6] at L2
   repeat' (with_reducible first|refine qq ?_|(refine Tx 8 ?_;refine Jo xLt ?_)|(refine Tx 9 ?_;refine Jm ?_;refine Jo (by first|exact xIr Af (hia)|exact xIr Af (hra)) ?_;refine jA ?_;refine Jn (xAl Ao) ?_;refine Ja ?_;refine Js (xSk Ag) ?_)|(refine Tx 10 ?_;refine jA ?_;refine Jo (xCl Tryz.func122 (VI2)) ?_;refine Jo (by first|exact xNt|exact xNg) ?_;refine Jm ?_;(first|iterate 7 refine Jd ?_|(refine Jy (xFa Bw An) ?_;refine Jy (xLd An) ?_;refine Jy xM1 ?_;refine Jy (by first|exact xIr Ac (hia)|exact xIr Ac (hra)) ?_;refine Jy (xLa Aa) ?_;refine Jy (xCl Tryz.func123 (VD2)) ?_;refine Jy (by first|exact xNt|exact xNg) ?_));refine Jo xPk ?_;refine Jm ?_;(first|iterate 7 refine Jd ?_|(refine Jy (xFa Bw An) ?_;refine Jy (xLd An) ?_;refine Jy xM1 ?_;refine Jy (by first|exact xIr Ac (hia)|exact xIr Ac (hra)) ?_;refine Jy (xLa Aa) ?_;refine Jy (xCl Tryz.func55 (SG)) ?_;refine Jy xLt ?_));refine Jo xPk ?_)|(refine Tx 12 ?_;refine jF ?_;refine jD ?_;refine Jm ?_;refine Jo (by first|exact xIr Ac (hia)|exact xIr Ac (hra)) ?_;refine jA ?_;refine Jo (by first|exact xCl Tryz.func124 (LR)|exact xCl Tryz.func124 (L1)|exact xCl Tryz.func124 (L2)) ?_;refine Jm ?_;(first|iterate 3 refine Jd ?_|(refine Jy (xFa Bg Aa) ?_;refine Jy (xLa Aa) ?_;refine Jy (by first|exact xCl Tryz.func124 (LR)|exact xCl Tryz.func124 (L1)|exact xCl Tryz.func124 (L2)) ?_));refine Jo xPk ?_;refine Jm ?_;(first|iterate 3 refine Jd ?_|(refine Jy (xFa Av Aa) ?_;refine Jy (xLa Aa) ?_;refine Jy (by first|exact xCl Tryz.func124 (LR)|exact xCl Tryz.func124 (L1)|exact xCl Tryz.func124 (L2)) ?_));refine Jo xPk ?_)|(refine Tx 13 ?_;refine Jo (xMi Tryz.underlying109) ?_;refine Ja ?_))
   exact Ap rfl (.cons_ (Ox rfl (by decide) rfl) .nil_)
  rw [h6] at L2
  have hc:MK q r=0:=by unfold MK;rw [if_neg hn2,if_neg (by simp [h4,h5,h6])]
  repeat' (with_reducible first|refine qq ?_|(refine Tx 8 ?_;refine Jo xLt ?_)|(refine Tx 9 ?_;refine Jm ?_;refine Jo (by first|exact xIr Af (hia)|exact xIr Af (hra)) ?_;refine jA ?_;refine Jn (xAl Ao) ?_;refine Ja ?_;refine Js (xSk Ag) ?_)|(refine Tx 10 ?_;refine jA ?_;refine Jo (xCl Tryz.func122 (VI2)) ?_;refine Jo (by first|exact xNt|exact xNg) ?_;refine Jm ?_;(first|iterate 7 refine Jd ?_|(refine Jy (xFa Bw An) ?_;refine Jy (xLd An) ?_;refine Jy xM1 ?_;refine Jy (by first|exact xIr Ac (hia)|exact xIr Ac (hra)) ?_;refine Jy (xLa Aa) ?_;refine Jy (xCl Tryz.func123 (VD2)) ?_;refine Jy (by first|exact xNt|exact xNg) ?_));refine Jo xPk ?_;refine Jm ?_;(first|iterate 7 refine Jd ?_|(refine Jy (xFa Bw An) ?_;refine Jy (xLd An) ?_;refine Jy xM1 ?_;refine Jy (by first|exact xIr Ac (hia)|exact xIr Ac (hra)) ?_;refine Jy (xLa Aa) ?_;refine Jy (xCl Tryz.func55 (SG)) ?_;refine Jy xLt ?_));refine Jo xPk ?_)|(refine Tx 12 ?_;refine jF ?_;refine jD ?_;refine Jm ?_;refine Jo (by first|exact xIr Ac (hia)|exact xIr Ac (hra)) ?_;refine jA ?_;refine Jo (by first|exact xCl Tryz.func124 (LR)|exact xCl Tryz.func124 (L1)|exact xCl Tryz.func124 (L2)) ?_;refine Jm ?_;(first|iterate 3 refine Jd ?_|(refine Jy (xFa Bg Aa) ?_;refine Jy (xLa Aa) ?_;refine Jy (by first|exact xCl Tryz.func124 (LR)|exact xCl Tryz.func124 (L1)|exact xCl Tryz.func124 (L2)) ?_));refine Jo xPk ?_;refine Jm ?_;(first|iterate 3 refine Jd ?_|(refine Jy (xFa Av Aa) ?_;refine Jy (xLa Aa) ?_;refine Jy (by first|exact xCl Tryz.func124 (LR)|exact xCl Tryz.func124 (L1)|exact xCl Tryz.func124 (L2)) ?_));refine Jo xPk ?_)|(refine Tx 14 ?_;refine Jo xAd ?_;refine Jm ?_))
  exact ⟨_,_,BM [(3,vr 1),(38,vd (Pa qs)),(39,vi qs.length),(40,vi (((k+1):Nat)))] 2 rfl (mB rfl rfl) ⟨AF rfl,AF rfl,trivial⟩,_,by omega,k+1,by omega,rfl,(fun j x hj hx=>by
    rcases Nat.lt_or_ge j k with h|h
    ·exact hz j x h hx
    ·obtain rfl:j=k:=by omega
     rw [TI hq hr] at hx
     cases hx
     exact hc),rfl,rfl⟩
 obtain rfl:k=qs.length:=by omega
 have he:ckL qs rs=0:=MJ fun x hx=>by
  obtain ⟨j,hj⟩:=List.getElem?_of_mem hx
  exact hz j x (by have:=(List.getElem?_eq_some_iff.1 hj).1;rw [List.length_zipWith] at this;omega) hj
 rw [he]
 repeat' (with_reducible first|refine qq ?_|(refine Tx 8 ?_;refine Jo xLt ?_)|(refine Tx 15 ?_;refine Ja ?_))
 exact Ap rfl (.cons_ (Qh rfl rfl) .nil_)
theorem RT (t:Bool) {ps:List Prt} {bs:List Bk} {os:List Int} (hl:Lb ps bs os) (F:List Int) (qs:List (Rv × Rv)) (rs:List Rv) (hwq:∀ q∈qs,RvL q.1∧RvL q.2) (hwr:∀ r∈rs,RvL r) (hFl:F.length≤1000000) (hQl:qs.length≤1000000) (hRl:rs.length≤1000000):CV Tryz.prog Ax 12 [aDg t ps bs os,.agg (dCr false F qs rs)] [aB (vfE ps bs os F qs rs),.agg [dI (vfP ps bs os F qs rs).1,dI (vfP ps bs os F qs rs).2],aE (ckE ps bs os F qs rs)]:=by
 refine cvz Tryz.func12 Tryz.ntmps12 ?_
 have CK:=NQ t false hl F qs rs hwq hwr hFl hQl hRl
 have hl1:=hl.l1
 have hl2:=hl.l2
 by_cases h0:ckE ps bs os F qs rs=0
 case neg =>
  have e1:vfE ps bs os F qs rs=false:=by unfold vfE;rw [decide_eq_false h0];rfl
  have e2:vfP ps bs os F qs rs=(0,0):=if_neg h0
  rw [e1,e2]
  repeat' (with_reducible first|refine qq ?_|(refine Tx 0 ?_;refine Jn xBo ?_;refine Jn xBo ?_;refine Ja ?_;refine Jn (xAl DZ) ?_;refine Ja ?_)|(refine Tx 1 ?_;refine jA ?_;refine jA ?_;refine Jo (xCl Tryz.func49 (CK)) ?_;refine Ja ?_)|(refine Tx 2 ?_;refine Jm ?_;refine Jo (by first|exact DS rfl AQ rfl (Ok h0)|exact DS rfl AQ rfl (Re (by first|rfl|omega))|exact DS rfl AQ rfl (Ok (by first|assumption|omega))|exact DS rfl AQ rfl rfl) ?_)|(refine Tx 3 ?_;refine Jo (by exact BI rfl FK rfl rfl) ?_;refine Jm ?_;refine Ja ?_;refine Js (xSk BB) ?_;refine Ja ?_))
  exact Ap rfl (.cons_ (BL rfl rfl) (.cons_ (AgE BB) (.cons_ (rv_e rfl rfl) .nil_)))
 obtain ⟨hd,ok,hdc,_,_⟩:=XH hwq hwr h0
 rw [h0] at CK
 rw [h0]
 have e2:vfP ps bs os F qs rs=vfF ps bs (MW F qs rs):=if_pos h0
 have e1:vfE ps bs os F qs rs=(vfK ps bs (MW F qs rs)).isNone:=by unfold vfE;rw [decide_eq_true h0,Bool.true_and]
 rw [e1,e2]
 rw [hdc] at CK
 rw [hdc]
 generalize MW F qs rs=c at *
 clear e1 e2 h0
 repeat' (with_reducible first|refine qq ?_|(refine Tx 0 ?_;refine Jn xBo ?_;refine Jn xBo ?_;refine Ja ?_;refine Jn (xAl DZ) ?_;refine Ja ?_)|(refine Tx 1 ?_;refine jA ?_;refine jA ?_;refine Jo (xCl Tryz.func49 (CK)) ?_;refine Ja ?_)|(refine Tx 2 ?_;refine Jm ?_;refine Jo (xNE AQ) ?_)|(refine Tx 4 ?_;refine jF ?_;refine jD ?_;refine jN ?_;refine Jm ?_))
 refine CF (F':=ofL [(2,vr 0),(3,vr 1),(5,vr 2),(18,vd (EX t bs)),(19,vi bs.length),(20,vi ((0:Nat)))]) (H':=[.box 26 [.d (Fk t ps),.d (EX t bs),.d (BQ t os)],.box 30 [.d (BQ false c.F),.d (.row false 6 c.R.length (AN (dIw false) c.R)),.d (.row false 3 c.E.length (AN dyP c.E))],.box 34 [.d (.val (.int .i64 0)),.d (.val (.int .i64 0))]]) (BM _ 3 ?_ ?_ ?_) ?_
 ·rfl
 ·exact mB rfl rfl
 ·exact ⟨AF rfl,AF rfl,AF rfl,trivial⟩
 refine Bp (fun n Fr H=>∃ k:Nat,k≤bs.length∧n=bs.length - k∧(∀ i,i<k→Ld ps bs c i=0)∧Fr=ofL [(2,vr 0),(3,vr 1),(5,vr 2),(18,vd (EX t bs)),(19,vi bs.length),(20,vi ((k:Nat)))]∧H=[.box 26 [.d (Fk t ps),.d (EX t bs),.d (BQ t os)],.box 30 [.d (BQ false c.F),.d (.row false 6 c.R.length (AN (dIw false) c.R)),.d (.row false 3 c.E.length (AN dyP c.E))],.box 34 [.d (.val (.int .i64 0)),.d (.val (.int .i64 0))]]) (n0:=bs.length) ⟨0,Nat.zero_le _,rfl,(fun i hi=>absurd hi (Nat.not_lt_zero _)),rfl,rfl⟩ ?_
 rintro n Fr H ⟨k,hk,rfl,hz,rfl,rfl⟩
 by_cases hlt:k<bs.length
 case pos =>
  obtain ⟨y,hy⟩:∃ y,bs[k]?=some y:=⟨_,List.getElem?_eq_getElem hlt⟩
  have LK:=UB t false os c k hy (Uz hd hy) ok hl2 hl1
  have vs:=AcS hlt hz
  generalize hq:Ld ps bs c k=q at *
  by_cases h1:q=0
  case neg =>
   have vs:=vs h1
   have e1:(vfK ps bs c).isNone=false:=by rw [vs];rfl
   have e2:vfF ps bs c=(q,(k:Int)):=by unfold vfF;rw [vs];show (Ld ps bs c k,_)=_;rw [hq]
   rw [e1,e2]
   repeat' (with_reducible first|refine qq ?_|(refine Tx 5 ?_;refine Jo xLt ?_)|(refine Tx 6 ?_;refine Jm ?_;refine Ja ?_)|(refine Tx 7 ?_;refine jA ?_;refine jA ?_;refine Jm ?_;refine Jo (xCl Tryz.func50 (LK)) ?_;refine Ja ?_)|(refine Tx 8 ?_;refine Jm ?_;refine Jo xNe ?_)|(refine Tx 9 ?_;refine Jm ?_;refine Jm ?_;refine Jo (by exact BI rfl FK rfl rfl) ?_;refine Ja ?_;refine Js (xSk BB) ?_;refine Ja ?_))
   exact Ap rfl (.cons_ (BL rfl rfl) (.cons_ (AgE BB) (.cons_ (Qh rfl rfl) .nil_)))
  subst h1
  repeat' (with_reducible first|refine qq ?_|(refine Tx 5 ?_;refine Jo xLt ?_)|(refine Tx 6 ?_;refine Jm ?_;refine Ja ?_)|(refine Tx 7 ?_;refine jA ?_;refine jA ?_;refine Jm ?_;refine Jo (xCl Tryz.func50 (LK)) ?_;refine Ja ?_)|(refine Tx 8 ?_;refine Jm ?_;refine Jo xNe ?_)|(refine Tx 10 ?_;refine Jo xAd ?_;refine Jm ?_))
  refine ⟨_,_,BM _ 3 ?_ ?_ ?_,_,by omega,k+1,by omega,rfl,AcD hz hq,rfl,rfl⟩
  ·rfl
  ·exact mB rfl rfl
  ·exact ⟨AF rfl,AF rfl,AF rfl,trivial⟩
 obtain rfl:k=bs.length:=by omega
 have vn:=XI.2 hz
 have e1:(vfK ps bs c).isNone=true:=by rw [vn];rfl
 have e2:vfF ps bs c=(0,0):=by unfold vfF;rw [vn]
 rw [e1,e2]
 repeat' (with_reducible first|refine qq ?_|(refine Tx 5 ?_;refine Jo xLt ?_)|(refine Tx 11 ?_;refine Jo (by exact BI rfl FK rfl rfl) ?_;refine Ja ?_;refine Js (xSk BB) ?_;refine Ja ?_))
 exact Ap rfl (.cons_ (BL rfl rfl) (.cons_ (AgE BB) (.cons_ (Qh rfl rfl) .nil_)))
def Ee (qs:List (Rv × Rv)):Bool:=(qs.all fun q=>decide (q.1.ws.length≤140∧q.2.ws.length≤140∧q.1.den≤9000∧q.2.den≤9000)) && decide (qs.length≤100)
theorem UE {qs:List (Rv × Rv)} (h:Ee qs=true) (hw:∀ q∈qs,Az q.1.ws∧Az q.2.ws):(∀ q∈qs,RvL q.1∧RvL q.2)∧qs.length≤100∧∀ q∈qs,q.1.ws.length≤140∧q.2.ws.length≤140:=by
 unfold Ee at h
 rw [Bool.and_eq_true] at h
 have key:∀ q∈qs,q.1.ws.length≤140∧q.2.ws.length≤140:=fun q hq=>by
  have:=of_decide_eq_true (List.all_eq_true.1 h.1 q hq)
  exact ⟨this.1,this.2.1⟩
 exact ⟨fun q hq=>⟨⟨(hw q hq).1,by have:=(key q hq).1;omega⟩,(hw q hq).2,by have:=(key q hq).2;omega⟩,of_decide_eq_true h.2,key⟩
theorem XK (qs:List (Rv × Rv)) (hrl:(qs.length:Int)≤9223372036854775807):CV Tryz.prog Ax 113 [.one (Pa qs)] [aB (Ee qs)]:=by
 refine cvz Tryz.func113 Tryz.ntmps113 ?_
 repeat' (with_reducible first|refine qq ?_|(refine Tx 0 ?_;refine Ja ?_)|(refine Tx 1 ?_;refine Jm ?_;refine jN ?_;refine Jm ?_))
 refine CF (F':=ofL [(0,vd (Pa qs)),(5,vd (Pa qs)),(6,vi qs.length),(7,vi ((0:Nat)))]) (H':=[]) (BM _ 0 ?_ ?_ ?_) ?_
 ·rfl
 ·exact mB rfl rfl
 ·exact trivial
 refine Bp (fun n Fr H=>∃ k:Nat,k≤qs.length∧n=qs.length - k∧(qs.take k).all (fun q:Rv × Rv=>decide (q.1.ws.length≤140∧q.2.ws.length≤140∧q.1.den≤9000∧q.2.den≤9000))=true∧Fr=ofL [(0,vd (Pa qs)),(5,vd (Pa qs)),(6,vi qs.length),(7,vi ((k:Nat)))]∧H=[]) (n0:=qs.length) ⟨0,Nat.zero_le _,rfl,rfl,rfl,rfl⟩ ?_
 rintro n Fr H ⟨k,hk,rfl,hall,rfl,rfl⟩
 by_cases hlt:k<qs.length
 case pos =>
  obtain ⟨q,hq⟩:∃ q,qs[k]?=some q:=⟨_,List.getElem?_eq_getElem hlt⟩
  by_cases c1:q.1.ws.length≤140
  case neg =>
   repeat' (with_reducible first|refine qq ?_|(refine Tx 2 ?_;refine Jo xLt ?_)|(refine Tx 3 ?_;refine Jo (xIr Af (Gx hq)) ?_;refine jA ?_;refine Jn (xAl Ao) ?_;refine Js (xSk Ag) ?_)|(refine Tx 4 ?_;refine jF ?_;refine jF ?_;refine jD ?_;refine jN ?_;refine Jo xGt ?_;refine Jm ?_;(first|iterate 5 refine Jd ?_|(refine Jy (xFa Av Aa) ?_;refine Jy (xFa BH AG) ?_;refine Jy (xLd AG) ?_;refine Jy (xLn Bc) ?_;refine Jy xGt ?_));refine Jo xPk ?_;refine Jm ?_;(first|iterate 4 refine Jd ?_|(refine Jy (xFa Bg Aa) ?_;refine Jy (xFa Bm Al) ?_;refine Jy (xLd Al) ?_;refine Jy xGt ?_));refine Jo xPk ?_;refine Jm ?_;(first|iterate 4 refine Jd ?_|(refine Jy (xFa Av Aa) ?_;refine Jy (xFa Bm Al) ?_;refine Jy (xLd Al) ?_;refine Jy xGt ?_));refine Jo xPk ?_)|(refine Tx 5 ?_;refine Ja ?_))
   exact Ap rfl (.cons_ (BL rfl (by unfold Ee;rw [IU hq (decide_eq_false (by omega)),Bool.false_and])) .nil_)
  by_cases c2:q.2.ws.length≤140
  case neg =>
   repeat' (with_reducible first|refine qq ?_|(refine Tx 2 ?_;refine Jo xLt ?_)|(refine Tx 3 ?_;refine Jo (xIr Af (Gx hq)) ?_;refine jA ?_;refine Jn (xAl Ao) ?_;refine Js (xSk Ag) ?_)|(refine Tx 4 ?_;refine jF ?_;refine jF ?_;refine jD ?_;refine jN ?_;refine Jo xGt ?_;refine Jm ?_;(first|iterate 5 refine Jd ?_|(refine Jy (xFa Av Aa) ?_;refine Jy (xFa BH AG) ?_;refine Jy (xLd AG) ?_;refine Jy (xLn Bc) ?_;refine Jy xGt ?_));refine Jo xPk ?_;refine Jm ?_;(first|iterate 4 refine Jd ?_|(refine Jy (xFa Bg Aa) ?_;refine Jy (xFa Bm Al) ?_;refine Jy (xLd Al) ?_;refine Jy xGt ?_));refine Jo xPk ?_;refine Jm ?_;(first|iterate 4 refine Jd ?_|(refine Jy (xFa Av Aa) ?_;refine Jy (xFa Bm Al) ?_;refine Jy (xLd Al) ?_;refine Jy xGt ?_));refine Jo xPk ?_)|(refine Tx 5 ?_;refine Ja ?_))
   exact Ap rfl (.cons_ (BL rfl (by unfold Ee;rw [IU hq (decide_eq_false (by omega)),Bool.false_and])) .nil_)
  by_cases c3:q.1.den≤9000
  case neg =>
   repeat' (with_reducible first|refine qq ?_|(refine Tx 2 ?_;refine Jo xLt ?_)|(refine Tx 3 ?_;refine Jo (xIr Af (Gx hq)) ?_;refine jA ?_;refine Jn (xAl Ao) ?_;refine Js (xSk Ag) ?_)|(refine Tx 4 ?_;refine jF ?_;refine jF ?_;refine jD ?_;refine jN ?_;refine Jo xGt ?_;refine Jm ?_;(first|iterate 5 refine Jd ?_|(refine Jy (xFa Av Aa) ?_;refine Jy (xFa BH AG) ?_;refine Jy (xLd AG) ?_;refine Jy (xLn Bc) ?_;refine Jy xGt ?_));refine Jo xPk ?_;refine Jm ?_;(first|iterate 4 refine Jd ?_|(refine Jy (xFa Bg Aa) ?_;refine Jy (xFa Bm Al) ?_;refine Jy (xLd Al) ?_;refine Jy xGt ?_));refine Jo xPk ?_;refine Jm ?_;(first|iterate 4 refine Jd ?_|(refine Jy (xFa Av Aa) ?_;refine Jy (xFa Bm Al) ?_;refine Jy (xLd Al) ?_;refine Jy xGt ?_));refine Jo xPk ?_)|(refine Tx 5 ?_;refine Ja ?_))
   exact Ap rfl (.cons_ (BL rfl (by unfold Ee;rw [IU hq (decide_eq_false (by omega)),Bool.false_and])) .nil_)
  by_cases c4:q.2.den≤9000
  case neg =>
   repeat' (with_reducible first|refine qq ?_|(refine Tx 2 ?_;refine Jo xLt ?_)|(refine Tx 3 ?_;refine Jo (xIr Af (Gx hq)) ?_;refine jA ?_;refine Jn (xAl Ao) ?_;refine Js (xSk Ag) ?_)|(refine Tx 4 ?_;refine jF ?_;refine jF ?_;refine jD ?_;refine jN ?_;refine Jo xGt ?_;refine Jm ?_;(first|iterate 5 refine Jd ?_|(refine Jy (xFa Av Aa) ?_;refine Jy (xFa BH AG) ?_;refine Jy (xLd AG) ?_;refine Jy (xLn Bc) ?_;refine Jy xGt ?_));refine Jo xPk ?_;refine Jm ?_;(first|iterate 4 refine Jd ?_|(refine Jy (xFa Bg Aa) ?_;refine Jy (xFa Bm Al) ?_;refine Jy (xLd Al) ?_;refine Jy xGt ?_));refine Jo xPk ?_;refine Jm ?_;(first|iterate 4 refine Jd ?_|(refine Jy (xFa Av Aa) ?_;refine Jy (xFa Bm Al) ?_;refine Jy (xLd Al) ?_;refine Jy xGt ?_));refine Jo xPk ?_)|(refine Tx 5 ?_;refine Ja ?_))
   exact Ap rfl (.cons_ (BL rfl (by unfold Ee;rw [IU hq (decide_eq_false (by omega)),Bool.false_and])) .nil_)
  repeat' (with_reducible first|refine qq ?_|(refine Tx 2 ?_;refine Jo xLt ?_)|(refine Tx 3 ?_;refine Jo (xIr Af (Gx hq)) ?_;refine jA ?_;refine Jn (xAl Ao) ?_;refine Js (xSk Ag) ?_)|(refine Tx 4 ?_;refine jF ?_;refine jF ?_;refine jD ?_;refine jN ?_;refine Jo xGt ?_;refine Jm ?_;(first|iterate 5 refine Jd ?_|(refine Jy (xFa Av Aa) ?_;refine Jy (xFa BH AG) ?_;refine Jy (xLd AG) ?_;refine Jy (xLn Bc) ?_;refine Jy xGt ?_));refine Jo xPk ?_;refine Jm ?_;(first|iterate 4 refine Jd ?_|(refine Jy (xFa Bg Aa) ?_;refine Jy (xFa Bm Al) ?_;refine Jy (xLd Al) ?_;refine Jy xGt ?_));refine Jo xPk ?_;refine Jm ?_;(first|iterate 4 refine Jd ?_|(refine Jy (xFa Av Aa) ?_;refine Jy (xFa Bm Al) ?_;refine Jy (xLd Al) ?_;refine Jy xGt ?_));refine Jo xPk ?_)|(refine Tx 6 ?_;refine Jo xAd ?_;refine Jm ?_))
  refine ⟨_,_,BM _ 0 ?_ ?_ ?_,_,by omega,k+1,by omega,rfl,Hp hq hall (decide_eq_true ⟨c1,c2,c3,c4⟩),rfl,rfl⟩
  ·rfl
  ·exact mB rfl rfl
  ·exact trivial
 obtain rfl:k=qs.length:=by omega
 rw [List.take_length] at hall
 by_cases c3:qs.length≤100
 case pos =>
  repeat' (with_reducible first|refine qq ?_|(refine Tx 2 ?_;refine Jo xLt ?_)|(refine Tx 7 ?_;refine Jm ?_;refine jN ?_;refine Jo xLe ?_;refine Ja ?_))
  exact Ap rfl (.cons_ (BL rfl (by unfold Ee;rw [hall,decide_eq_true c3];rfl)) .nil_)
 case neg =>
  repeat' (with_reducible first|refine qq ?_|(refine Tx 2 ?_;refine Jo xLt ?_)|(refine Tx 7 ?_;refine Jm ?_;refine jN ?_;refine Jo xLe ?_;refine Ja ?_))
  exact Ap rfl (.cons_ (BL rfl (by unfold Ee;rw [hall,decide_eq_false c3];rfl)) .nil_)
theorem XL (x:Int) (d den:Nat) (hn:Nf x d) (hl:(Ad x.natAbs).length≤40000) (hd:den≤65536):CVF Tryz.prog Ax 173 [aDy false x d,aI (den:Int)] [aDy false (BO x d den).1 (BO x d den).2,aI 0]:=fun w S vs hg hlt ha=>by
 obtain ⟨v,vs',rfl,h1,ha⟩:=ha.uncons
 obtain ⟨u,hu,h2⟩:=BW ha
 subst hu
 cases h2
 exact (WE (GS h1 hlt hn) (Nat.le_refl _) (Nat.le_trans hl (by decide)) hd).mono fun r w' ⟨v,he,hd,hb⟩=>⟨_,he,GR (GC hd) (BE.val rfl),hb⟩
theorem AcT {ps:List Prt} {bs:List Bk} {os F:List Int} {qs:List (Rv × Rv)} {rs:List Rv} (h:ckE ps bs os F qs rs=0):F.length=bs.length∧qs.length=bs.length∧rs.length=bs.length∧ckL qs rs=0:=by
 unfold ckE at h
 by_cases h0:BN ps bs os=0
 case neg=>rw [if_pos h0] at h;exact absurd h h0
 rw [if_neg (not_not_intro h0)] at h
 by_cases hl:F.length=bs.length∧qs.length=bs.length∧rs.length=bs.length
 case neg=>rw [if_neg hl] at h;cases h
 rw [if_pos hl] at h
 exact ⟨hl.1,hl.2.1,hl.2.2,h⟩
theorem AeZ {qs:List (Rv × Rv)} {rs:List Rv} (h:ckL qs rs=0) {k:Nat} {q:Rv × Rv} {r:Rv} (h1:qs[k]?=some q) (h2:rs[k]?=some r):ivC q=true∧vdB r.rw=true∧¬ sgI (rvP r).1<0∧Dd (rvP r)=false∧Dd (rvP q.1)=false∧Dd (rvP q.2)=false:=by
 have h3:=CX h _ (List.mem_of_getElem? (TI h1 h2))
 unfold MK at h3
 by_cases c1:ivC q=false∨vdB r.rw=false∨sgI (rvP r).1<0
 ·rw [if_pos c1] at h3;cases h3
 rw [if_neg c1] at h3
 by_cases c2:Dd (rvP r)=true∨Dd (rvP q.1)=true∨Dd (rvP q.2)=true
 ·rw [if_pos c2] at h3;cases h3
 simp only [not_or,Bool.not_eq_false,Bool.not_eq_true] at c1 c2
 exact ⟨c1.1,c1.2.1,c1.2.2,c2.1,c2.2.1,c2.2.2⟩
def Afa (r:Rv):Bool:=decide (r.ws.length≤140∧r.den≤9000)
def GZ (ps:List Prt) (bs:List Bk) (os F:List Int) (qs:List (Rv × Rv)) (rs:List Rv):Bool:=FA ps bs os && Ee qs && decide (F.length≤100∧rs.length≤100) && rs.all Afa
theorem NR {ps:List Prt} {bs:List Bk} {os F:List Int} {qs:List (Rv × Rv)} {rs:List Rv} (h:GZ ps bs os F qs rs=true):FA ps bs os=true∧Ee qs=true∧F.length≤100∧rs.length≤100∧∀ r∈rs,r.ws.length≤140:=by
 unfold GZ at h
 rw [Bool.and_eq_true,Bool.and_eq_true,Bool.and_eq_true] at h
 have:=of_decide_eq_true h.1.2
 exact ⟨h.1.1.1,h.1.1.2,this.1,this.2,fun r hr=>(of_decide_eq_true (List.all_eq_true.1 h.2 r hr)).1⟩
section
variable {P:Program} {G:World→Prop} {o:Oper} {F:Frm} {H:List Ob}
theorem XM {x y:Operand} {t':TypeId} {p q r:Int} (hr:p*q=r) (ho:o.op=.binOp .mul t' x y t') (hx:F.ev x=.one (.d (.val (.int .i64 p)))) (hy:F.ev y=.one (.d (.val (.int .i64 q)))) (hb : -9223372036854775808≤r∧r≤9223372036854775807):Bs P G o F H (.one (.d (.val (.int .i64 r)))) []:=by
 subst hr
 exact Ff ho hx hy hb
end
theorem ZF (x:Int) (d den:Nat) (hn:Nf x d) (hl:(Ad x.natAbs).length≤40000) (hd:den≤65536):CV Tryz.prog Ax 83 [aDy false x d,aI (den:Int)] [aDy false (Us (x,d) den).1 (Us (x,d) den).2,aI 0]:=by
 refine cvz Tryz.func83 Tryz.ntmps83 ?_
 have N1:=WL Ax false x d hn (Nat.le_trans hl (by decide))
 have hn2:Nf (-x) d:=⟨hn.1,fun h0=>by have:=hn.2 h0;omega⟩
 have hl2:(Ad (-x).natAbs).length≤40000:=by rw [Int.natAbs_neg];exact hl
 have FL:=XL (-x) d den hn2 hl2 hd
 have hn3:=Tw (x := -x) (d:=d) (den:=den) hn2 hd
 have hl3:=Qx (d:=d) (den:=den) hl2
 have N2:=WL Ax false _ _ hn3 (Nat.le_trans hl3 (by decide))
 repeat' (with_reducible first|refine qq ?_|(refine Tx 0 ?_;refine Jn xBo ?_;refine Jn (xAl Aj) ?_;refine Ja ?_)|(refine Tx 1 ?_;refine jA ?_;refine Jo (by first|exact xCl Tryz.func112 (N1.cv)|exact xCl Tryz.func112 (N2.cv)) ?_;refine Jm ?_;refine Jo (xCl Tryz.func173 (FL.cv)) ?_;refine Jo xMt ?_;refine Jo (by exact FN rfl rfl rfl) ?_;refine Jo xEx ?_;refine Jn (xAl Aj) ?_;refine Js (xSk Aa) ?_;refine Ja ?_)|(refine Tx 2 ?_;refine jA ?_;refine Jo (by first|exact xCl Tryz.func112 (N1.cv)|exact xCl Tryz.func112 (N2.cv)) ?_;refine Jm ?_;refine Js (xSk Aa) ?_;refine Ja ?_))
 exact Ap rfl (.cons_ (rvW Aa rfl) (.cons_ (MT rfl rfl) .nil_))
theorem Afb (x:Pq) (sx:Sm x 40064 40000):CV Tryz.prog Ax 28 [aDy false x.1 x.2] [aDy false (upQ x).1 (upQ x).2]:=by
 refine cvz Tryz.func28 Tryz.ntmps28 ?_
 have CE:=ZF x.1 x.2 62 sx.ok (Nat.le_trans (sx.lenN 1252 (by decide)) (by decide)) (by decide)
 repeat' (with_reducible first|refine qq ?_|(refine Tx 0 ?_;refine Jn xBo ?_;refine Jn (xAl Aj) ?_)|(refine Tx 1 ?_;refine jA ?_;refine Jo (xCl Tryz.func83 (CE)) ?_;refine Jo xMt ?_;refine Jo (by exact FN rfl rfl rfl) ?_;refine Jo xEx ?_;refine Jn (xAl Aj) ?_;refine Js (xSk Aa) ?_;refine Ja ?_)|(refine Tx 2 ?_;refine jA ?_;refine Js (xSk Aa) ?_))
 exact Ap rfl (.cons_ (rvW Aa rfl) .nil_)
theorem ZG (t u:Bool) {ps:List Prt} {bs:List Bk} {os:List Int} (hl:Lb ps bs os) (F:List Int) (qs:List (Rv × Rv)) (rs:List Rv) (hwq:∀ q∈qs,RvL q.1∧RvL q.2) (hwr:∀ r∈rs,RvL r) (hFl:F.length≤1000000) (hQl:qs.length≤1000000) (hRl:rs.length≤1000000) (h0:ckE ps bs os F qs rs=0):CV Tryz.prog Ax 26 [aDg t ps bs os,.agg (dCr u F qs rs)] [aI 0]:=by
 refine cvz Tryz.func26 Tryz.ntmps26 ?_
 obtain ⟨l1,l2,l3,hk⟩:=AcT h0
 repeat' (with_reducible first|refine qq ?_|(refine Tx 0 ?_;refine Jn xBo ?_;refine Jn xBo ?_;refine Ja ?_)|(refine Tx 1 ?_;refine jF ?_;refine jD ?_;refine jN ?_;refine Ja ?_)|(refine Tx 2 ?_;refine jF ?_;refine jD ?_;refine jN ?_;refine Jm ?_;refine Jo xNe ?_;refine Jm ?_;(first|iterate 5 refine Jd ?_|(refine Jy (xFa Df AJ) ?_;refine Jy (xLd AJ) ?_;refine Jy (xLn Af) ?_;refine Jy xM1 ?_;refine Jy xNe ?_));refine Jo xPk ?_;refine Jm ?_;(first|iterate 5 refine Jd ?_|(refine Jy (xFa Bw An) ?_;refine Jy (xLd An) ?_;refine Jy (xLn Ac) ?_;refine Jy xM1 ?_;refine Jy xNe ?_));refine Jo xPk ?_)|(refine Tx 4 ?_;refine jF ?_;refine jD ?_;refine jN ?_;refine Jm ?_))
 refine CF (F':=ofL [(2,vr 0),(3,vr 1),(31,vd (Pa qs)),(32,vi qs.length),(33,vi ((0:Nat)))]) (H':=[.box 26 [.d (Fk t ps),.d (EX t bs),.d (BQ t os)],.box 30 [.d (BQ u F),.d (Pa qs),.d (Xb rs)]]) (BM _ 2 ?_ ?_ ?_) ?_
 ·rfl
 ·exact mB rfl rfl
 ·exact ⟨AF rfl,AF rfl,trivial⟩
 refine Bp (fun n Fr H=>∃ k:Nat,k≤qs.length∧n=qs.length - k∧Fr=ofL [(2,vr 0),(3,vr 1),(31,vd (Pa qs)),(32,vi qs.length),(33,vi ((k:Nat)))]∧H=[.box 26 [.d (Fk t ps),.d (EX t bs),.d (BQ t os)],.box 30 [.d (BQ u F),.d (Pa qs),.d (Xb rs)]]) (n0:=qs.length) ⟨0,Nat.zero_le _,rfl,rfl,rfl⟩ ?_
 rintro n Fr H ⟨k,hkq,rfl,rfl,rfl⟩
 by_cases hlt:k<qs.length
 case pos =>
  obtain ⟨q,hq⟩:∃ q,qs[k]?=some q:=⟨_,List.getElem?_eq_getElem hlt⟩
  obtain ⟨r,hr⟩:∃ r,rs[k]?=some r:=⟨_,List.getElem?_eq_getElem (by omega)⟩
  have wq:=hwq q (List.mem_of_getElem? hq)
  have wr:=hwr r (List.mem_of_getElem? hr)
  obtain ⟨h1,h2,h3,h4,h5,h6⟩:=AeZ hk hq hr
  obtain ⟨sw,hdy,lw1,lw2⟩:=TB wq.1 wq.2 h1
  obtain ⟨d0,n0,m0⟩:=ZE wr h2
  have VI:CV Tryz.prog Ax 80 [.agg (dIw false (ivQ q))] [aB true]:=by rw [←hdy,←h1];exact Uw q.1 q.2 wq.1 wq.2
  have VD:CV Tryz.prog Ax 81 [.agg (dyP (rvP r))] [aB true]:=by rw [←d0,←h2];exact (Mw (G:=Ax) false r wr.1 (by have:=wr.2;omega)).cv
  have SG:=ZA (rvP r).1 (rvP r).2 n0 m0
  have LR:=OL (rvP r).1 (rvP r).2 n0 m0
  have L1:=OL (rvP q.1).1 (rvP q.1).2 sw.s1.ok lw1
  have L2:=OL (rvP q.2).1 (rvP q.2).2 sw.s2.ok lw2
  rw [show RJ (rvP r).1.natAbs (rvP r).2=false from h4] at LR
  rw [show RJ (rvP q.1).1.natAbs (rvP q.1).2=false from h5] at L1
  rw [show RJ (rvP q.2).1.natAbs (rvP q.2).2=false from h6] at L2
  have hia:=Gx hq
  have hra:=Lc hr
  rw [hdy] at hia
  rw [d0] at hra
  repeat' (with_reducible first|refine qq ?_|(refine Tx 5 ?_;refine Jo xLt ?_)|(refine Tx 6 ?_;refine Jm ?_;refine Jo (by first|exact xIr Af (hia)|exact xIr Af (hra)) ?_;refine jA ?_;refine Jn (xAl Ao) ?_;refine Ja ?_;refine Js (xSk Ag) ?_)|(refine Tx 7 ?_;refine jA ?_;refine Jo (xCl Tryz.func80 (VI)) ?_;refine Jo (by first|exact xNt|exact xNg) ?_;refine Jm ?_;(first|iterate 7 refine Jd ?_|(refine Jy (xFa Bw An) ?_;refine Jy (xLd An) ?_;refine Jy xM1 ?_;refine Jy (by first|exact xIr Ac (hia)|exact xIr Ac (hra)) ?_;refine Jy (xLa Aa) ?_;refine Jy (xCl Tryz.func81 (VD)) ?_;refine Jy (by first|exact xNt|exact xNg) ?_));refine Jo xPk ?_;refine Jm ?_;(first|iterate 7 refine Jd ?_|(refine Jy (xFa Bw An) ?_;refine Jy (xLd An) ?_;refine Jy xM1 ?_;refine Jy (by first|exact xIr Ac (hia)|exact xIr Ac (hra)) ?_;refine Jy (xLa Aa) ?_;refine Jy (xCl Tryz.func41 (SG)) ?_;refine Jy xLt ?_));refine Jo xPk ?_)|(refine Tx 9 ?_;refine jF ?_;refine jD ?_;refine Jm ?_;refine Jo (by first|exact xIr Ac (hia)|exact xIr Ac (hra)) ?_;refine jA ?_;refine Jo (by first|exact xCl Tryz.func82 (LR)|exact xCl Tryz.func82 (L1)|exact xCl Tryz.func82 (L2)) ?_;refine Jm ?_;(first|iterate 3 refine Jd ?_|(refine Jy (xFa Bg Aa) ?_;refine Jy (xLa Aa) ?_;refine Jy (by first|exact xCl Tryz.func82 (LR)|exact xCl Tryz.func82 (L1)|exact xCl Tryz.func82 (L2)) ?_));refine Jo xPk ?_;refine Jm ?_;(first|iterate 3 refine Jd ?_|(refine Jy (xFa Av Aa) ?_;refine Jy (xLa Aa) ?_;refine Jy (by first|exact xCl Tryz.func82 (LR)|exact xCl Tryz.func82 (L1)|exact xCl Tryz.func82 (L2)) ?_));refine Jo xPk ?_)|(refine Tx 11 ?_;refine Jo xAd ?_;refine Jm ?_))
  refine ⟨_,_,BM _ 2 ?_ ?_ ?_,_,by omega,k+1,by omega,rfl,rfl,rfl⟩
  ·rfl
  ·exact mB rfl rfl
  ·exact ⟨AF rfl,AF rfl,trivial⟩
 obtain rfl:k=qs.length:=by omega
 repeat' (with_reducible first|refine qq ?_|(refine Tx 5 ?_;refine Jo xLt ?_)|(refine Tx 12 ?_;refine Ja ?_))
 exact Ap rfl (.cons_ (MT rfl rfl) .nil_)
theorem UF (t u:Bool) (ps:List Prt) (bs:List Bk) (os F:List Int) (qs:List (Rv × Rv)) (rs:List Rv) (hqn:(qs.length:Int)≤9223372036854775807) (hfn:(F.length:Int)≤9223372036854775807) (hrn:(rs.length:Int)≤9223372036854775807):CV Tryz.prog Ax 43 [aDg t ps bs os,.agg (dCr u F qs rs)] [aB (GZ ps bs os F qs rs)]:=by
 refine cvz Tryz.func43 Tryz.ntmps43 ?_
 have LT:=Xq t ps bs os
 have LE:=XK qs hqn
 unfold GZ
 cases h1:FA ps bs os
 case false =>
  rw [h1] at LT
  repeat' (with_reducible first|refine qq ?_|(refine Tx 0 ?_;refine Jn xBo ?_;refine Jn xBo ?_;refine Ja ?_)|(refine Tx 1 ?_;refine jA ?_;refine Jo (xCl Tryz.func31 (LT)) ?_;refine Jo (by first|exact xNt|exact xNg) ?_;refine Jm ?_;(first|iterate 4 refine Jd ?_|(refine Jy (xFa Df AJ) ?_;refine Jy (xLd AJ) ?_;refine Jy (xCl Tryz.func113 (LE)) ?_;refine Jy (by first|exact xNt|exact xNg) ?_));refine Jo xPk ?_;refine Jm ?_;(first|iterate 4 refine Jd ?_|(refine Jy (xFa DT AM) ?_;refine Jy (xLd AM) ?_;refine Jy (xLn Ab) ?_;refine Jy xGt ?_));refine Jo xPk ?_;refine Jm ?_;(first|iterate 4 refine Jd ?_|(refine Jy (xFa Bw An) ?_;refine Jy (xLd An) ?_;refine Jy (xLn Ac) ?_;refine Jy xGt ?_));refine Jo xPk ?_)|(refine Tx 2 ?_;refine Ja ?_))
  exact Ap rfl (.cons_ (BL rfl (rfl)) .nil_)
 rw [h1] at LT
 cases h2:Ee qs
 case false =>
  rw [h2] at LE
  repeat' (with_reducible first|refine qq ?_|(refine Tx 0 ?_;refine Jn xBo ?_;refine Jn xBo ?_;refine Ja ?_)|(refine Tx 1 ?_;refine jA ?_;refine Jo (xCl Tryz.func31 (LT)) ?_;refine Jo (by first|exact xNt|exact xNg) ?_;refine Jm ?_;(first|iterate 4 refine Jd ?_|(refine Jy (xFa Df AJ) ?_;refine Jy (xLd AJ) ?_;refine Jy (xCl Tryz.func113 (LE)) ?_;refine Jy (by first|exact xNt|exact xNg) ?_));refine Jo xPk ?_;refine Jm ?_;(first|iterate 4 refine Jd ?_|(refine Jy (xFa DT AM) ?_;refine Jy (xLd AM) ?_;refine Jy (xLn Ab) ?_;refine Jy xGt ?_));refine Jo xPk ?_;refine Jm ?_;(first|iterate 4 refine Jd ?_|(refine Jy (xFa Bw An) ?_;refine Jy (xLd An) ?_;refine Jy (xLn Ac) ?_;refine Jy xGt ?_));refine Jo xPk ?_)|(refine Tx 2 ?_;refine Ja ?_))
  exact Ap rfl (.cons_ (BL rfl (rfl)) .nil_)
 rw [h2] at LE
 by_cases c1:F.length≤100
 case neg =>
  repeat' (with_reducible first|refine qq ?_|(refine Tx 0 ?_;refine Jn xBo ?_;refine Jn xBo ?_;refine Ja ?_)|(refine Tx 1 ?_;refine jA ?_;refine Jo (xCl Tryz.func31 (LT)) ?_;refine Jo (by first|exact xNt|exact xNg) ?_;refine Jm ?_;(first|iterate 4 refine Jd ?_|(refine Jy (xFa Df AJ) ?_;refine Jy (xLd AJ) ?_;refine Jy (xCl Tryz.func113 (LE)) ?_;refine Jy (by first|exact xNt|exact xNg) ?_));refine Jo xPk ?_;refine Jm ?_;(first|iterate 4 refine Jd ?_|(refine Jy (xFa DT AM) ?_;refine Jy (xLd AM) ?_;refine Jy (xLn Ab) ?_;refine Jy xGt ?_));refine Jo xPk ?_;refine Jm ?_;(first|iterate 4 refine Jd ?_|(refine Jy (xFa Bw An) ?_;refine Jy (xLd An) ?_;refine Jy (xLn Ac) ?_;refine Jy xGt ?_));refine Jo xPk ?_)|(refine Tx 2 ?_;refine Ja ?_))
  exact Ap rfl (.cons_ (BL rfl (by rw [decide_eq_false (fun h=>c1 h.1)];rfl)) .nil_)
 by_cases c2:rs.length≤100
 case neg =>
  repeat' (with_reducible first|refine qq ?_|(refine Tx 0 ?_;refine Jn xBo ?_;refine Jn xBo ?_;refine Ja ?_)|(refine Tx 1 ?_;refine jA ?_;refine Jo (xCl Tryz.func31 (LT)) ?_;refine Jo (by first|exact xNt|exact xNg) ?_;refine Jm ?_;(first|iterate 4 refine Jd ?_|(refine Jy (xFa Df AJ) ?_;refine Jy (xLd AJ) ?_;refine Jy (xCl Tryz.func113 (LE)) ?_;refine Jy (by first|exact xNt|exact xNg) ?_));refine Jo xPk ?_;refine Jm ?_;(first|iterate 4 refine Jd ?_|(refine Jy (xFa DT AM) ?_;refine Jy (xLd AM) ?_;refine Jy (xLn Ab) ?_;refine Jy xGt ?_));refine Jo xPk ?_;refine Jm ?_;(first|iterate 4 refine Jd ?_|(refine Jy (xFa Bw An) ?_;refine Jy (xLd An) ?_;refine Jy (xLn Ac) ?_;refine Jy xGt ?_));refine Jo xPk ?_)|(refine Tx 2 ?_;refine Ja ?_))
  exact Ap rfl (.cons_ (BL rfl (by rw [decide_eq_false (fun h=>c2 h.2)];rfl)) .nil_)
 rw [decide_eq_true (show F.length≤100∧rs.length≤100 from ⟨c1,c2⟩)]
 repeat' (with_reducible first|refine qq ?_|(refine Tx 0 ?_;refine Jn xBo ?_;refine Jn xBo ?_;refine Ja ?_)|(refine Tx 1 ?_;refine jA ?_;refine Jo (xCl Tryz.func31 (LT)) ?_;refine Jo (by first|exact xNt|exact xNg) ?_;refine Jm ?_;(first|iterate 4 refine Jd ?_|(refine Jy (xFa Df AJ) ?_;refine Jy (xLd AJ) ?_;refine Jy (xCl Tryz.func113 (LE)) ?_;refine Jy (by first|exact xNt|exact xNg) ?_));refine Jo xPk ?_;refine Jm ?_;(first|iterate 4 refine Jd ?_|(refine Jy (xFa DT AM) ?_;refine Jy (xLd AM) ?_;refine Jy (xLn Ab) ?_;refine Jy xGt ?_));refine Jo xPk ?_;refine Jm ?_;(first|iterate 4 refine Jd ?_|(refine Jy (xFa Bw An) ?_;refine Jy (xLd An) ?_;refine Jy (xLn Ac) ?_;refine Jy xGt ?_));refine Jo xPk ?_)|(refine Tx 3 ?_;refine jF ?_;refine jD ?_;refine jN ?_;refine Jm ?_))
 refine CF (F':=ofL [(29,vd (Xb rs)),(30,vi rs.length),(31,vi ((0:Nat)))]) (H':=[]) (BM _ 0 ?_ ?_ ?_) ?_
 ·rfl
 ·exact mB rfl rfl
 ·exact trivial
 refine Bp (fun n Fr H=>∃ k:Nat,k≤rs.length∧n=rs.length - k∧(rs.take k).all Afa=true∧Fr=ofL [(29,vd (Xb rs)),(30,vi rs.length),(31,vi ((k:Nat)))]∧H=[]) (n0:=rs.length) ⟨0,Nat.zero_le _,rfl,rfl,rfl,rfl⟩ ?_
 rintro n Fr H ⟨k,hk,rfl,hall,rfl,rfl⟩
 by_cases hlt:k<rs.length
 case pos =>
  obtain ⟨r,hr⟩:∃ r,rs[k]?=some r:=⟨_,List.getElem?_eq_getElem hlt⟩
  by_cases c3:r.ws.length≤140
  case neg =>
   repeat' (with_reducible first|refine qq ?_|(refine Tx 4 ?_;refine Jo xLt ?_)|(refine Tx 5 ?_;refine Jo (xIr Ac (Lc hr)) ?_;refine jA ?_;refine Jn (xAl Aj) ?_;refine Js (xSk Aa) ?_)|(refine Tx 6 ?_;refine jF ?_;refine jD ?_;refine jN ?_;refine Jo xGt ?_;refine Jm ?_;(first|iterate 3 refine Jd ?_|(refine Jy (xFa Bm Al) ?_;refine Jy (xLd Al) ?_;refine Jy xGt ?_));refine Jo xPk ?_)|(refine Tx 7 ?_;refine Ja ?_))
   exact Ap rfl (.cons_ (BL rfl (by rw [IU hr (decide_eq_false (by omega))];rfl)) .nil_)
  by_cases c4:r.den≤9000
  case neg =>
   repeat' (with_reducible first|refine qq ?_|(refine Tx 4 ?_;refine Jo xLt ?_)|(refine Tx 5 ?_;refine Jo (xIr Ac (Lc hr)) ?_;refine jA ?_;refine Jn (xAl Aj) ?_;refine Js (xSk Aa) ?_)|(refine Tx 6 ?_;refine jF ?_;refine jD ?_;refine jN ?_;refine Jo xGt ?_;refine Jm ?_;(first|iterate 3 refine Jd ?_|(refine Jy (xFa Bm Al) ?_;refine Jy (xLd Al) ?_;refine Jy xGt ?_));refine Jo xPk ?_)|(refine Tx 7 ?_;refine Ja ?_))
   exact Ap rfl (.cons_ (BL rfl (by rw [IU hr (decide_eq_false (by omega))];rfl)) .nil_)
  repeat' (with_reducible first|refine qq ?_|(refine Tx 4 ?_;refine Jo xLt ?_)|(refine Tx 5 ?_;refine Jo (xIr Ac (Lc hr)) ?_;refine jA ?_;refine Jn (xAl Aj) ?_;refine Js (xSk Aa) ?_)|(refine Tx 6 ?_;refine jF ?_;refine jD ?_;refine jN ?_;refine Jo xGt ?_;refine Jm ?_;(first|iterate 3 refine Jd ?_|(refine Jy (xFa Bm Al) ?_;refine Jy (xLd Al) ?_;refine Jy xGt ?_));refine Jo xPk ?_)|(refine Tx 8 ?_;refine Jo xAd ?_;refine Jm ?_))
  refine ⟨_,_,BM _ 0 ?_ ?_ ?_,_,by omega,k+1,by omega,rfl,Hp hr hall (decide_eq_true ⟨c3,c4⟩),rfl,rfl⟩
  ·rfl
  ·exact mB rfl rfl
  ·exact trivial
 obtain rfl:k=rs.length:=by omega
 rw [List.take_length] at hall
 rw [hall]
 repeat' (with_reducible first|refine qq ?_|(refine Tx 4 ?_;refine Jo xLt ?_)|(refine Tx 9 ?_;refine Ja ?_))
 exact Ap rfl (.cons_ (BL rfl (rfl)) .nil_)
theorem UG (t u:Bool) (ps:List Prt) (bs:List Bk) (os F:List Int) (qs:List (Rv × Rv)) (rs:List Rv) (hqn:(qs.length:Int)≤9223372036854775807) (hfn:(F.length:Int)≤9223372036854775807) (hrn:(rs.length:Int)≤9223372036854775807) (m:Nat) (m1:1≤m) (m2:m≤30):CV Tryz.prog Ax 24 [aDg t ps bs os,.agg (dCr u F qs rs),aI (m:Int)] [aB (GZ ps bs os F qs rs && decide ((m:Int)*(bs.length:Int)≤800))]:=by
 refine cvz Tryz.func24 Tryz.ntmps24 ?_
 have LT:=UF t u ps bs os F qs rs hqn hfn hrn
 cases h1:GZ ps bs os F qs rs
 case false =>
  rw [h1] at LT
  repeat' (with_reducible first|refine qq ?_|(refine Tx 0 ?_;refine Jn xBo ?_;refine Jn xBo ?_;refine Ja ?_)|(refine Tx 1 ?_;refine jA ?_;refine jA ?_;refine Jo (xCl Tryz.func43 (LT)) ?_;refine Jm ?_;(first|iterate 14 refine Jd ?_|(refine Jy xM1 ?_;refine Jy xLt ?_;refine Jy xM1 ?_;refine Jy xM1 ?_;refine Jy xGt ?_;refine Jy xPk ?_;refine Jy xM1 ?_;refine Jy xM1 ?_;refine Jy (xFa CB Bt) ?_;refine Jy (xLd Bt) ?_;refine Jy (xLn Ae) ?_;refine Jy (by exact Ff rfl rfl rfl (by omega)) ?_;refine Jy xLe ?_;refine Jy xPk ?_));refine Jo xPk ?_;refine Ja ?_))
  exact Ap rfl (.cons_ (BL rfl (rfl)) .nil_)
 rw [h1] at LT
 have hb2:=(MF (NR h1).1).2
 obtain ⟨r,hr⟩:∃ r:Int,(m:Int)*(bs.length:Int)=r:=⟨_,rfl⟩
 have hr1:0≤r∧r≤2400:=by rw [←hr,←Int.natCast_mul];exact ⟨Int.natCast_nonneg _,Int.ofNat_le.2 (Nat.mul_le_mul m2 hb2)⟩
 rw [hr]
 by_cases h2:r≤800
 case pos =>
  repeat' (with_reducible first|refine qq ?_|(refine Tx 0 ?_;refine Jn xBo ?_;refine Jn xBo ?_;refine Ja ?_)|(refine Tx 1 ?_;refine jA ?_;refine jA ?_;refine Jo (xCl Tryz.func43 (LT)) ?_;refine Jm ?_;(first|iterate 14 refine Jd ?_|(refine Jy xM1 ?_;refine Jy xLt ?_;refine Jy xM1 ?_;refine Jy xM1 ?_;refine Jy xGt ?_;refine Jy xPk ?_;refine Jy xM1 ?_;refine Jy xM1 ?_;refine Jy (xFa CB Bt) ?_;refine Jy (xLd Bt) ?_;refine Jy (xLn Ae) ?_;refine Jy (by first|exact XM hr rfl rfl rfl (by omega)|exact Ff rfl rfl rfl (by omega)) ?_;refine Jy xLe ?_;refine Jy xPk ?_));refine Jo xPk ?_;refine Ja ?_))
  exact Ap rfl (.cons_ (BL rfl (by rw [decide_eq_true h2];rfl)) .nil_)
 case neg =>
  repeat' (with_reducible first|refine qq ?_|(refine Tx 0 ?_;refine Jn xBo ?_;refine Jn xBo ?_;refine Ja ?_)|(refine Tx 1 ?_;refine jA ?_;refine jA ?_;refine Jo (xCl Tryz.func43 (LT)) ?_;refine Jm ?_;(first|iterate 14 refine Jd ?_|(refine Jy xM1 ?_;refine Jy xLt ?_;refine Jy xM1 ?_;refine Jy xM1 ?_;refine Jy xGt ?_;refine Jy xPk ?_;refine Jy xM1 ?_;refine Jy xM1 ?_;refine Jy (xFa CB Bt) ?_;refine Jy (xLd Bt) ?_;refine Jy (xLn Ae) ?_;refine Jy (by first|exact XM hr rfl rfl rfl (by omega)|exact Ff rfl rfl rfl (by omega)) ?_;refine Jy xLe ?_;refine Jy xPk ?_));refine Jo xPk ?_;refine Ja ?_))
  exact Ap rfl (.cons_ (BL rfl (by rw [decide_eq_false h2];rfl)) .nil_)
def eiV (ns:List Int):List Pq:=ns.map fun n=>Ai n 0 (-3)
theorem AgF {ns:List Int} {k:Nat} {n:Int} (h:ns[k]?=some n):(eiV ns)[k]?=some (Ai n 0 (-3)):=by unfold eiV;rw [List.getElem?_map,h];rfl
def Aaz:List Int:=[4,4,4,4]
def Ado:List Iq:=[De [(-1,0),(1,0)],De [(-1,0),(1,0)],De [(-2,0),(2,0)],De [(-2,0),(2,0)]]
def AcU:List Pq:=eiV [0,1,1,1]
def Pf:Ct:=⟨Aaz,Ado,AcU⟩
theorem XN {t:Bool} {H:List Ob} {cs:List C} {ds:List D} (hc:cs=ds.map C.d) (h:∀ d∈ds,FB d):Bv (Gq t H) cs ds:=by
 subst hc
 exact Bv.map_l.2 ⟨rfl,fun j a b ha hb=>by rw [ha] at hb;cases hb;exact .d fun _=>h _ (List.mem_of_getElem? ha)⟩
theorem XO:∀ d∈AN (dIw false) Ado,FB d:=fun d hd=>Ip (f:=dIw false) (fun a=>Xk a) Ado d hd
theorem UH (t:Bool) (ns:List Int) (hn:∀ z∈ns,-1000≤z∧z≤1000) (hl:ns.length≤1000000):CV Tryz.prog Ax 166 [.one (BQ t ns)] [.one (QE (eiV ns))]:=by
 refine cvz Tryz.func166 Tryz.ntmps166 ?_
 repeat' (with_reducible first|refine qq ?_|(refine Tx 0 ?_;refine Ja ?_)|(refine Tx 1 ?_;refine Ja ?_))
 refine CF (Aab 3 43 3 rfl) ?_
 repeat' (with_reducible first|refine qq ?_|(refine Tx 2 ?_;refine Jm ?_;refine jN ?_;refine Jm ?_))
 refine CF (F':=ofL [(3,vo 0 (((eiV ns).take 0).length)),(6,vd (BQ t ns)),(7,vi ns.length),(8,vi ((0:Nat)))]) (H':=[.row 43 3 ((eiV ns).take (0)).length ((AN dyP ((eiV ns).take (0))).map C.d)]) (BM _ 1 ?_ ?_ ?_) ?_
 ·rfl
 ·exact mB rfl rfl
 ·exact ⟨Eb,trivial⟩
 refine Bp (fun n Fr H=>∃ k:Nat,k≤ns.length∧n=ns.length - k∧Fr=ofL [(3,vo 0 (((eiV ns).take k).length)),(6,vd (BQ t ns)),(7,vi ns.length),(8,vi ((k:Nat)))]∧H=[.row 43 3 ((eiV ns).take (k)).length ((AN dyP ((eiV ns).take (k))).map C.d)]) (n0:=ns.length) ⟨0,Nat.zero_le _,rfl,rfl,rfl⟩ ?_
 rintro n Fr H ⟨k,hk,rfl,rfl,rfl⟩
 by_cases hlt:k<ns.length
 case pos =>
  obtain ⟨z,hz⟩:∃ z,ns[k]?=some z:=⟨_,List.getElem?_eq_getElem hlt⟩
  have hb:=hn z (List.mem_of_getElem? hz)
  have OF:=Za (G:=Ax) z (by omega) (by omega)
  have SH:=Qk (G:=Ax) false z 0 (-3) ⟨by decide,fun h=>absurd rfl h⟩ (Nat.le_trans (Bb (k:=2) (by omega)) (by decide)) (by omega)
  obtain ⟨hap,hap2,hoL⟩:=Xm (AgF hz)
  repeat' (with_reducible first|refine qq ?_|(refine Tx 3 ?_;refine Jo xLt ?_)|(refine Tx 4 ?_;refine Jo (xIr Ab (Ak hz)) ?_;refine jD ?_;refine Ja ?_)|(refine Tx 5 ?_;refine Jm ?_;refine Jm ?_;refine Jo (xCl Tryz.func39 (OF.cv)) ?_;refine Jo (xCl Tryz.func38 (SH.cv)) ?_;refine Jn (by exact Ew rfl Ac Aj rfl rfl (by decide) (by decide)) ?_;refine Jt (by exact Aac rfl rfl rfl rfl rfl rfl Ac Aj (by omega) (by decide) (by decide) rfl hap hap2) ?_;refine Ja ?_)|(refine Tx 6 ?_;refine Jo xAd ?_;refine Jm ?_))
  refine ⟨_,_,BM _ 1 ?_ ?_ ?_,_,?_,k+1,by omega,rfl,rfl,rfl⟩
  ·rfl
  ·exact mB rfl rfl
  ·exact ⟨Eb,trivial⟩
  ·omega
 obtain rfl:k=ns.length:=by omega
 have hel:(eiV ns).length=ns.length:=List.length_map ..
 rw [←hel,List.take_length]
 repeat' (with_reducible first|refine qq ?_|(refine Tx 3 ?_;refine Jo xLt ?_)|(refine Tx 7 ?_;refine Jm ?_;refine Ja ?_))
 exact Ap rfl (.cons_ (.tmp (.one (AcA rfl rfl rfl))) .nil_)
theorem UI  : CV Tryz.prog Ax 75 [] [.agg (dCt false Pf)]:=by
 refine cvz Tryz.func75 Tryz.ntmps75 ?_
 have I1:=QC (-1) 1 (by decide) (by decide)
 have I2:=QC (-2) 2 (by decide) (by decide)
 have EI:=UH true [0,1,1,1] (by decide) (by decide)
 repeat' (with_reducible first|refine qq ?_|(refine Tx 0 ?_;refine Jn (xAl Abj) ?_)|(refine Tx 1 ?_;refine Jn (by exact EV rfl rfl Ab Bj (by decide) (by decide) (by decide) rfl rfl rfl) ?_;refine Jo (by first|exact xCl Tryz.func165 (I1)|exact xCl Tryz.func165 (I2)) ?_;refine Jo (by first|exact xCl Tryz.func165 (I1)|exact xCl Tryz.func165 (I2)) ?_;refine Jo (by first|exact xCl Tryz.func165 (I1)|exact xCl Tryz.func165 (I2)) ?_;refine Jo (by first|exact xCl Tryz.func165 (I1)|exact xCl Tryz.func165 (I2)) ?_;refine Jn (by exact EV rfl rfl Af Ao (by decide) (by decide) (by decide) rfl rfl rfl) ?_;refine Jn (by exact EV rfl rfl Ab Bj (by decide) (by decide) (by decide) rfl rfl rfl) ?_;refine Jo (xCl Tryz.func166 (EI)) ?_;refine Jo (by exact BI rfl Abk rfl rfl) ?_;refine Js (xSk CC) ?_))
 exact Ap rfl (.cons_ (Ww (ds:=[BQ false Aaz,.row false 6 4 (AN (dIw false) Ado),QE AcU]) rfl rfl CC rfl rfl (Ay rfl rfl (by first|((repeat' first|exact AC rfl rfl|refine Ay rfl rfl ?_ ?_|exact Db rfl (fun _=>FB.val _)|refine IO rfl rfl rfl ?_) <;> fail)|fail) (Ay rfl rfl (IO rfl rfl rfl (XN rfl XO)) (Ay rfl rfl (Db rfl fun _=>Tu AcU) (AC rfl rfl))))) .nil_)
def ZH:List (Rv × Rv):=Ado.map Agy
def ZI:List Rv:=AcU.map Gb
theorem Afc:dCr false Aaz ZH ZI=dCt false Pf:=by
 unfold dCr dCt ZH ZI
 rw [AcO,AcG]
 rfl
theorem UJ:MW Aaz ZH ZI=Pf:=by
 unfold MW ZH ZI
 rw [ZB,Zu]
 rfl
theorem AcV:∀ q∈ZH,RvL q.1∧RvL q.2:=fun q hq=>by
 obtain ⟨a,ha,rfl⟩:=List.mem_map.1 hq
 have key:(Ado.all fun a=>decide ((Ad a.1.1.natAbs).length≤40000) && decide ((Ad a.2.1.natAbs).length≤40000))=true:=by decide +kernel
 have:=List.all_eq_true.1 key a ha
 rw [Bool.and_eq_true,decide_eq_true_eq,decide_eq_true_eq] at this
 exact ⟨⟨AV _,this.1⟩,⟨AV _,this.2⟩⟩
theorem AcW:∀ r∈ZI,RvL r:=fun r hr=>by
 obtain ⟨a,ha,rfl⟩:=List.mem_map.1 hr
 have key:(AcU.all fun a=>decide ((Ad a.1.natAbs).length≤40000))=true:=by decide +kernel
 exact ⟨AV _,of_decide_eq_true (List.all_eq_true.1 key a ha)⟩
theorem Afd:ckE flP flB flO Aaz ZH ZI=0:=by decide +kernel
theorem AgG:vfE flP flB flO Aaz ZH ZI=true:=by decide +kernel
theorem XP:Dw flP flB flO Pf:=by
 have:=XJ AcV AcW AgG
 rwa [UJ] at this
theorem AcX:∀ p∈AcU,gv (upQ p)=gv p:=by
 have key:(AcU.all fun p=>decide (upQ p=p))=true:=by decide +kernel
 exact fun p hp=>by rw [of_decide_eq_true (List.all_eq_true.1 key p hp)]
theorem AaA:Lb flP flB flO:=⟨by decide,by decide,by decide,by decide⟩
section
variable {P:Program} {G:World→Prop} {o:Oper} {F:Frm} {H:List Ob}
theorem AaB {t ty:TypeId} {x:Operand} {id s n i k:Nat} {ds:List D} {d:D} (ho:o.op=.load t x) (hx:F.ev x=.one (.ref id (i*1) (some n))) (hH:H[id]?=some (.row ty s n (ds.map C.d))) (hz:ds[i]?=some d) (hk:TyK P t false k):Bs P G o F H (.one (.d d)) [] :=
 Og ho hx (.row hH) (by rw [Nat.mul_one,List.getElem?_drop,Nat.add_zero,List.getElem?_map,hz];rfl) hk
end
theorem Afe {N:Nat} {F:Frm} {H:List Ob} {d d':D} (t:Nat) (h:F t=.one (.d d)) (hd:∀ (w:World) (S:Eu) (v:Value),BE w S d v→BE w S d' v):Wk N F H (F.put (some t) (.one (.d d'))) H:=fun b0 w0 S0 a m hm hs =>
by
 have hfr:∀ t',FG m (F.put (some t) (.one (.d d')) t') (a.tmps.getD t' undef):=fun t'=>by
  rw [LU]
  split
  ·rename_i ht
   cases ht
   have hv:=hs.frame t
   rw [h] at hv
   exact hd _ _ _ hv
  ·exact hs.frame t'
 exact ⟨m,rfl,hm,{ hs with frame:=hfr }⟩
def cDz:Option Pq→List D
 | none=>[.val (.bool false),.val (.slice none 0 0),.val (.int .i64 0)]
 | some p=>dyP p
theorem AgH (v:List (Option Pq)):cVs v=((v.map cDz).flatten).map C.d:=by
 unfold cVs
 rw [List.map_flatten,List.map_map]
 congr 1
 exact List.map_congr_left fun o _=>by cases o <;> rfl
theorem AgI {w:World} {S:Eu} {v:Value} (h:BE w S (.val (.slice none 0 0)) v):BE w S (.row false 1 0 []) v:=by
 cases h
 exact .row [] (Nat.le_refl _) (fun _=>rfl) rfl rfl (fun h=>absurd rfl h) (fun j u x hu=>by simp at hu)
theorem XQ {w:World} {S:Eu}:∀ {v:List (Option Pq)} {xs:List Value},Bv (BE w S) ((v.map cDz).flatten) xs→Bv (BE w S) (AN dyP (gV v)) xs
 | [],xs,h=>h
 | o::v,xs,h=>by
  have h:Bv (BE w S) (cDz o++(v.map cDz).flatten) xs:=h
  show Bv (BE w S) (dyP (o.getD (0,0))++AN dyP (gV v)) xs
  cases o with
  | some p =>
   obtain ⟨a,b,c,ys,rfl,h1,h2,h3,h4⟩:∃ a b c ys,xs=a::b::c::ys∧BE w S _ a∧BE w S _ b∧BE w S _ c∧Bv (BE w S) _ ys:=by
    obtain ⟨a,x1,rfl,h1,q1⟩:=h.uncons
    obtain ⟨b,x2,rfl,h2,q2⟩:=q1.uncons
    obtain ⟨c,x3,rfl,h3,q3⟩:=q2.uncons
    exact ⟨a,b,c,x3,rfl,h1,h2,h3,q3⟩
   exact .cons_ h1 (.cons_ h2 (.cons_ h3 (XQ h4)))
  | none =>
   obtain ⟨a,x1,rfl,h1,q1⟩:=h.uncons
   obtain ⟨b,x2,rfl,h2,q2⟩:=q1.uncons
   obtain ⟨c,x3,rfl,h3,q3⟩:=q2.uncons
   rw [show dyP ((none:Option Pq).getD (0,0))=[.val (.bool false),.row false 1 0 [],.val (.int .i64 0)] from zdy.symm]
   exact .cons_ h1 (.cons_ (AgI h2) (.cons_ h3 (XQ q3)))
theorem Aff {n:Nat} {v:List (Option Pq)} (hn:v.length=n) (w:World) (S:Eu) (x:Value) (h:BE w S (.row false 3 n ((v.map cDz).flatten)) x):BE w S (dRw (gV v)) x:=by
 cases h with
 | row xs hc hA hl hx hm hr =>
  have key:=XQ (v:=v) (xs:=xs) ⟨hx,hr⟩
  have hg:(gV v).length=n:=by rw [WX];exact hn
  unfold dRw
  rw [hg]
  exact .row xs hc hA (by rw [key.1,←hx];exact hl) key.1 (fun hne=>hm (fun h0=>hne (List.eq_nil_of_length_eq_zero (by rw [key.1,←hx,h0];rfl)))) key.2
theorem HG (s:Int) (s0:0≤s) (s1:s≤30):CV Tryz.prog Ax 64 [aI s] [aDy false (pw (-s)).1 (pw (-s)).2]:=by
 refine cvz Tryz.func64 Tryz.ntmps64 ?_
 have OF:=FV 1 (by decide) (by decide)
 have SH:=Ca 1 0 (-s) ⟨by decide,fun h=>absurd rfl h⟩ (Nat.le_trans (Bb (k:=2) (by decide)) (by decide)) (by omega)
 repeat' (with_reducible first|refine qq ?_|(refine Tx 0 ?_;refine Jn (xAl Aj) ?_)|(refine Tx 1 ?_;refine Jo (xCl Tryz.func68 (OF)) ?_;refine Jm ?_;refine Jo (by first|exact xNt|exact xNg) ?_;refine Jo (xCl Tryz.func21 (SH)) ?_;refine Js (xSk Aa) ?_))
 exact Ap rfl (.cons_ (rvW Aa rfl) .nil_)
theorem Fv (n e:Int) (hs:EW n e):CV Tryz.prog Ax 141 [.agg [dI n,dI e]] [aDy false (Ai n 0 e).1 (Ai n 0 e).2]:=by
 refine cvz Tryz.func141 Tryz.ntmps141 ?_
 have VA:=Tn n e
 rw [if_pos hs,if_pos hs] at VA
 repeat' (with_reducible first|refine qq ?_|(refine Tx 0 ?_;refine Jn xBo ?_;refine Jn (xAl Aj) ?_)|(refine Tx 1 ?_;refine jA ?_;refine Jo (xCl Tryz.func20 (VA)) ?_;refine Jo xMt ?_;refine Jo (by exact FN rfl rfl rfl) ?_;refine Jo xEx ?_;refine Jn (xAl Aj) ?_;refine Js (xSk Aa) ?_;refine Ja ?_)|(refine Tx 2 ?_;refine jA ?_;refine Js (xSk Aa) ?_))
 exact Ap rfl (.cons_ (rvW Aa rfl) .nil_)
theorem Fc (n e f:Int) (hs:EW n e) (f0:0≤f) (f1:f≤30):CV Tryz.prog Ax 62 [.agg [dI n,dI e],aI f] [aB (Bl n e f)]:=by
 refine cvz Tryz.func62 Tryz.ntmps62 ?_
 have RV:=Fv n e hs
 have sm:=EA hs
 have SH:=Ca (Ai n 0 e).1 (Ai n 0 e).2 f sm.ok (Nat.le_trans (sm.lenN 625 (by decide)) (by decide)) (by have:=sm.ok.1;omega)
 obtain ⟨q,hq⟩:∃ q,Ai (Ai n 0 e).1 (Ai n 0 e).2 f=q:=⟨_,rfl⟩
 rw [hq] at SH
 rw [show Bl n e f=decide (q.2=0) by unfold Bl;rw [←hq]]
 by_cases h0:q.2=0
 case pos =>
  repeat' (with_reducible first|refine qq ?_|(refine Tx 0 ?_;refine Jn xBo ?_;refine Ja ?_)|(refine Tx 1 ?_;refine jA ?_;refine Jo (xCl Tryz.func141 (RV)) ?_;refine Jm ?_;refine Jo (xCl Tryz.func21 (SH)) ?_;refine Jn (xAl Aj) ?_;refine Js (xSk Aa) ?_)|(refine Tx 2 ?_;refine jF ?_;refine jD ?_;refine Jo xEq ?_;refine Ja ?_))
  exact Ap rfl (.cons_ (BL rfl ((decide_eq_true h0).symm)) .nil_)
 repeat' (with_reducible first|refine qq ?_|(refine Tx 0 ?_;refine Jn xBo ?_;refine Ja ?_)|(refine Tx 1 ?_;refine jA ?_;refine Jo (xCl Tryz.func141 (RV)) ?_;refine Jm ?_;refine Jo (xCl Tryz.func21 (SH)) ?_;refine Jn (xAl Aj) ?_;refine Js (xSk Aa) ?_)|(refine Tx 2 ?_;refine jF ?_;refine jD ?_;refine Jo xEq ?_;refine Ja ?_))
 exact Ap rfl (.cons_ (BL rfl ((decide_eq_false h0).symm)) .nil_)
theorem IH (k:Int):CV Tryz.prog Ax 134 [aI k] [aB (inK k)]:=by
 refine cvz Tryz.func134 Tryz.ntmps134 ?_
 by_cases cf7:k < -62
 case pos =>
  repeat' (with_reducible first|refine qq ?_|(refine Tx 0 ?_;refine Ja ?_)|(refine Tx 1 ?_;refine Jm ?_;refine Jo xGe ?_;refine Jm ?_;(first|iterate 2 refine Jd ?_|(refine Jy xM1 ?_;refine Jy xLe ?_));refine Jo xPk ?_;refine Ja ?_))
  exact Ap rfl (.cons_ (BL rfl ((decide_eq_false (by omega)).symm)) .nil_)
 by_cases cf6:30<k
 case pos =>
  repeat' (with_reducible first|refine qq ?_|(refine Tx 0 ?_;refine Ja ?_)|(refine Tx 1 ?_;refine Jm ?_;refine Jo xGe ?_;refine Jm ?_;(first|iterate 2 refine Jd ?_|(refine Jy xM1 ?_;refine Jy xLe ?_));refine Jo xPk ?_;refine Ja ?_))
  exact Ap rfl (.cons_ (BL rfl ((decide_eq_false (by omega)).symm)) .nil_)
 repeat' (with_reducible first|refine qq ?_|(refine Tx 0 ?_;refine Ja ?_)|(refine Tx 1 ?_;refine Jm ?_;refine Jo xGe ?_;refine Jm ?_;(first|iterate 2 refine Jd ?_|(refine Jy xM1 ?_;refine Jy xLe ?_));refine Jo xPk ?_;refine Ja ?_))
 exact Ap rfl (.cons_ (BL rfl ((decide_eq_true (by omega)).symm)) .nil_)
theorem Fw (n e f:Int):CV Tryz.prog Ax 135 [.agg [dI n,dI e],.one (.ptr true [dI f])] [aB (rwB n e f)]:=by
 refine cvz Tryz.func135 Tryz.ntmps135 ?_
 have RA:=(Aay n e f).cv
 unfold rwB
 by_cases h0:DK n e f=0
 case pos =>
  rw [h0] at RA
  repeat' (with_reducible first|refine qq ?_|(refine Tx 0 ?_;refine Jn xBo ?_;refine Ja ?_)|(refine Tx 1 ?_;refine jA ?_;refine jD ?_;refine Jo (xCl Tryz.func117 (RA)) ?_;refine Jo xMt ?_;refine Jo xEx ?_;refine Jo xEx ?_;refine Ja ?_;refine Ja ?_)|(refine Tx 2 ?_;refine Jm ?_;refine Jo (by first|exact Cf rfl AQ rfl (Ik rfl)|exact Cf rfl AQ rfl (Ik (by first|rfl|omega))|exact Cf rfl AQ rfl (Mj (by first|assumption|omega))|exact Cf rfl AQ rfl rfl) ?_;refine Ja ?_))
  exact Ap rfl (.cons_ (BL rfl ((decide_eq_true h0).symm)) .nil_)
 repeat' (with_reducible first|refine qq ?_|(refine Tx 0 ?_;refine Jn xBo ?_;refine Ja ?_)|(refine Tx 1 ?_;refine jA ?_;refine jD ?_;refine Jo (xCl Tryz.func117 (RA)) ?_;refine Jo xMt ?_;refine Jo xEx ?_;refine Jo xEx ?_;refine Ja ?_;refine Ja ?_)|(refine Tx 2 ?_;refine Jm ?_;refine Jo (by first|exact Cf rfl AQ rfl (Mj h0)|exact Cf rfl AQ rfl (Ik (by first|rfl|omega))|exact Cf rfl AQ rfl (Mj (by first|assumption|omega))|exact Cf rfl AQ rfl rfl) ?_;refine Ja ?_))
 exact Ap rfl (.cons_ (BL rfl ((decide_eq_false h0).symm)) .nil_)
theorem Em (f:Int) (f0:0≤f) (f1:f≤30):CV Tryz.prog Ax 136 [aI f] [aI f]:=by
 refine cvz Tryz.func136 Tryz.ntmps136 ?_
 have hm:max (-1000) (min f 1000)=f:=by omega
 repeat' (with_reducible first|refine qq ?_|(refine Tx 0 ?_;refine Ja ?_)|(refine Tx 1 ?_;refine Jm ?_;refine Jo (by exact Abf rfl rfl rfl) ?_;refine Jo (by first|exact (hm ▸ FI rfl rfl rfl)|exact FI rfl rfl rfl) ?_;refine Ja ?_))
 exact Ap rfl (.cons_ (MT rfl rfl) .nil_)
theorem RX (t u:Bool) {ps:List Prt} {bs:List Bk} (os:List Int) (c:Ct) (i:Nat) {y:Bk} (hy:bs[i]?=some y) (B:XD ps bs.length y) (hF:c.F.length=bs.length) (hn:bs.length≤1000000) (hpn:ps.length≤1000000) (hs2:0≤scA c.F i∧scA c.F i≤30) (hsa:y.kind≠0→∀ a∈y.args,0≤sG c.F a∧sG c.F a≤30):CV Tryz.prog Ax 58 [aDg t ps bs os,.agg (dCt u c),aI (i:Int)] [aB (GW ps c.F y (scA c.F i))]:=by
 refine cvz Tryz.func58 Tryz.ntmps58 ?_
 have hil:=(List.getElem?_eq_some_iff.1 hy).1
 have hFi:=Hc (F:=c.F) (k:=i) (by omega)
 obtain ⟨s,hs⟩:∃ s,scA c.F i=s:=⟨_,rfl⟩
 rw [hs] at hFi
 have hBl:=B.len
 rw [hs] at hs2
 rw [hs]
 by_cases k0:y.kind=0
 case pos =>
  obtain ⟨j,p,hA0,ha0,hp,P⟩:=B.port k0
  have f0:=P.f0
  have f1:=P.f1
  have hjl:=(List.getElem?_eq_some_iff.1 hp).1
  have hL0:=(List.getElem?_eq_some_iff.1 hA0).1
  rw [show GW ps c.F y s=inK (s - p.fr) by unfold GW;rw [if_pos k0,ha0,Pb hp]]
  repeat' (with_reducible first|refine qq ?_|(refine Tx 0 ?_;refine Jn xBo ?_;refine Jn xBo ?_;refine Ja ?_)|(refine Tx 1 ?_;refine jF ?_;refine jD ?_;refine Jm ?_;refine Jo (xIr Ab (Ak hFi)) ?_;refine jD ?_;refine Jn (xAl Bj) ?_;refine Js (by first|exact xS1 Al|exact xSk Al) ?_)|(refine Tx 2 ?_;refine jD ?_;refine Jo xLt ?_;refine Jm ?_;(first|iterate 2 refine Jd ?_|(refine Jy (xLd Al) ?_;refine Jy xGt ?_));refine Jo xPk ?_)|(refine Tx 4 ?_;refine jF ?_;refine jD ?_;refine Jm ?_;refine Jo (xIr Ae (Bo hy)) ?_;refine jA ?_;refine Jn (xAl Aw) ?_;refine Js (xSk Au) ?_)|(refine Tx 5 ?_;refine Jo (by first|exact Dq rfl|exact Da rfl rfl) ?_)|(refine Tx 6 ?_;refine Jo (by first|exact xMf [(2,0,none)]|exact Ah rfl (by repeat' first|exact AC rfl rfl|refine Ay rfl rfl rfl ?_)) ?_;refine Ja ?_)|(refine Tx 7 ?_;refine jF ?_;refine jD ?_)|(refine Tx 8 ?_;refine Jo xEq ?_;refine Ja ?_)|(refine AZ (id:=9) AK (by kernel_rfl) ?_;refine Km ?_;refine kD ?_;refine kF ?_;refine kD ?_;refine kF ?_;refine kD ?_;refine Ko (xIr Ab (Ak hA0)) ?_;refine kD ?_;refine Ko (xIr CS (ND hp)) ?_;refine kF ?_;refine kD ?_;refine Ko xSb ?_;refine Ko (xCc Tryz.func134 (IH (s - p.fr)) (args:=[_]) rfl) ?_;refine Ka ?_;refine Ke ?_))
  exact Ap rfl (.cons_ (BL rfl (rfl)) .nil_)
 have hall:=hsa k0
 by_cases k1:y.kind=1
 case pos =>
  rw [show GW ps c.F y s=rwB y.vn y.ve s by unfold GW;rw [if_neg k0,if_pos k1]]
  repeat' (with_reducible first|refine qq ?_|(refine Tx 0 ?_;refine Jn xBo ?_;refine Jn xBo ?_;refine Ja ?_)|(refine Tx 1 ?_;refine jF ?_;refine jD ?_;refine Jm ?_;refine Jo (xIr Ab (Ak hFi)) ?_;refine jD ?_;refine Jn (xAl Bj) ?_;refine Js (by first|exact xS1 Al|exact xSk Al) ?_)|(refine Tx 2 ?_;refine jD ?_;refine Jo xLt ?_;refine Jm ?_;(first|iterate 2 refine Jd ?_|(refine Jy (xLd Al) ?_;refine Jy xGt ?_));refine Jo xPk ?_)|(refine Tx 4 ?_;refine jF ?_;refine jD ?_;refine Jm ?_;refine Jo (xIr Ae (Bo hy)) ?_;refine jA ?_;refine Jn (xAl Aw) ?_;refine Js (xSk Au) ?_)|(refine Tx 5 ?_;refine Jo (by first|exact Dq rfl|exact Da rfl rfl) ?_)|(refine Tx 6 ?_;refine Jo (by first|exact xMf [(2,0,none)]|exact Ah rfl (by repeat' first|exact AC rfl rfl|refine Ay rfl rfl rfl ?_)) ?_;refine Ja ?_)|(refine Tx 7 ?_;refine jF ?_;refine jD ?_)|(refine Tx 8 ?_;refine Jo xEq ?_;refine Ja ?_)|(refine Tx 10 ?_;refine Jo xEq ?_;refine Ja ?_)|(refine Tx 11 ?_;refine Jm ?_;refine jF ?_;refine jA ?_;refine Jo (xCc Tryz.func135 (Fw y.vn y.ve s) (args:=[_]) rfl) ?_;refine Ja ?_))
  exact Ap rfl (.cons_ (BL rfl (rfl)) .nil_)
 by_cases k6:y.kind=6
 case pos =>
  obtain ⟨a,hA0,ha0,hl0⟩:=B.a0 (by omega)
  have hL0:=(List.getElem?_eq_some_iff.1 hA0).1
  have hl0:=hl0 k0
  have hF0:=Hc (F:=c.F) (k:=a) (by omega)
  have hr0:=hall a (List.mem_of_getElem? hA0)
  obtain ⟨r0,hq0⟩:∃ r,scA c.F a=r:=⟨_,rfl⟩
  rw [show sG c.F ((a:Nat):Int)=r0 by unfold sG;rw [Int.toNat_natCast];exact hq0] at hr0
  rw [hq0] at hF0
  have hg0:sG c.F (Cg y)=r0:=by rw [ha0];unfold sG;rw [Int.toNat_natCast];exact hq0
  have FW0:=Em r0 hr0.1 hr0.2
  have hv:=B.sv (by omega)
  unfold EW at hv
  rw [show GW ps c.F y s=inK (s - r0+y.ve) by unfold GW;rw [if_neg k0,if_neg k1,if_pos k6,hg0]]
  repeat' (with_reducible first|refine qq ?_|(refine Tx 0 ?_;refine Jn xBo ?_;refine Jn xBo ?_;refine Ja ?_)|(refine Tx 1 ?_;refine jF ?_;refine jD ?_;refine Jm ?_;refine Jo (by first|exact xIr Ab (Ak hFi)|exact xIr Ab (Ak hF0)) ?_;refine jD ?_;refine Jn (xAl Bj) ?_;refine Js (by first|exact xS1 Al|exact xSk Al) ?_)|(refine Tx 2 ?_;refine jD ?_;refine Jo xLt ?_;refine Jm ?_;(first|iterate 2 refine Jd ?_|(refine Jy (xLd Al) ?_;refine Jy xGt ?_));refine Jo xPk ?_)|(refine Tx 4 ?_;refine jF ?_;refine jD ?_;refine Jm ?_;refine Jo (xIr Ae (Bo hy)) ?_;refine jA ?_;refine Jn (xAl Aw) ?_;refine Js (xSk Au) ?_)|(refine Tx 5 ?_;refine Jo (by first|exact Dq rfl|exact Da rfl rfl) ?_)|(refine Tx 6 ?_;refine Jo (by first|exact xMf [(2,0,none)]|exact Ah rfl (by repeat' first|exact AC rfl rfl|refine Ay rfl rfl rfl ?_)) ?_;refine Ja ?_)|(refine Tx 7 ?_;refine jF ?_;refine jD ?_)|(refine Tx 8 ?_;refine Jo xEq ?_;refine Ja ?_)|(refine Tx 10 ?_;refine Jo xEq ?_;refine Ja ?_)|(refine Tx 12 ?_;refine Jo xEq ?_;refine Ja ?_)|(refine AZ (id:=13) AK (by kernel_rfl) ?_;refine Km ?_;refine kD ?_;refine kF ?_;refine kD ?_;refine kF ?_;refine kD ?_;refine Ko (xIr Ab (Ak hA0)) ?_;refine kD ?_;refine Ko (by first|exact xIr Ab (Ak hFi)|exact xIr Ab (Ak hF0)) ?_;refine kD ?_;refine Ko (xCl Tryz.func136 (FW0)) ?_;refine Ko xSb ?_;refine kF ?_;refine kF ?_;refine kD ?_;refine Ko xAd ?_;refine Ko (xCc Tryz.func134 (IH (s - r0+y.ve)) (args:=[_]) rfl) ?_;refine Ka ?_;refine Ke ?_))
  exact Ap rfl (.cons_ (BL rfl (rfl)) .nil_)
 by_cases k7:y.kind=7
 case pos =>
  obtain ⟨a,hA0,ha0,hl0⟩:=B.a0 (by omega)
  have hL0:=(List.getElem?_eq_some_iff.1 hA0).1
  have hl0:=hl0 k0
  have hF0:=Hc (F:=c.F) (k:=a) (by omega)
  have hr0:=hall a (List.mem_of_getElem? hA0)
  obtain ⟨r0,hq0⟩:∃ r,scA c.F a=r:=⟨_,rfl⟩
  rw [show sG c.F ((a:Nat):Int)=r0 by unfold sG;rw [Int.toNat_natCast];exact hq0] at hr0
  rw [hq0] at hF0
  have hg0:sG c.F (Cg y)=r0:=by rw [ha0];unfold sG;rw [Int.toNat_natCast];exact hq0
  obtain ⟨b,hA1,ha1,hl1⟩:=B.a1 (by omega)
  have hL1:=(List.getElem?_eq_some_iff.1 hA1).1
  have hF1:=Hc (F:=c.F) (k:=b) (by omega)
  have hr1:=hall b (List.mem_of_getElem? hA1)
  obtain ⟨r1,hq1⟩:∃ r,scA c.F b=r:=⟨_,rfl⟩
  rw [show sG c.F ((b:Nat):Int)=r1 by unfold sG;rw [Int.toNat_natCast];exact hq1] at hr1
  rw [hq1] at hF1
  have hg1:sG c.F (Ez y)=r1:=by rw [ha1];unfold sG;rw [Int.toNat_natCast];exact hq1
  have FW0:=Em r0 hr0.1 hr0.2
  have FW1:=Em r1 hr1.1 hr1.2
  rw [show GW ps c.F y s=inK (s - r0 - r1) by unfold GW;rw [if_neg k0,if_neg k1,if_neg k6,if_pos k7,hg0,hg1]]
  repeat' (with_reducible first|refine qq ?_|(refine Tx 0 ?_;refine Jn xBo ?_;refine Jn xBo ?_;refine Ja ?_)|(refine Tx 1 ?_;refine jF ?_;refine jD ?_;refine Jm ?_;refine Jo (by first|exact xIr Ab (Ak hFi)|exact xIr Ab (Ak hF0)|exact xIr Ab (Ak hF1)) ?_;refine jD ?_;refine Jn (xAl Bj) ?_;refine Js (by first|exact xS1 Al|exact xSk Al) ?_)|(refine Tx 2 ?_;refine jD ?_;refine Jo xLt ?_;refine Jm ?_;(first|iterate 2 refine Jd ?_|(refine Jy (xLd Al) ?_;refine Jy xGt ?_));refine Jo xPk ?_)|(refine Tx 4 ?_;refine jF ?_;refine jD ?_;refine Jm ?_;refine Jo (xIr Ae (Bo hy)) ?_;refine jA ?_;refine Jn (xAl Aw) ?_;refine Js (xSk Au) ?_)|(refine Tx 5 ?_;refine Jo (by first|exact Dq rfl|exact Da rfl rfl) ?_)|(refine Tx 6 ?_;refine Jo (by first|exact xMf [(2,0,none)]|exact Ah rfl (by repeat' first|exact AC rfl rfl|refine Ay rfl rfl rfl ?_)) ?_;refine Ja ?_)|(refine Tx 7 ?_;refine jF ?_;refine jD ?_)|(refine Tx 8 ?_;refine Jo xEq ?_;refine Ja ?_)|(refine Tx 10 ?_;refine Jo xEq ?_;refine Ja ?_)|(refine Tx 12 ?_;refine Jo xEq ?_;refine Ja ?_)|(refine Tx 14 ?_;refine Jo xEq ?_;refine Ja ?_)|(refine AZ (id:=15) AK (by kernel_rfl) ?_;refine Km ?_;refine kD ?_;refine kF ?_;refine kD ?_;refine kF ?_;refine kD ?_;refine Ko (xIr Ab (Ak hA0)) ?_;refine kD ?_;refine Ko (by first|exact xIr Ab (Ak hFi)|exact xIr Ab (Ak hF0)|exact xIr Ab (Ak hF1)) ?_;refine kD ?_;refine Ko (by first|exact xCl Tryz.func136 (FW0)|exact xCl Tryz.func136 (FW1)) ?_;refine Ko xSb ?_;refine kF ?_;refine kD ?_;refine kF ?_;refine kD ?_;refine Ko (xIr Ab (Ak hA1)) ?_;refine kD ?_;refine Ko (by first|exact xIr Ab (Ak hFi)|exact xIr Ab (Ak hF0)|exact xIr Ab (Ak hF1)) ?_;refine kD ?_;refine Ko (by first|exact xCl Tryz.func136 (FW0)|exact xCl Tryz.func136 (FW1)) ?_;refine Ko xSb ?_;refine Ko (xCc Tryz.func134 (IH (s - r0 - r1)) (args:=[_]) rfl) ?_;refine Ka ?_;refine Ke ?_))
  exact Ap rfl (.cons_ (BL rfl (rfl)) .nil_)
 by_cases k2:y.kind=2
 case pos =>
  obtain ⟨a,hA0,ha0,hl0⟩:=B.a0 (by omega)
  have hL0:=(List.getElem?_eq_some_iff.1 hA0).1
  have hl0:=hl0 k0
  have hF0:=Hc (F:=c.F) (k:=a) (by omega)
  have hr0:=hall a (List.mem_of_getElem? hA0)
  obtain ⟨r0,hq0⟩:∃ r,scA c.F a=r:=⟨_,rfl⟩
  rw [show sG c.F ((a:Nat):Int)=r0 by unfold sG;rw [Int.toNat_natCast];exact hq0] at hr0
  rw [hq0] at hF0
  have hg0:sG c.F (Cg y)=r0:=by rw [ha0];unfold sG;rw [Int.toNat_natCast];exact hq0
  have FW0:=Em r0 hr0.1 hr0.2
  rw [show GW ps c.F y s=(inK (s - r0) && rwB y.vn y.ve s) by unfold GW;rw [if_neg k0,if_neg k1,if_neg k6,if_neg k7,if_pos k2,hg0]]
  have SHC:=IH (s - r0)
  cases hq:inK (s - r0)
  case false =>
   rw [hq] at SHC
   repeat' (with_reducible first|refine qq ?_|(refine Tx 0 ?_;refine Jn xBo ?_;refine Jn xBo ?_;refine Ja ?_)|(refine Tx 1 ?_;refine jF ?_;refine jD ?_;refine Jm ?_;refine Jo (by first|exact xIr Ab (Ak hFi)|exact xIr Ab (Ak hF0)) ?_;refine jD ?_;refine Jn (xAl Bj) ?_;refine Js (by first|exact xS1 Al|exact xSk Al) ?_)|(refine Tx 2 ?_;refine jD ?_;refine Jo xLt ?_;refine Jm ?_;(first|iterate 2 refine Jd ?_|(refine Jy (xLd Al) ?_;refine Jy xGt ?_));refine Jo xPk ?_)|(refine Tx 4 ?_;refine jF ?_;refine jD ?_;refine Jm ?_;refine Jo (xIr Ae (Bo hy)) ?_;refine jA ?_;refine Jn (xAl Aw) ?_;refine Js (xSk Au) ?_)|(refine Tx 5 ?_;refine Jo (by first|exact Dq rfl|exact Da rfl rfl) ?_)|(refine Tx 6 ?_;refine Jo (by first|exact xMf [(2,0,none)]|exact Ah rfl (by repeat' first|exact AC rfl rfl|refine Ay rfl rfl rfl ?_)) ?_;refine Ja ?_)|(refine Tx 7 ?_;refine jF ?_;refine jD ?_)|(refine Tx 8 ?_;refine Jo xEq ?_;refine Ja ?_)|(refine Tx 10 ?_;refine Jo xEq ?_;refine Ja ?_)|(refine Tx 12 ?_;refine Jo xEq ?_;refine Ja ?_)|(refine Tx 14 ?_;refine Jo xEq ?_;refine Ja ?_)|(refine Tx 16 ?_;refine Jo xEq ?_;refine Ja ?_)|(refine AZ (id:=17) AK (by kernel_rfl) ?_;refine Km ?_;refine kD ?_;refine kF ?_;refine kD ?_;refine kF ?_;refine kD ?_;refine Ko (xIr Ab (Ak hA0)) ?_;refine kD ?_;refine Ko (by first|exact xIr Ab (Ak hFi)|exact xIr Ab (Ak hF0)) ?_;refine kD ?_;refine Ko (xCl Tryz.func136 (FW0)) ?_;refine Ko xSb ?_;refine Ko (xCc Tryz.func134 SHC (args:=[_]) rfl) ?_;refine Km ?_;(first|iterate 4 refine Kd ?_|(refine Ky xM1 ?_;refine Ky (xFa CG AI) ?_;refine Ky (xLa AI) ?_;refine Ky (xCc Tryz.func135 (Fw y.vn y.ve s) (args:=[_]) rfl) ?_));refine Ko xPk ?_;refine Ka ?_;refine Ke ?_))
   exact Ap rfl (.cons_ (BL rfl (by rw [Bool.false_and])) .nil_)
  case true =>
   rw [hq] at SHC
   repeat' (with_reducible first|refine qq ?_|(refine Tx 0 ?_;refine Jn xBo ?_;refine Jn xBo ?_;refine Ja ?_)|(refine Tx 1 ?_;refine jF ?_;refine jD ?_;refine Jm ?_;refine Jo (by first|exact xIr Ab (Ak hFi)|exact xIr Ab (Ak hF0)) ?_;refine jD ?_;refine Jn (xAl Bj) ?_;refine Js (by first|exact xS1 Al|exact xSk Al) ?_)|(refine Tx 2 ?_;refine jD ?_;refine Jo xLt ?_;refine Jm ?_;(first|iterate 2 refine Jd ?_|(refine Jy (xLd Al) ?_;refine Jy xGt ?_));refine Jo xPk ?_)|(refine Tx 4 ?_;refine jF ?_;refine jD ?_;refine Jm ?_;refine Jo (xIr Ae (Bo hy)) ?_;refine jA ?_;refine Jn (xAl Aw) ?_;refine Js (xSk Au) ?_)|(refine Tx 5 ?_;refine Jo (by first|exact Dq rfl|exact Da rfl rfl) ?_)|(refine Tx 6 ?_;refine Jo (by first|exact xMf [(2,0,none)]|exact Ah rfl (by repeat' first|exact AC rfl rfl|refine Ay rfl rfl rfl ?_)) ?_;refine Ja ?_)|(refine Tx 7 ?_;refine jF ?_;refine jD ?_)|(refine Tx 8 ?_;refine Jo xEq ?_;refine Ja ?_)|(refine Tx 10 ?_;refine Jo xEq ?_;refine Ja ?_)|(refine Tx 12 ?_;refine Jo xEq ?_;refine Ja ?_)|(refine Tx 14 ?_;refine Jo xEq ?_;refine Ja ?_)|(refine Tx 16 ?_;refine Jo xEq ?_;refine Ja ?_)|(refine AZ (id:=17) AK (by kernel_rfl) ?_;refine Km ?_;refine kD ?_;refine kF ?_;refine kD ?_;refine kF ?_;refine kD ?_;refine Ko (xIr Ab (Ak hA0)) ?_;refine kD ?_;refine Ko (by first|exact xIr Ab (Ak hFi)|exact xIr Ab (Ak hF0)) ?_;refine kD ?_;refine Ko (xCl Tryz.func136 (FW0)) ?_;refine Ko xSb ?_;refine Ko (xCc Tryz.func134 SHC (args:=[_]) rfl) ?_;refine Km ?_;(first|iterate 4 refine Kd ?_|(refine Ky xM1 ?_;refine Ky (xFa CG AI) ?_;refine Ky (xLa AI) ?_;refine Ky (xCc Tryz.func135 (Fw y.vn y.ve s) (args:=[_]) rfl) ?_));refine Ko xPk ?_;refine Ka ?_;refine Ke ?_))
   exact Ap rfl (.cons_ (BL rfl (by rw [Bool.true_and])) .nil_)
 by_cases k11:y.kind=11
 case pos =>
  obtain ⟨a,hA0,ha0,hl0⟩:=B.a0 (by omega)
  have hL0:=(List.getElem?_eq_some_iff.1 hA0).1
  have hl0:=hl0 k0
  have hF0:=Hc (F:=c.F) (k:=a) (by omega)
  have hr0:=hall a (List.mem_of_getElem? hA0)
  obtain ⟨r0,hq0⟩:∃ r,scA c.F a=r:=⟨_,rfl⟩
  rw [show sG c.F ((a:Nat):Int)=r0 by unfold sG;rw [Int.toNat_natCast];exact hq0] at hr0
  rw [hq0] at hF0
  have hg0:sG c.F (Cg y)=r0:=by rw [ha0];unfold sG;rw [Int.toNat_natCast];exact hq0
  have FW0:=Em r0 hr0.1 hr0.2
  rw [show GW ps c.F y s=(inK (s - r0) && rwB y.vn y.ve s && rwB y.un y.ue s) by unfold GW;rw [if_neg k0,if_neg k1,if_neg k6,if_neg k7,if_neg k2,if_pos k11,hg0]]
  have SHC:=IH (s - r0)
  have RWC:=Fw y.vn y.ve s
  cases hq:inK (s - r0)
  case false =>
   rw [hq] at SHC
   repeat' (with_reducible first|refine qq ?_|(refine Tx 0 ?_;refine Jn xBo ?_;refine Jn xBo ?_;refine Ja ?_)|(refine Tx 1 ?_;refine jF ?_;refine jD ?_;refine Jm ?_;refine Jo (by first|exact xIr Ab (Ak hFi)|exact xIr Ab (Ak hF0)) ?_;refine jD ?_;refine Jn (xAl Bj) ?_;refine Js (by first|exact xS1 Al|exact xSk Al) ?_)|(refine Tx 2 ?_;refine jD ?_;refine Jo xLt ?_;refine Jm ?_;(first|iterate 2 refine Jd ?_|(refine Jy (xLd Al) ?_;refine Jy xGt ?_));refine Jo xPk ?_)|(refine Tx 4 ?_;refine jF ?_;refine jD ?_;refine Jm ?_;refine Jo (xIr Ae (Bo hy)) ?_;refine jA ?_;refine Jn (xAl Aw) ?_;refine Js (xSk Au) ?_)|(refine Tx 5 ?_;refine Jo (by first|exact Dq rfl|exact Da rfl rfl) ?_)|(refine Tx 6 ?_;refine Jo (by first|exact xMf [(2,0,none)]|exact Ah rfl (by repeat' first|exact AC rfl rfl|refine Ay rfl rfl rfl ?_)) ?_;refine Ja ?_)|(refine Tx 7 ?_;refine jF ?_;refine jD ?_)|(refine Tx 8 ?_;refine Jo xEq ?_;refine Ja ?_)|(refine Tx 10 ?_;refine Jo xEq ?_;refine Ja ?_)|(refine Tx 12 ?_;refine Jo xEq ?_;refine Ja ?_)|(refine Tx 14 ?_;refine Jo xEq ?_;refine Ja ?_)|(refine Tx 16 ?_;refine Jo xEq ?_;refine Ja ?_)|(refine Tx 18 ?_;refine Jo xEq ?_;refine Ja ?_)|(refine AZ (id:=19) AK (by kernel_rfl) ?_;refine Km ?_;refine kD ?_;refine kF ?_;refine kD ?_;refine kF ?_;refine kD ?_;refine Ko (xIr Ab (Ak hA0)) ?_;refine kD ?_;refine Ko (by first|exact xIr Ab (Ak hFi)|exact xIr Ab (Ak hF0)) ?_;refine kD ?_;refine Ko (xCl Tryz.func136 (FW0)) ?_;refine Ko xSb ?_;refine Ko (xCc Tryz.func134 SHC (args:=[_]) rfl) ?_;refine Km ?_;(first|iterate 4 refine Kd ?_|(refine Ky xM1 ?_;refine Ky (xFa CG AI) ?_;refine Ky (xLa AI) ?_;refine Ky (xCc Tryz.func135 RWC (args:=[_]) rfl) ?_));refine Ko xPk ?_;refine Km ?_;(first|iterate 4 refine Kd ?_|(refine Ky xM1 ?_;refine Ky (xFa CH AI) ?_;refine Ky (xLa AI) ?_;refine Ky (xCc Tryz.func135 (Fw y.un y.ue s) (args:=[_]) rfl) ?_));refine Ko xPk ?_;refine Ka ?_;refine Ke ?_))
   exact Ap rfl (.cons_ (BL rfl (by rw [Bool.false_and,Bool.false_and])) .nil_)
  case true =>
   rw [hq] at SHC
   cases hq2:rwB y.vn y.ve s
   case false =>
    rw [hq2] at RWC
    repeat' (with_reducible first|refine qq ?_|(refine Tx 0 ?_;refine Jn xBo ?_;refine Jn xBo ?_;refine Ja ?_)|(refine Tx 1 ?_;refine jF ?_;refine jD ?_;refine Jm ?_;refine Jo (by first|exact xIr Ab (Ak hFi)|exact xIr Ab (Ak hF0)) ?_;refine jD ?_;refine Jn (xAl Bj) ?_;refine Js (by first|exact xS1 Al|exact xSk Al) ?_)|(refine Tx 2 ?_;refine jD ?_;refine Jo xLt ?_;refine Jm ?_;(first|iterate 2 refine Jd ?_|(refine Jy (xLd Al) ?_;refine Jy xGt ?_));refine Jo xPk ?_)|(refine Tx 4 ?_;refine jF ?_;refine jD ?_;refine Jm ?_;refine Jo (xIr Ae (Bo hy)) ?_;refine jA ?_;refine Jn (xAl Aw) ?_;refine Js (xSk Au) ?_)|(refine Tx 5 ?_;refine Jo (by first|exact Dq rfl|exact Da rfl rfl) ?_)|(refine Tx 6 ?_;refine Jo (by first|exact xMf [(2,0,none)]|exact Ah rfl (by repeat' first|exact AC rfl rfl|refine Ay rfl rfl rfl ?_)) ?_;refine Ja ?_)|(refine Tx 7 ?_;refine jF ?_;refine jD ?_)|(refine Tx 8 ?_;refine Jo xEq ?_;refine Ja ?_)|(refine Tx 10 ?_;refine Jo xEq ?_;refine Ja ?_)|(refine Tx 12 ?_;refine Jo xEq ?_;refine Ja ?_)|(refine Tx 14 ?_;refine Jo xEq ?_;refine Ja ?_)|(refine Tx 16 ?_;refine Jo xEq ?_;refine Ja ?_)|(refine Tx 18 ?_;refine Jo xEq ?_;refine Ja ?_)|(refine AZ (id:=19) AK (by kernel_rfl) ?_;refine Km ?_;refine kD ?_;refine kF ?_;refine kD ?_;refine kF ?_;refine kD ?_;refine Ko (xIr Ab (Ak hA0)) ?_;refine kD ?_;refine Ko (by first|exact xIr Ab (Ak hFi)|exact xIr Ab (Ak hF0)) ?_;refine kD ?_;refine Ko (xCl Tryz.func136 (FW0)) ?_;refine Ko xSb ?_;refine Ko (xCc Tryz.func134 SHC (args:=[_]) rfl) ?_;refine Km ?_;(first|iterate 4 refine Kd ?_|(refine Ky xM1 ?_;refine Ky (xFa CG AI) ?_;refine Ky (xLa AI) ?_;refine Ky (xCc Tryz.func135 RWC (args:=[_]) rfl) ?_));refine Ko xPk ?_;refine Km ?_;(first|iterate 4 refine Kd ?_|(refine Ky xM1 ?_;refine Ky (xFa CH AI) ?_;refine Ky (xLa AI) ?_;refine Ky (xCc Tryz.func135 (Fw y.un y.ue s) (args:=[_]) rfl) ?_));refine Ko xPk ?_;refine Ka ?_;refine Ke ?_))
    exact Ap rfl (.cons_ (BL rfl (by rw [Bool.true_and,Bool.false_and])) .nil_)
   case true =>
    rw [hq2] at RWC
    repeat' (with_reducible first|refine qq ?_|(refine Tx 0 ?_;refine Jn xBo ?_;refine Jn xBo ?_;refine Ja ?_)|(refine Tx 1 ?_;refine jF ?_;refine jD ?_;refine Jm ?_;refine Jo (by first|exact xIr Ab (Ak hFi)|exact xIr Ab (Ak hF0)) ?_;refine jD ?_;refine Jn (xAl Bj) ?_;refine Js (by first|exact xS1 Al|exact xSk Al) ?_)|(refine Tx 2 ?_;refine jD ?_;refine Jo xLt ?_;refine Jm ?_;(first|iterate 2 refine Jd ?_|(refine Jy (xLd Al) ?_;refine Jy xGt ?_));refine Jo xPk ?_)|(refine Tx 4 ?_;refine jF ?_;refine jD ?_;refine Jm ?_;refine Jo (xIr Ae (Bo hy)) ?_;refine jA ?_;refine Jn (xAl Aw) ?_;refine Js (xSk Au) ?_)|(refine Tx 5 ?_;refine Jo (by first|exact Dq rfl|exact Da rfl rfl) ?_)|(refine Tx 6 ?_;refine Jo (by first|exact xMf [(2,0,none)]|exact Ah rfl (by repeat' first|exact AC rfl rfl|refine Ay rfl rfl rfl ?_)) ?_;refine Ja ?_)|(refine Tx 7 ?_;refine jF ?_;refine jD ?_)|(refine Tx 8 ?_;refine Jo xEq ?_;refine Ja ?_)|(refine Tx 10 ?_;refine Jo xEq ?_;refine Ja ?_)|(refine Tx 12 ?_;refine Jo xEq ?_;refine Ja ?_)|(refine Tx 14 ?_;refine Jo xEq ?_;refine Ja ?_)|(refine Tx 16 ?_;refine Jo xEq ?_;refine Ja ?_)|(refine Tx 18 ?_;refine Jo xEq ?_;refine Ja ?_)|(refine AZ (id:=19) AK (by kernel_rfl) ?_;refine Km ?_;refine kD ?_;refine kF ?_;refine kD ?_;refine kF ?_;refine kD ?_;refine Ko (xIr Ab (Ak hA0)) ?_;refine kD ?_;refine Ko (by first|exact xIr Ab (Ak hFi)|exact xIr Ab (Ak hF0)) ?_;refine kD ?_;refine Ko (xCl Tryz.func136 (FW0)) ?_;refine Ko xSb ?_;refine Ko (xCc Tryz.func134 SHC (args:=[_]) rfl) ?_;refine Km ?_;(first|iterate 4 refine Kd ?_|(refine Ky xM1 ?_;refine Ky (xFa CG AI) ?_;refine Ky (xLa AI) ?_;refine Ky (xCc Tryz.func135 RWC (args:=[_]) rfl) ?_));refine Ko xPk ?_;refine Km ?_;(first|iterate 4 refine Kd ?_|(refine Ky xM1 ?_;refine Ky (xFa CH AI) ?_;refine Ky (xLa AI) ?_;refine Ky (xCc Tryz.func135 (Fw y.un y.ue s) (args:=[_]) rfl) ?_));refine Ko xPk ?_;refine Ka ?_;refine Ke ?_))
    exact Ap rfl (.cons_ (BL rfl (by rw [Bool.true_and,Bool.true_and])) .nil_)
 have hb:GW ps c.F y s=y.args.all fun a=>inK (s - sG c.F a):=by unfold GW;rw [if_neg k0,if_neg k1,if_neg k6,if_neg k7,if_neg k2,if_neg k11]
 rw [hb]
 repeat' (with_reducible first|refine qq ?_|(refine Tx 0 ?_;refine Jn xBo ?_;refine Jn xBo ?_;refine Ja ?_)|(refine Tx 1 ?_;refine jF ?_;refine jD ?_;refine Jm ?_;refine Jo (xIr Ab (Ak hFi)) ?_;refine jD ?_;refine Jn (xAl Bj) ?_;refine Js (by first|exact xS1 Al|exact xSk Al) ?_)|(refine Tx 2 ?_;refine jD ?_;refine Jo xLt ?_;refine Jm ?_;(first|iterate 2 refine Jd ?_|(refine Jy (xLd Al) ?_;refine Jy xGt ?_));refine Jo xPk ?_)|(refine Tx 4 ?_;refine jF ?_;refine jD ?_;refine Jm ?_;refine Jo (xIr Ae (Bo hy)) ?_;refine jA ?_;refine Jn (xAl Aw) ?_;refine Js (xSk Au) ?_)|(refine Tx 5 ?_;refine Jo (by first|exact Dq rfl|exact Da rfl rfl) ?_)|(refine Tx 6 ?_;refine Jo (by first|exact xMf [(2,0,none)]|exact Ah rfl (by repeat' first|exact AC rfl rfl|refine Ay rfl rfl rfl ?_)) ?_;refine Ja ?_)|(refine Tx 7 ?_;refine jF ?_;refine jD ?_)|(refine Tx 8 ?_;refine Jo xEq ?_;refine Ja ?_)|(refine Tx 10 ?_;refine Jo xEq ?_;refine Ja ?_)|(refine Tx 12 ?_;refine Jo xEq ?_;refine Ja ?_)|(refine Tx 14 ?_;refine Jo xEq ?_;refine Ja ?_)|(refine Tx 16 ?_;refine Jo xEq ?_;refine Ja ?_)|(refine Tx 18 ?_;refine Jo xEq ?_;refine Ja ?_)|(refine Tx 20 ?_;refine jF ?_;refine jD ?_;refine jN ?_;refine Jm ?_))
 refine CF (F':=ofL [(4,vr 1),(7,vr 2),(9,.one (.clo (.func 134) [])),(146,vd (BQ t y.args)),(147,vi y.args.length),(148,vi ((0:Nat)))]) (H':=[.box 26 [.d (Fk t ps),.d (EX t bs),.d (BQ t os)],.box 30 [.d (BQ u c.F),.d (.row false 6 c.R.length (AN (dIw false) c.R)),.d (.row false 3 c.E.length (AN dyP c.E))],.box 3 [.d (.val (.int .i64 s))]]) (BM _ 3 ?_ ?_ ?_) ?_
 ·rfl
 ·exact mB rfl rfl
 ·exact ⟨AF rfl,AF rfl,AF rfl,trivial⟩
 refine Bp (fun n Fr H=>∃ k:Nat,k≤y.args.length∧n=y.args.length - k∧(y.args.take k).all (fun a=>inK (s - sG c.F a))=true∧Fr=ofL [(4,vr 1),(7,vr 2),(9,.one (.clo (.func 134) [])),(146,vd (BQ t y.args)),(147,vi y.args.length),(148,vi ((k:Nat)))]∧H=[.box 26 [.d (Fk t ps),.d (EX t bs),.d (BQ t os)],.box 30 [.d (BQ u c.F),.d (.row false 6 c.R.length (AN (dIw false) c.R)),.d (.row false 3 c.E.length (AN dyP c.E))],.box 3 [.d (.val (.int .i64 s))]]) (n0:=y.args.length) ⟨0,Nat.zero_le _,rfl,rfl,rfl,rfl⟩ ?_
 rintro n Fr H ⟨k,hk,rfl,hal,rfl,rfl⟩
 by_cases hlt:k<y.args.length
 case pos =>
  obtain ⟨z,hz⟩:∃ z,y.args[k]?=some z:=⟨_,List.getElem?_eq_getElem hlt⟩
  have hzm:=List.mem_of_getElem? hz
  have hzb:=B.all k0 z hzm
  have hzr:=hall z hzm
  obtain ⟨m,rfl⟩:∃ m:Nat,z=(m:Int):=⟨z.toNat,by omega⟩
  have hFm:=Hc (F:=c.F) (k:=m) (by omega)
  rw [show sG c.F ((m:Nat):Int)=scA c.F m by unfold sG;rw [Int.toNat_natCast]] at hzr
  have FW:=Em (scA c.F m) hzr.1 hzr.2
  have SHC:=IH (s - scA c.F m)
  cases hq:inK (s - scA c.F m)
  case false =>
   rw [hq] at SHC
   repeat' (with_reducible first|refine qq ?_|(refine Tx 21 ?_;refine Jo xLt ?_)|(refine Tx 22 ?_;refine Jo (by first|exact xIr Ab (Ak hz)|exact xIr Ab (Ak hFm)) ?_;refine jD ?_;refine Ja ?_)|(refine AZ (id:=23) AK (by kernel_rfl) ?_;refine Km ?_;refine kD ?_;refine kF ?_;refine kD ?_;refine Km ?_;refine Ko (by first|exact xIr Ab (Ak hz)|exact xIr Ab (Ak hFm)) ?_;refine kD ?_;refine Ko (xCl Tryz.func136 (FW)) ?_;refine Ko xSb ?_;refine Ko (xCc Tryz.func134 SHC (args:=[_]) rfl) ?_;refine Ko (by first|exact xNt|exact xNg) ?_;refine Ke ?_)|(refine Tx 24 ?_;refine Ja ?_))
   exact Ap rfl (.cons_ (BL rfl ((IU (p:=fun a=>inK (s - sG c.F a)) hz hq).symm)) .nil_)
  rw [hq] at SHC
  repeat' (with_reducible first|refine qq ?_|(refine Tx 21 ?_;refine Jo xLt ?_)|(refine Tx 22 ?_;refine Jo (by first|exact xIr Ab (Ak hz)|exact xIr Ab (Ak hFm)) ?_;refine jD ?_;refine Ja ?_)|(refine AZ (id:=23) AK (by kernel_rfl) ?_;refine Km ?_;refine kD ?_;refine kF ?_;refine kD ?_;refine Km ?_;refine Ko (by first|exact xIr Ab (Ak hz)|exact xIr Ab (Ak hFm)) ?_;refine kD ?_;refine Ko (xCl Tryz.func136 (FW)) ?_;refine Ko xSb ?_;refine Ko (xCc Tryz.func134 SHC (args:=[_]) rfl) ?_;refine Ko (by first|exact xNt|exact xNg) ?_;refine Ke ?_)|(refine Tx 25 ?_;refine Jo xAd ?_;refine Jm ?_))
  refine ⟨_,_,BM _ 3 ?_ ?_ ?_,_,by omega,k+1,by omega,rfl,Hp (p:=fun a=>inK (s - sG c.F a)) hz hal hq,rfl,rfl⟩
  ·rfl
  ·exact mB rfl rfl
  ·exact ⟨AF rfl,AF rfl,AF rfl,trivial⟩
 obtain rfl:k=y.args.length:=by omega
 rw [List.take_length] at hal
 repeat' (with_reducible first|refine qq ?_|(refine Tx 21 ?_;refine Jo xLt ?_)|(refine Tx 26 ?_;refine Ja ?_))
 exact Ap rfl (.cons_ (BL rfl (hal.symm)) .nil_)
theorem Pg (x:Pq) (sx:Sm x 40064 40000):CV Tryz.prog Ax 63 [aDy false x.1 x.2] [aDy false (upQ x).1 (upQ x).2]:=by
 refine cvz Tryz.func63 Tryz.ntmps63 ?_
 have CE:=Xu x.1 x.2 62 sx.ok (Nat.le_trans (sx.lenN 1252 (by decide)) (by decide)) (by decide)
 repeat' (with_reducible first|refine qq ?_|(refine Tx 0 ?_;refine Jn xBo ?_;refine Jn (xAl Aj) ?_)|(refine Tx 1 ?_;refine jA ?_;refine Jo (xCl Tryz.func153 (CE)) ?_;refine Jo xMt ?_;refine Jo (by exact FN rfl rfl rfl) ?_;refine Jo xEx ?_;refine Jn (xAl Aj) ?_;refine Js (xSk Aa) ?_;refine Ja ?_)|(refine Tx 2 ?_;refine jA ?_;refine Js (xSk Aa) ?_))
 exact Ap rfl (.cons_ (rvW Aa rfl) .nil_)
theorem ZJ (x:Pq) (sx:Sm x 40064 40000):CV Tryz.prog Ax 66 [aDy false x.1 x.2] [aB (Afn x)]:=by
 refine cvz Tryz.func66 Tryz.ntmps66 ?_
 have OF:=FV 1099511627776 (by decide) (by decide)
 have CM:=CY x.1 x.2 1099511627776 0 sx.ok ⟨by decide,fun h=>absurd rfl h⟩ (Nat.le_trans (sx.lenN 1252 (by decide)) (by decide)) (Nat.le_trans (Bb (k:=2) (by decide)) (by decide))
 rw [show Afn x=decide (0<Cl x.1 x.2 1099511627776 0) from rfl]
 generalize Cl x.1 x.2 1099511627776 0=q at *
 repeat' (with_reducible first|refine qq ?_|(refine Tx 0 ?_;refine Jn xBo ?_;refine Ja ?_)|(refine AZ (id:=1) AK (by kernel_rfl) ?_;refine kA ?_;refine Ko (xCl Tryz.func68 (OF)) ?_;refine Ko (xCl Tryz.func15 (CM)) ?_;refine Ko (by first|exact ZZ rfl rfl rfl|exact xGt) ?_;refine Ka ?_;refine Ke ?_))
 exact Ap rfl (.cons_ (BL rfl (rfl)) .nil_)
theorem QI (t u:Bool) {ps:List Prt} {bs:List Bk} (os:List Int) (c:Ct) (E:List Pq) (hE:E.length=bs.length) (sE:∀ p∈E,Sm p LB LB) (i:Nat) {y:Bk} (hy:bs[i]?=some y) (k2:y.kind=2) (B:XD ps bs.length y) (hF:c.F.length=bs.length) (hn:bs.length≤1000000) (hs2:0≤scA c.F i∧scA c.F i≤30):CV Tryz.prog Ax 61 [aDg t ps bs os,.agg (dCt u c),.one (QE E),aI (i:Int)] [aDy false (UU bs c.F E i).1 (UU bs c.F E i).2]:=by
 refine cvz Tryz.func61 Tryz.ntmps61 ?_
 have hil:=(List.getElem?_eq_some_iff.1 hy).1
 have hFi:=Hc (F:=c.F) (k:=i) (by omega)
 obtain ⟨s,hs⟩:∃ s,scA c.F i=s:=⟨_,rfl⟩
 rw [hs] at hFi
 have hBl:=B.len
 have hA:=FX hy
 rw [hs] at hs2
 obtain ⟨a,hA0,ha0,hl0⟩:=B.a0 (by omega)
 have hl0:=hl0 (by omega)
 have hL0:=(List.getElem?_eq_some_iff.1 hA0).1
 have hFa:=Hc (F:=c.F) (k:=a) (by omega)
 have hEa:=RQ (E:=E) (k:=a) (by omega)
 have se:=Cz sE a
 obtain ⟨e,he⟩:∃ e,E[a]?.getD (0,0)=e:=⟨_,rfl⟩
 rw [he] at se hEa
 obtain ⟨r,hr⟩:∃ r,scA c.F a=r:=⟨_,rfl⟩
 rw [hr] at hFa
 have um:=IC hs2.1 hs2.2
 have UN:=HG s hs2.1 hs2.2
 have AD:=BZ e.1 e.2 (pw (-s)).1 (pw (-s)).2 se.ok um.ok (Nat.le_trans (se.lenN 128 (by decide)) (by decide)) (Nat.le_trans (um.lenN 1 (by decide)) (by decide))
 have sd:=Sm.sum se (um.more (n':=LB) (d':=LB) (by decide) (by decide)) (by decide)
 have U1:=Pg e (se.more (by decide) (by decide))
 have U2:=Pg (DD e (pw (-s))) (sd.more (by decide) (by decide))
 by_cases h:r≤s
 case pos =>
  rw [show UU bs c.F E i=upQ e by unfold UU mvP;rw [hA,hs,ha0,DM,hr,if_pos h,EG,he]]
  repeat' (with_reducible first|refine qq ?_|(refine Tx 0 ?_;refine Jn xBo ?_;refine Jn xBo ?_;refine Jn (xAl Aj) ?_)|(refine Tx 1 ?_;refine jF ?_;refine jD ?_;refine Jm ?_;refine Jo (by first|exact xIr Ae (Bo hy)|exact xIr Ae (hEa)) ?_;refine jF ?_;refine jD ?_;refine Jo (by first|exact xIr Ab (Ak hA0)|exact xIr Ab (hEa)) ?_;refine jD ?_;refine Ja ?_)|(refine AZ (id:=2) AK (by kernel_rfl) ?_;refine kF ?_;refine kD ?_;refine Km ?_;refine Ko (by first|exact xIr Ab (Ak hFi)|exact xIr Ab (Ak hFa)|exact xIr Ab (hEa)) ?_;refine kD ?_;refine kF ?_;refine kD ?_;refine Km ?_;refine Ko (by first|exact xIr Ab (Ak hFi)|exact xIr Ab (Ak hFa)|exact xIr Ab (hEa)) ?_;refine kD ?_;refine Ko xGe ?_;refine Ke ?_)|(refine Tx 3 ?_;refine Jm ?_;refine Jm ?_;refine Jo (xIr Ac (hEa)) ?_;refine jA ?_;refine Jo (xCl Tryz.func63 (U1)) ?_;refine Js (xSk Aa) ?_))
  exact Ap rfl (.cons_ (rvW Aa rfl) .nil_)
 rw [show UU bs c.F E i=upQ (DD e (pw (-s))) by unfold UU mvP;rw [hA,hs,ha0,DM,hr,if_neg h,EG,he]]
 repeat' (with_reducible first|refine qq ?_|(refine Tx 0 ?_;refine Jn xBo ?_;refine Jn xBo ?_;refine Jn (xAl Aj) ?_)|(refine Tx 1 ?_;refine jF ?_;refine jD ?_;refine Jm ?_;refine Jo (by first|exact xIr Ae (Bo hy)|exact xIr Ae (hEa)) ?_;refine jF ?_;refine jD ?_;refine Jo (by first|exact xIr Ab (Ak hA0)|exact xIr Ab (hEa)) ?_;refine jD ?_;refine Ja ?_)|(refine AZ (id:=2) AK (by kernel_rfl) ?_;refine kF ?_;refine kD ?_;refine Km ?_;refine Ko (by first|exact xIr Ab (Ak hFi)|exact xIr Ab (Ak hFa)|exact xIr Ab (hEa)) ?_;refine kD ?_;refine kF ?_;refine kD ?_;refine Km ?_;refine Ko (by first|exact xIr Ab (Ak hFi)|exact xIr Ab (Ak hFa)|exact xIr Ab (hEa)) ?_;refine kD ?_;refine Ko xGe ?_;refine Ke ?_)|(refine Ba (id:=4) 12 AK (by kernel_rfl) ?_;dsimp only [List.take,List.drop];refine Km ?_;refine Km ?_;refine Ko (xIr Ac (hEa)) ?_;refine kA ?_;refine kF ?_;refine kD ?_;refine Km ?_;refine Ko (by first|exact xIr Ab (Ak hFi)|exact xIr Ab (Ak hFa)|exact xIr Ab (hEa)) ?_;refine kD ?_;refine Ko (xCl Tryz.func64 (UN)) ?_;refine Ko (xCl Tryz.func152 (AD)) ?_;refine Ko (xCl Tryz.func63 (U2)) ?_;refine Ke ?_;refine Js (xSk Aa) ?_))
 exact Ap rfl (.cons_ (rvW Aa rfl) .nil_)
end Go.Proofs.YtmdfjbpggbhgnaaGreatDoor
