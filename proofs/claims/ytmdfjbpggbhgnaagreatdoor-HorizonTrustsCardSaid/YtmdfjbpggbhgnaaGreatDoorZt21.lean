/- What the proofs of this claim share, part 21. No conditions. -/
import Derived.Test.YtmdfjbpggbhgnaaGreatDoorZt20
import Derived.Test.YtmdfjbpggbhgnaaGreatDoorZt11
import Derived.Test.YtmdfjbpggbhgnaaGreatDoorZt15
import Derived.Test.YtmdfjbpggbhgnaaGreatDoorZt17
import Derived.Test.YtmdfjbpggbhgnaaGreatDoorZt19
set_option maxRecDepth 100000
set_option maxHeartbeats 4000000
set_option linter.unusedVariables false
set_option linter.unusedSimpArgs false
set_option linter.unusedSectionVars false
namespace Go.Proofs.YtmdfjbpggbhgnaaGreatDoor
open Go.RowKit
theorem Afg {p:Pq} (h:Sm p LB LB):(Ad (upQ p).1.natAbs).length≤1000000:=Nat.le_trans (((TD h.neg (den:=62) (by decide)).neg).lenN 128 (by decide)) (by decide)
theorem Lf (ps:List Prt) (bs:List Bk) (os F:List Int) (qs:List (Rv × Rv)) (rs:List Rv) (hws:∀ q∈qs,Az q.1.ws∧Az q.2.ws) (hwsr:∀ r∈rs,Az r.ws) (hfn:(F.length:Int)≤9223372036854775807) (hqn:(qs.length:Int)≤9223372036854775807) (hrn:(rs.length:Int)≤9223372036854775807) (k:Int) (hk0:0≤k) (hk1:k<256):CV Tryz.prog Ax 5 [aDg true ps bs os,.agg (dCr false F qs rs),.one (.val (.int .u8 k))] [aB true]:=by
 refine cvz Tryz.func5 Tryz.ntmps5 ?_
 have AW:=UM
 obtain ⟨r,hr⟩:∃ r,k.tmod 30=r:=⟨_,rfl⟩
 have hr2:0≤r∧r<30:=by rw [←hr,Int.tmod_eq_emod_of_nonneg hk0];omega
 have hwr:IntKind.i64.wrap r=r:=IntWalk.i64_in r (by omega)
 obtain ⟨m,hm⟩:∃ m:Nat,1+r=(m:Int):=⟨(1+r).toNat,by omega⟩
 have m1:1≤m:=by omega
 have m2:m≤30:=by omega
 have LT:=UG true false ps bs os F qs rs hqn hfn hrn m m1 m2
 generalize hb:(GZ ps bs os F qs rs && decide ((m:Int)*(bs.length:Int)≤800))=lt at LT
 have hmw:IntKind.i64.wrap (1+r)=(m:Int):=by rw [hm];exact IntWalk.i64_in _ (by omega)
 cases lt
 case false =>
  repeat' (with_reducible first|refine qq ?_|(refine Tx 0 ?_;refine Jn xBo ?_;refine Jn xBo ?_;refine Ja ?_)|(refine Tx 1 ?_;refine Jm ?_;refine Jo (by first|exact Fm rfl rfl rfl (by decide) hr|exact Gz rfl rfl rfl (by omega)) ?_;refine Jo (by first|exact Cp rfl Tryz.underlying5 Tryz.underlying3 rfl hwr|exact CJ rfl Tryz.underlying5 Tryz.underlying3 rfl) ?_;refine Jo (by first|exact GT rfl rfl rfl hmw|exact xAd) ?_;refine Ja ?_)|(refine Tx 2 ?_;refine Jo (xCl Tryz.func23 (AW)) ?_;refine Jo (by first|exact xNt|exact xNg) ?_;refine Jm ?_;(first|iterate 5 refine Jd ?_|(refine Jy (xLa Bi) ?_;refine Jy (xLa CC) ?_;refine Jy xM1 ?_;refine Jy (xCl Tryz.func24 (LT)) ?_;refine Jy (by first|exact xNt|exact xNg) ?_));refine Jo xPk ?_;refine Jm ?_;(first|refine Jd ?_|refine Jy (xLa Bi) ?_);refine Jd ?_;(first|refine Jd ?_|refine Jy xNe ?_);refine Jo xPk ?_)|(refine Tx 3 ?_;refine Jo (xCl Tryz.func23 (AW)) ?_;refine Ja ?_))
  exact Ap rfl (.cons_ (BL rfl (rfl)) .nil_)
 rw [Bool.and_eq_true] at hb
 obtain ⟨hlB,hln,hFl,hRl,hrl⟩:=NR hb.1
 have hl:=(MF hlB).1
 have hbs:=(MF hlB).2
 obtain ⟨hwl,hql,_⟩:=UE hln hws
 have hwr2:∀ r∈rs,RvL r:=fun r hr=>⟨hwsr r hr,by have:=hrl r hr;omega⟩
 have RC:=Xr true hl
 by_cases h0:BN ps bs os=0
 case neg =>
  repeat' (with_reducible first|refine qq ?_|(refine Tx 0 ?_;refine Jn xBo ?_;refine Jn xBo ?_;refine Ja ?_)|(refine Tx 1 ?_;refine Jm ?_;refine Jo (by first|exact Fm rfl rfl rfl (by decide) hr|exact Gz rfl rfl rfl (by omega)) ?_;refine Jo (by first|exact Cp rfl Tryz.underlying5 Tryz.underlying3 rfl hwr|exact CJ rfl Tryz.underlying5 Tryz.underlying3 rfl) ?_;refine Jo (by first|exact GT rfl rfl rfl hmw|exact xAd) ?_;refine Ja ?_)|(refine Tx 2 ?_;refine Jo (xCl Tryz.func23 (AW)) ?_;refine Jo (by first|exact xNt|exact xNg) ?_;refine Jm ?_;(first|iterate 5 refine Jd ?_|(refine Jy (xLa Bi) ?_;refine Jy (xLa CC) ?_;refine Jy xM1 ?_;refine Jy (xCl Tryz.func24 (LT)) ?_;refine Jy (by first|exact xNt|exact xNg) ?_));refine Jo xPk ?_;refine Jm ?_;(first|iterate 3 refine Jd ?_|(refine Jy (xLa Bi) ?_;refine Jy (xCl Tryz.func25 (RC.cv)) ?_;refine Jy xNe ?_));refine Jo xPk ?_)|(refine Tx 3 ?_;refine Jo (xCl Tryz.func23 (AW)) ?_;refine Ja ?_))
  exact Ap rfl (.cons_ (BL rfl (rfl)) .nil_)
 rw [h0] at RC
 have VC:=RT true hl F qs rs hwl hwr2 (by omega) (by omega) (by omega)
 by_cases hck:ckE ps bs os F qs rs=0
 case neg =>
  generalize vfE ps bs os F qs rs=e1 at *
  generalize vfP ps bs os F qs rs=e2 at *
  repeat' (with_reducible first|refine qq ?_|(refine Tx 0 ?_;refine Jn xBo ?_;refine Jn xBo ?_;refine Ja ?_)|(refine Tx 1 ?_;refine Jm ?_;refine Jo (by first|exact Fm rfl rfl rfl (by decide) hr|exact Gz rfl rfl rfl (by omega)) ?_;refine Jo (by first|exact Cp rfl Tryz.underlying5 Tryz.underlying3 rfl hwr|exact CJ rfl Tryz.underlying5 Tryz.underlying3 rfl) ?_;refine Jo (by first|exact GT rfl rfl rfl hmw|exact xAd) ?_;refine Ja ?_)|(refine Tx 2 ?_;refine Jo (xCl Tryz.func23 (AW)) ?_;refine Jo (by first|exact xNt|exact xNg) ?_;refine Jm ?_;(first|iterate 5 refine Jd ?_|(refine Jy (xLa Bi) ?_;refine Jy (xLa CC) ?_;refine Jy xM1 ?_;refine Jy (xCl Tryz.func24 (LT)) ?_;refine Jy (by first|exact xNt|exact xNg) ?_));refine Jo xPk ?_;refine Jm ?_;(first|iterate 3 refine Jd ?_|(refine Jy (xLa Bi) ?_;refine Jy (xCl Tryz.func25 (RC.cv)) ?_;refine Jy xNe ?_));refine Jo xPk ?_)|(refine Tx 4 ?_;refine jA ?_;refine jA ?_;refine Jo (xCl Tryz.func12 (VC)) ?_;refine Jo xMt ?_;refine Jo xEx ?_;refine Jo (by exact FN rfl rfl rfl) ?_;refine Jo xEx ?_;refine Jn (xAl DZ) ?_;refine Ja ?_;refine Js (xSk BB) ?_;refine Ja ?_)|(refine Tx 5 ?_;refine Jm ?_;refine Jo (by first|exact DS rfl AQ rfl (Ok hck)|exact DS rfl AQ rfl (Re (by first|rfl|omega))|exact DS rfl AQ rfl (Ok (by first|assumption|omega))|exact DS rfl AQ rfl rfl) ?_;refine Jm ?_;(first|iterate 2 refine Jd ?_|(refine Jy xM1 ?_;refine Jy (by first|exact xNt|exact xNg) ?_));refine Jo xPk ?_;refine Jm ?_;(first|iterate 2 refine Jd ?_|(refine Jy (xLa Bi) ?_;refine Jy (xLa CC) ?_));refine Jd ?_;(first|refine Jd ?_|refine Jy xNe ?_);refine Jo xPk ?_)|(refine Tx 6 ?_;refine Ja ?_))
  exact Ap rfl (.cons_ (BL rfl (rfl)) .nil_)
 have C16:=ZG true false hl F qs rs hwl hwr2 (by omega) (by omega) (by omega) hck
 rw [hck] at VC
 cases hvf:vfE ps bs os F qs rs
 case false =>
  rw [hvf] at VC
  generalize vfP ps bs os F qs rs=e2 at *
  repeat' (with_reducible first|refine qq ?_|(refine Tx 0 ?_;refine Jn xBo ?_;refine Jn xBo ?_;refine Ja ?_)|(refine Tx 1 ?_;refine Jm ?_;refine Jo (by first|exact Fm rfl rfl rfl (by decide) hr|exact Gz rfl rfl rfl (by omega)) ?_;refine Jo (by first|exact Cp rfl Tryz.underlying5 Tryz.underlying3 rfl hwr|exact CJ rfl Tryz.underlying5 Tryz.underlying3 rfl) ?_;refine Jo (by first|exact GT rfl rfl rfl hmw|exact xAd) ?_;refine Ja ?_)|(refine Tx 2 ?_;refine Jo (xCl Tryz.func23 (AW)) ?_;refine Jo (by first|exact xNt|exact xNg) ?_;refine Jm ?_;(first|iterate 5 refine Jd ?_|(refine Jy (xLa Bi) ?_;refine Jy (xLa CC) ?_;refine Jy xM1 ?_;refine Jy (xCl Tryz.func24 (LT)) ?_;refine Jy (by first|exact xNt|exact xNg) ?_));refine Jo xPk ?_;refine Jm ?_;(first|iterate 3 refine Jd ?_|(refine Jy (xLa Bi) ?_;refine Jy (xCl Tryz.func25 (RC.cv)) ?_;refine Jy xNe ?_));refine Jo xPk ?_)|(refine Tx 4 ?_;refine jA ?_;refine jA ?_;refine Jo (xCl Tryz.func12 (VC)) ?_;refine Jo xMt ?_;refine Jo xEx ?_;refine Jo (by exact FN rfl rfl rfl) ?_;refine Jo xEx ?_;refine Jn (xAl DZ) ?_;refine Ja ?_;refine Js (xSk BB) ?_;refine Ja ?_)|(refine Tx 5 ?_;refine Jm ?_;refine Jo (xNE AQ) ?_;refine Jm ?_;(first|iterate 2 refine Jd ?_|(refine Jy xM1 ?_;refine Jy (by first|exact xNt|exact xNg) ?_));refine Jo xPk ?_;refine Jm ?_;(first|iterate 4 refine Jd ?_|(refine Jy (xLa Bi) ?_;refine Jy (xLa CC) ?_;refine Jy (xCl Tryz.func26 (C16)) ?_;refine Jy xNe ?_));refine Jo xPk ?_)|(refine Tx 6 ?_;refine Ja ?_))
  exact Ap rfl (.cons_ (BL rfl (rfl)) .nil_)
 have A:=XJ hwl hwr2 hvf
 rw [hvf] at VC
 generalize vfP ps bs os F qs rs=e2 at *
 obtain ⟨_,ok,hdc,_,_⟩:=XH hwl hwr2 hck
 have EC:=Ha true hl F qs rs hwl hwr2 (by omega) (by omega) (by omega) hck A
 have WC:=MO true hl F qs rs hwl hwr2 (by omega) (by omega) (by omega) hck A
 rw [hdc] at VC C16 LT
 simp only [hdc] at EC WC
 rw [hdc]
 clear hdc
 generalize MW F qs rs=c at *
 have hEl:=ok.lE
 repeat' (with_reducible first|refine qq ?_|(refine Tx 0 ?_;refine Jn xBo ?_;refine Jn xBo ?_;refine Ja ?_)|(refine Tx 1 ?_;refine Jm ?_;refine Jo (by first|exact Fm rfl rfl rfl (by decide) hr|exact Gz rfl rfl rfl (by omega)) ?_;refine Jo (by first|exact Cp rfl Tryz.underlying5 Tryz.underlying3 rfl hwr|exact CJ rfl Tryz.underlying5 Tryz.underlying3 rfl) ?_;refine Jo (by first|exact GT rfl rfl rfl hmw|exact xAd) ?_;refine Ja ?_)|(refine Tx 2 ?_;refine Jo (xCl Tryz.func23 (AW)) ?_;refine Jo (by first|exact xNt|exact xNg) ?_;refine Jm ?_;(first|iterate 5 refine Jd ?_|(refine Jy (xLa Bi) ?_;refine Jy (xLa CC) ?_;refine Jy xM1 ?_;refine Jy (xCl Tryz.func24 (LT)) ?_;refine Jy (by first|exact xNt|exact xNg) ?_));refine Jo xPk ?_;refine Jm ?_;(first|iterate 3 refine Jd ?_|(refine Jy (xLa Bi) ?_;refine Jy (xCl Tryz.func25 (RC.cv)) ?_;refine Jy xNe ?_));refine Jo xPk ?_)|(refine Tx 4 ?_;refine jA ?_;refine jA ?_;refine Jo (xCl Tryz.func12 (VC)) ?_;refine Jo xMt ?_;refine Jo xEx ?_;refine Jo (by exact FN rfl rfl rfl) ?_;refine Jo xEx ?_;refine Jn (xAl DZ) ?_;refine Ja ?_;refine Js (xSk BB) ?_;refine Ja ?_)|(refine Tx 5 ?_;refine Jm ?_;refine Jo (xNE AQ) ?_;refine Jm ?_;(first|iterate 2 refine Jd ?_|(refine Jy xM1 ?_;refine Jy (by first|exact xNt|exact xNg) ?_));refine Jo xPk ?_;refine Jm ?_;(first|iterate 4 refine Jd ?_|(refine Jy (xLa Bi) ?_;refine Jy (xLa CC) ?_;refine Jy (xCl Tryz.func26 (C16)) ?_;refine Jy xNe ?_));refine Jo xPk ?_)|(refine Tx 7 ?_;refine jF ?_;refine jD ?_;refine jN ?_;refine Jm ?_))
 refine CF (F':=ofL [(3,vr 0),(4,vr 1),(7,vi ((m:Nat))),(61,vd (.row false 3 c.E.length (AN dyP c.E))),(62,vi c.E.length),(63,vi ((0:Nat)))]) (H':=[.box 26 [.d (Fk true ps),.d (EX true bs),.d (BQ true os)],.box 30 [.d (BQ false c.F),.d (.row false 6 c.R.length (AN (dIw false) c.R)),.d (.row false 3 c.E.length (AN dyP c.E))]]) (BM _ 2 ?_ ?_ ?_) ?_
 ·rfl
 ·exact mB rfl rfl
 ·exact ⟨AF rfl,AF rfl,trivial⟩
 refine Bp (fun n Fr H=>∃ k:Nat,k≤c.E.length∧n=c.E.length - k∧(∀ (j:Nat) (p:Pq),j<k→c.E[j]?=some p→upQ p=p)∧Fr=ofL [(3,vr 0),(4,vr 1),(7,vi ((m:Nat))),(61,vd (.row false 3 c.E.length (AN dyP c.E))),(62,vi c.E.length),(63,vi ((k:Nat)))]∧H=[.box 26 [.d (Fk true ps),.d (EX true bs),.d (BQ true os)],.box 30 [.d (BQ false c.F),.d (.row false 6 c.R.length (AN (dIw false) c.R)),.d (.row false 3 c.E.length (AN dyP c.E))]]) (n0:=c.E.length) ⟨0,Nat.zero_le _,rfl,(fun j x hj=>absurd hj (Nat.not_lt_zero _)),rfl,rfl⟩ ?_
 rintro n Fr H ⟨k,hk,rfl,hz,rfl,rfl⟩
 by_cases hlt:k<c.E.length
 case pos =>
  obtain ⟨e,he⟩:∃ e,c.E[k]?=some e:=⟨_,List.getElem?_eq_getElem hlt⟩
  have sE:=ok.sE e (List.mem_of_getElem? he)
  have UP:=Afb e (sE.more (by decide) (by decide))
  have su:=AeX sE.ok
  have lu:(Ad (upQ e).1.natAbs).length≤1000000:=Afg sE
  have SM:=Tv false false (upQ e) e lu (Nat.le_trans (sE.lenN 128 (by decide)) (by decide))
  by_cases hu:upQ e=e
  case neg =>
   rw [decide_eq_false hu] at SM
   repeat' (with_reducible first|refine qq ?_|(refine Tx 8 ?_;refine Jo xLt ?_)|(refine Tx 9 ?_;refine Jo (xIr Ac (MV he)) ?_;refine jA ?_;refine Jn (xAl Aj) ?_;refine Js (xSk Aa) ?_)|(refine AZ (id:=10) AK (by kernel_rfl) ?_;refine kA ?_;refine Ko (xCl Tryz.func28 (UP)) ?_;refine kA ?_;refine Ko (xCl Tryz.func27 (SM)) ?_;refine Ko (by first|exact xNt|exact xNg) ?_;refine Ke ?_)|(refine Tx 11 ?_;refine Ja ?_))
   exact Ap rfl (.cons_ (BL rfl (rfl)) .nil_)
  rw [decide_eq_true hu] at SM
  repeat' (with_reducible first|refine qq ?_|(refine Tx 8 ?_;refine Jo xLt ?_)|(refine Tx 9 ?_;refine Jo (xIr Ac (MV he)) ?_;refine jA ?_;refine Jn (xAl Aj) ?_;refine Js (xSk Aa) ?_)|(refine AZ (id:=10) AK (by kernel_rfl) ?_;refine kA ?_;refine Ko (xCl Tryz.func28 (UP)) ?_;refine kA ?_;refine Ko (xCl Tryz.func27 (SM)) ?_;refine Ko (by first|exact xNt|exact xNg) ?_;refine Ke ?_)|(refine Tx 12 ?_;refine Jo xAd ?_;refine Jm ?_))
  exact ⟨_,_,BM [(3,vr 0),(4,vr 1),(7,vi ((m:Nat))),(61,vd (.row false 3 c.E.length (AN dyP c.E))),(62,vi c.E.length),(63,vi (((k+1):Nat)))] 2 rfl (mB rfl rfl) ⟨AF rfl,AF rfl,trivial⟩,_,by omega,k+1,by omega,rfl,(fun j p hj hp=>by
    rcases Nat.lt_or_ge j k with h|h
    ·exact hz j p h hp
    ·obtain rfl:j=k:=by omega
     rw [he] at hp
     cases hp
     exact hu),rfl,rfl⟩
 obtain rfl:k=c.E.length:=by omega
 have hup:∀ p∈c.E,gv (upQ p)=gv p:=fun p hp=>by obtain ⟨j,hj⟩:=List.getElem?_of_mem hp;rw [hz j p (List.getElem?_eq_some_iff.1 hj).1 hj]
 have EC:=EC hup m m1 (by omega)
 have WC:=WC hup m m1 (by omega)
 clear hz hlt hk
 have hLl:=Pd ps bs c m
 have hLa:∀ k l,(hzL ps bs c m)[k]?=some l→l=hzR ps bs c k:=fun k l h=>by have:=(List.getElem?_eq_some_iff.1 h).1;rw [QH ps bs c (by omega)] at h;exact (Option.some.inj h).symm
 generalize hzL ps bs c m=L at *
 generalize hzC bs c.F (hzR ps bs c (m - 1))=cl at *
 repeat' (with_reducible first|refine qq ?_|(refine Tx 8 ?_;refine Jo xLt ?_)|(refine Tx 13 ?_;refine jA ?_;refine jA ?_;refine Jm ?_;refine Jo (xCl Tryz.func16 (EC)) ?_;refine Jo xMt ?_;refine Jo xEx ?_;refine Jo xEx ?_;refine Jo xEx ?_;refine Ja ?_;refine Ja ?_;refine Ja ?_)|(refine Tx 14 ?_;refine jA ?_;refine jA ?_;refine Jm ?_;refine Jo (xCl Tryz.func17 (WC)) ?_;refine Jo xMt ?_;refine Jo xEx ?_;refine Jo xEx ?_;refine Ja ?_;refine Ja ?_)|(refine Tx 15 ?_;refine Jm ?_;refine Jo (xNE AQ) ?_;refine Jm ?_;(first|iterate 2 refine Jd ?_|(refine Jy xM1 ?_;refine Jy (xNE AQ) ?_));refine Jo xPk ?_;refine Jm ?_;(first|iterate 2 refine Jd ?_|(refine Jy xM1 ?_;refine Jy (by first|exact xNt|exact xNg) ?_));refine Jo xPk ?_)|(refine Tx 17 ?_;refine Jm ?_;refine jN ?_;refine Jm ?_))
 refine CF (F':=ofL [(3,vr 0),(4,vr 1),(7,vi ((m:Nat))),(13,vd (GU L)),(98,vd (GU L)),(99,vi L.length),(100,vi ((0:Nat)))]) (H':=[.box 26 [.d (Fk true ps),.d (EX true bs),.d (BQ true os)],.box 30 [.d (BQ false c.F),.d (.row false 6 c.R.length (AN (dIw false) c.R)),.d (.row false 3 c.E.length (AN dyP c.E))]]) (BM _ 2 ?_ ?_ ?_) ?_
 ·rfl
 ·exact mB rfl rfl
 ·exact ⟨AF rfl,AF rfl,trivial⟩
 refine Bp (fun n Fr H=>∃ k:Nat,k≤L.length∧n=L.length - k∧Fr=ofL [(3,vr 0),(4,vr 1),(7,vi ((m:Nat))),(13,vd (GU L)),(98,vd (GU L)),(99,vi L.length),(100,vi ((k:Nat)))]∧H=[.box 26 [.d (Fk true ps),.d (EX true bs),.d (BQ true os)],.box 30 [.d (BQ false c.F),.d (.row false 6 c.R.length (AN (dIw false) c.R)),.d (.row false 3 c.E.length (AN dyP c.E))]]) (n0:=L.length) ⟨0,Nat.zero_le _,rfl,rfl,rfl⟩ ?_
 rintro n Fr H ⟨k,hk,rfl,rfl,rfl⟩
 by_cases hlt:k<L.length
 case pos =>
  obtain ⟨E,hE⟩:∃ E,L[k]?=some E:=⟨_,List.getElem?_eq_getElem hlt⟩
  obtain ⟨hel,hEs,hEi⟩:=A.R_in hup k
  rw [←hLa k E hE] at hel hEs hEi
  repeat' (with_reducible first|refine qq ?_|(refine Tx 18 ?_;refine Jo xLt ?_)|(refine Tx 19 ?_;refine Jo (xIr BJ (Nt (f:=dRw) hE)) ?_;refine jD ?_;refine Ja ?_)|(refine Tx 20 ?_;refine Jm ?_;refine jN ?_;refine jF ?_;refine jD ?_;refine jN ?_;refine Jo xNe ?_)|(refine Tx 22 ?_;refine Jm ?_;refine jN ?_;refine Jm ?_))
  refine CF (F':=ofL [(3,vr 0),(4,vr 1),(7,vi ((m:Nat))),(13,vd (GU L)),(19,vd (QE E)),(98,vd (GU L)),(99,vi L.length),(100,vi ((k:Nat))),(110,vd (QE E)),(111,vi E.length),(112,vi ((0:Nat)))]) (H':=[.box 26 [.d (Fk true ps),.d (EX true bs),.d (BQ true os)],.box 30 [.d (BQ false c.F),.d (.row false 6 c.R.length (AN (dIw false) c.R)),.d (.row false 3 c.E.length (AN dyP c.E))]]) (BM _ 2 ?_ ?_ ?_) ?_
  ·rfl
  ·exact mB rfl rfl
  ·exact ⟨AF rfl,AF rfl,trivial⟩
  refine Bp (fun n Fr H=>∃ j:Nat,j≤E.length∧n=E.length - j∧Fr=ofL [(3,vr 0),(4,vr 1),(7,vi ((m:Nat))),(13,vd (GU L)),(19,vd (QE E)),(98,vd (GU L)),(99,vi L.length),(100,vi ((k:Nat))),(110,vd (QE E)),(111,vi E.length),(112,vi ((j:Nat)))]∧H=[.box 26 [.d (Fk true ps),.d (EX true bs),.d (BQ true os)],.box 30 [.d (BQ false c.F),.d (.row false 6 c.R.length (AN (dIw false) c.R)),.d (.row false 3 c.E.length (AN dyP c.E))]]) (n0:=E.length) ⟨0,Nat.zero_le _,rfl,rfl,rfl⟩ ?_
  rintro n Fr H ⟨j,hj,rfl,rfl,rfl⟩
  by_cases hlj:j<E.length
  case pos =>
   obtain ⟨e,he⟩:∃ e,E[j]?=some e:=⟨_,List.getElem?_eq_getElem hlj⟩
   obtain ⟨x,hx⟩:∃ x,c.E[j]?=some x:=⟨_,List.getElem?_eq_getElem (by omega)⟩
   have se:=hEs e (List.mem_of_getElem? he)
   have sx:=ok.sE x (List.mem_of_getElem? hx)
   have hle:=hEi.le j
   rw [he,hx,Option.getD_some,Option.getD_some] at hle
   have CM:=WG (G:=Ax) false false e.1 e.2 x.1 x.2 se.ok sx.ok (Nat.le_trans (se.lenN 128 (by decide)) (by decide)) (Nat.le_trans (sx.lenN 128 (by decide)) (by decide))
   have hc:Cl e.1 e.2 x.1 x.2≤0:=(My (p:=e) (q:=x) se.le sx.le).2 hle
   generalize Cl e.1 e.2 x.1 x.2=q at *
   repeat' (with_reducible first|refine qq ?_|(refine Tx 23 ?_;refine Jo xLt ?_)|(refine Tx 24 ?_;refine Jm ?_;refine Jo (by first|exact xIr Ac (MV he)|exact xIr Ac (MV hx)) ?_;refine jA ?_;refine Jn (xAl Aj) ?_;refine Ja ?_;refine Js (xSk Aa) ?_)|(refine AZ (id:=25) AK (by kernel_rfl) ?_;refine kA ?_;refine kF ?_;refine kD ?_;refine Km ?_;refine Ko (by first|exact xIr Ac (MV he)|exact xIr Ac (MV hx)) ?_;refine kA ?_;refine Ko (xCl Tryz.func29 (CM.cv)) ?_;refine Ko xGt ?_;refine Ke ?_)|(refine Tx 27 ?_;refine Jo xAd ?_;refine Jm ?_))
   refine ⟨_,_,BM _ 2 ?_ ?_ ?_,_,by omega,j+1,by omega,rfl,rfl,rfl⟩
   ·rfl
   ·exact mB rfl rfl
   ·exact ⟨AF rfl,AF rfl,trivial⟩
  obtain rfl:j=E.length:=by omega
  repeat' (with_reducible first|refine qq ?_|(refine Tx 23 ?_;refine Jo xLt ?_)|(refine Tx 28 ?_;refine Jo xAd ?_;refine Jm ?_))
  refine ⟨_,_,BM _ 2 ?_ ?_ ?_,_,by omega,k+1,by omega,rfl,rfl,rfl⟩
  ·rfl
  ·exact mB rfl rfl
  ·exact ⟨AF rfl,AF rfl,trivial⟩
 obtain rfl:k=L.length:=by omega
 repeat' (with_reducible first|refine qq ?_|(refine Tx 18 ?_;refine Jo xLt ?_)|(refine Tx 29 ?_;refine Jm ?_;refine jN ?_;refine Jm ?_;refine Jo xEq ?_;refine Ja ?_))
 exact Ap rfl (.cons_ (BL rfl (rfl)) .nil_)
end Go.Proofs.YtmdfjbpggbhgnaaGreatDoor
namespace Go.Proofs.YtmdfjbpggbhgnaaGreatDoor
open Go.ChangeShapes Go.WideShapes Go.ChangeAt Go.RowKit Go.Joins Go.Deep
def AcZ (w:World):Eu:=fun t b=>t=true∧b<w.heap.size
theorem XS {w:World} {A:Option Addr} {s n c:Nat} {cs:List D} {xs:List Value} (h:Am w w.heap.size A xs) (hc:n≤c) (hA:A=none→c=0) (hl:cs.length=n*s) (hr:Bv (BE w (AcZ w)) cs xs):BE w (AcZ w) (.row true s n cs) (.slice A n c):=by
 refine .row xs hc hA hl hr.1 (fun hne=>?_) hr.2
 obtain ⟨b,off,h1,_,h2,h3⟩:=h (fun h0=>hne (by have:=hr.1;rw [h0] at this;exact List.eq_nil_of_length_eq_zero (by simpa using this)))
 exact ⟨b,off,h1,⟨rfl,h2⟩,h3⟩
theorem TJ {zs:List Int}:∀ v∈CO zs,v.oneCell'=true:=fun v hv=>by
 obtain ⟨z,_,rfl⟩:=List.mem_map.1 hv
 rfl
theorem XT {w:World} {A:Option Addr} {zs:List Int} {c:Nat} (h:Am w w.heap.size A (CO zs)) (hc:zs.length≤c) (hA:A=none→c=0):BE w (AcZ w) (BQ true zs) (.slice A zs.length c):=by
 unfold BQ
 rw [Th]
 exact XS h hc hA (by simp [CO]) (Hq TJ)
theorem Ada {ps:List Prt}:∀ v∈Hb Prt.cells ps,v.oneCell'=true:=fun v hv=>by
 obtain ⟨l,hl,hv⟩:=List.mem_flatten.1 hv
 obtain ⟨p,_,rfl⟩:=List.mem_map.1 hl
 simp only [Prt.cells,List.mem_cons,List.not_mem_nil,or_false] at hv
 rcases hv with rfl|rfl|rfl <;> rfl
theorem QJ {α:Type} {f:α→List Value} {s:Nat} (hf:∀ x,(f x).length=s):∀ l:List α,(Hb f l).length=l.length*s
 | []=>by simp [Hb]
 | x::l=>by
  have ih:=QJ hf l
  unfold Hb at ih ⊢
  rw [List.map_cons,List.flatten_cons,List.length_append,ih,hf,List.length_cons,Nat.add_mul]
  omega
theorem Adb {w:World} {A:Option Addr} {ps:List Prt} {c:Nat} (h:Am w w.heap.size A (Hb Prt.cells ps)) (hc:ps.length≤c) (hA:A=none→c=0):BE w (AcZ w) (Fk true ps) (.slice A ps.length c):=by
 unfold Fk
 rw [NC Qg]
 exact XS h hc hA (by rw [List.length_map];exact QJ (f:=Prt.cells) (s:=3) (fun _=>rfl) ps) (Hq Ada)
theorem AaC {w:World}:∀ {bs:List Bk},(∀ b∈bs,Am w w.heap.size b.A (CO b.args)∧b.args.length≤b.cap∧(b.A=none→b.cap=0))→Bv (BE w (AcZ w)) (AN (dBk true) bs) (Hb Bk.cells bs)
 | [],_=>.nil_
 | b::bs,h=>by
  have ih:=AaC (w:=w) (bs:=bs) fun x hx=>h x (by simp [hx])
  obtain ⟨h1,h2,h3⟩:=h b (by simp)
  exact .cons_ (.val rfl) (.cons_ (XT h1 h2 h3) (.cons_ (.val rfl) (.cons_ (.val rfl) (.cons_ (.val rfl) (.cons_ (.val rfl) ih)))))
theorem XU (t:Bool):∀ bs:List Bk,(AN (dBk t) bs).length=bs.length*6
 | []=>rfl
 | b::bs=>by
  have ih:=XU t bs
  show (AN (dBk t) ([b]++bs)).length=_
  rw [PO,List.length_append,ih,List.length_cons,Nat.add_mul]
  show 6+bs.length*6=_
  omega
section
variable {H:Type} {enc:TypeId × Value→H} {w:World} {spare:Nat→Bool} {held:Bool}
theorem ZK {r:Go.Reach} {b0:Nat} {v:Value} {d:DataW H} {p:List MemPlace} (hv:Value.okWide Tryz.prog w r b0 26 v) (h:DataW.Trod enc Tryz.prog w 0 spare held 26 v d p) :
  ∃ (ps:List Prt) (bs:List Bk) (os:List Int),EN w (AcZ w) (aDg true ps bs os) v:=by
 obtain ⟨v0,v1,v2,y0,y1,y2,m,rfl,rfl,rfl,g0,g1,g2⟩:=open_agg3 Tryz.underlying26 (by kernel_rfl) (by kernel_rfl) hv h
 obtain ⟨A1,c1,ps,rfl,n1,k1,l1,h1,b1⟩:=Qa Ael Rm (fun _=>rfl) (by decide) Tryz.underlying22 Tryz.underlying81 (by kernel_rfl) (Nx (by kernel_rfl)) (by kernel_rfl) rfl g0
 obtain ⟨A2,c2,bs,e2,l2,h2,b2⟩:=Qe g1
 obtain ⟨A3,c3,os,rfl,n3,k3,l3,h3,b3⟩:=Fj Tryz.underlying24 Tryz.underlying3 (by kernel_rfl) g2
 have hs:(A2=none→c2=0)∧bs.length≤c2:=by
  rcases open_slice Tryz.underlying23 g1 with ⟨hcs,_⟩|⟨a,len,cap,m,n,D,Pl,hcs,_,hl,hm,hmm,_,hx⟩
  ·have e3:v1=.slice none 0 0:=by simpa using hcs
   rw [e2] at e3
   simp only [Value.slice.injEq] at e3
   exact ⟨fun _=>e3.2.2,by omega⟩
  ·have e3:v1=.slice (some a) len cap:=by simpa using hcs
   rw [e2] at e3
   simp only [Value.slice.injEq] at e3
   exact ⟨fun h0=>(by rw [e3.1] at h0;cases h0),by omega⟩
 refine ⟨ps,bs,os,[.slice A1 ps.length c1,v1,.slice A3 os.length c3],rfl,?_⟩
 rw [e2]
 exact .cons_ (Adb h1 k1 n1) (.cons_ (XS h2 hs.2 hs.1 (XU true bs) (AaC fun b hb=>⟨(b2 b hb).2.2.2.1,(b2 b hb).2.1,(b2 b hb).1⟩)) (.cons_ (XT h3 k3 n3) .nil_))
end
def Ph (w:World):Eu:=fun _ b=>b<w.heap.size
theorem Ph.of {w:World} {x:A} {v:Value} (h:EN w (AcZ w) x v):EN w (Ph w) x v:=h.mono (fun _ _ hb=>hb.2) fun _ _ _=>rfl
theorem Adc {f:FuncId} {args:List A} (h:CV Tryz.prog Ax f args [aB true]) {w:World} (ht:Ax w) {vs:List Value} (ha:Bv (EN w (Ph w)) args vs) :
  Calls Tryz.prog f vs.toArray w fun e w'=>e=.returned (.bool true)∧Below w.heap.size w w' :=
 (h w _ vs ht (fun t b hb=>hb) ha).mono fun e w' ⟨v,h1,h2,h3⟩=>by
  have h4:BE w' _ (dB true) v:=h2
  cases h4
  exact ⟨h1,h3⟩
structure XV (α:Type) (s:Nat) where
 cs:List Value
 len:cs.length=s
 a:α
instance {α:Type} {s:Nat} [Inhabited α]:Inhabited (XV α s):=⟨⟨List.replicate s undef,List.length_replicate,default⟩⟩
section
variable {H:Type} {enc:TypeId × Value→H} {P:Program} {w:World} {spare:Nat→Bool} {held:Bool}
theorem Pi {α:Type} [Inhabited α] {s:Nat} {Q:α→List Value→Prop} (hs0:0<s) {t e:TypeId} {fuel:Nat} {v:Value} {x:DataW H × List MemPlace} (ht:P.underlying t=some (.slice e)) (hC:P.cellsOf e=s)
  (hrow:∀ (fuel:Nat) (cs:List Value) (x:DataW H × List MemPlace),DataW.trod enc P w 0 spare held fuel e cs=some x→cs.length=s→∃ a,Q a cs)
  (h:DataW.trod enc P w 0 spare held fuel t [v]=some x) :
  ∃ (A:Option Addr) (cap:Nat) (l:List (XV α s)),v=.slice A l.length cap∧(A=none→cap=0)∧l.length≤cap∧l.length≤maxLen∧Am w w.heap.size A (Hb XV.cs l)∧∀ x∈l,Q x.a x.cs:=by
 rcases open_slice ht h with ⟨hcs,_⟩|⟨a,len,cap,m,n,D,Pl,hcs,_,hl,hm,hmm,_,hx⟩
 ·exact ⟨none,0,[],by simpa using hcs,fun _=>rfl,Nat.le_refl _,Nat.zero_le _,Am.nil_,by simp⟩
 ·have hle:len≤m:=by rw [hmm];split <;> omega
  rw [hC] at hx
  obtain ⟨R,hR⟩:=choose_lt (α:=XV α s) (n:=len) (p:=fun i b=>Q b.a b.cs∧∀ j,j<s→w.cell? (a.add (i*s+j))=b.cs[j]?) (fun i hi=>by
   obtain ⟨cs',h1,h2⟩:=hx i (by omega)
   obtain ⟨_,hlen,hcell⟩:=World.cells?_some h1
   obtain ⟨b,hb⟩:=hrow _ _ _ h2 (by simpa using hlen)
   exact ⟨⟨cs',by simpa using hlen,b⟩,hb,fun j hj=>by rw [←add_add];exact hcell j hj⟩)
  refine ⟨some a,cap,(List.range len).map R,by simpa using hcs,by simp,by simpa using hl,by simp;omega,fun hne=>?_,?_⟩
  ·have hpos:0<len:=by
    rcases Nat.eq_zero_or_pos len with h0|h0
    ·subst h0;simp [Hb] at hne
    ·exact h0
   obtain ⟨b,off,spot⟩:=a
   have h00:=(hR 0 hpos).2 0 hs0
   have hz0:(R 0).cs[0]?=some ((R 0).cs[0]'(by rw [(R 0).len];exact hs0)):=List.getElem?_eq_getElem _
   rw [hz0] at h00
   have hspot:spot=none:=by simpa [Addr.add] using World.cell?_spot h00
   subst hspot
   have hb:b<w.heap.size:=by
    rcases Nat.lt_or_ge b w.heap.size with h|h
    ·exact h
    ·simp [World.cell?,Addr.add,Array.getElem?_eq_none h] at h00
   refine ⟨b,off,rfl,hb,hb,fun j u hu=>?_⟩
   have hjl:j<len*s:=by
    have:=(List.getElem?_eq_some_iff.1 hu).1
    rw [Oo (f:=XV.cs) (s:=s) (fun x=>x.len)] at this
    simpa using this
   have hk:j / s<len:=Nat.div_lt_of_lt_mul (by rw [Nat.mul_comm];exact hjl)
   have hr:j % s<s:=Nat.mod_lt _ hs0
   have hj:j / s*s+j % s=j:=by rw [Nat.mul_comm];exact Nat.div_add_mod j s
   have hg:((List.range len).map R)[j / s]?=some (R (j / s)):=by simp [hk]
   have h1:=Gd (f:=XV.cs) (s:=s) (fun x=>x.len) hg hr
   rw [hj,hu] at h1
   have h2:=(hR _ hk).2 (j % s) hr
   rw [hj,←h1] at h2
   rw [←Go.WideShapes.add_plain]
   exact h2
  ·intro y hy
   obtain ⟨i,hi,rfl⟩:=List.mem_map.1 hy
   exact (hR i (by simpa using hi)).1
theorem RZ {tg:Bool} {A:Option Addr} {s n c:Nat} {cs:List D} {xs:List Value} (h:Am w w.heap.size A xs) (hc:n≤c) (hA:A=none→c=0) (hl:cs.length=n*s) (hr:Bv (BE w (Ph w)) cs xs):BE w (Ph w) (.row tg s n cs) (.slice A n c):=by
 refine .row xs hc hA hl hr.1 (fun hne=>?_) hr.2
 obtain ⟨b,off,h1,_,h2,h3⟩:=h (fun h0=>hne (by have:=hr.1;rw [h0] at this;exact List.eq_nil_of_length_eq_zero (by simpa using this)))
 exact ⟨b,off,h1,h2,h3⟩
theorem AaD {α:Type} [Inhabited α] (f:α→List D) (Q:α→Prop) {s:Nat} {tg:Bool} (hs0:0<s) (hfl:∀ a,(f a).length=s) {t e:TypeId} {fuel:Nat} {v:Value} {x:DataW H × List MemPlace} (ht:P.underlying t=some (.slice e)) (hC:P.cellsOf e=s)
  (hrow:∀ (fuel:Nat) (cs:List Value) (x:DataW H × List MemPlace),DataW.trod enc P w 0 spare held fuel e cs=some x→cs.length=s→∃ a,Q a∧Bv (BE w (Ph w)) (f a) cs)
  (h:DataW.trod enc P w 0 spare held fuel t [v]=some x):∃ l:List α,BE w (Ph w) (.row tg s l.length (AN f l)) v∧(∀ a∈l,Q a)∧l.length≤maxLen:=by
 obtain ⟨A,cap,l,rfl,hA,hc,hm,hcl,hQ⟩:=Pi (Q:=fun a cs=>Q a∧Bv (BE w (Ph w)) (f a) cs) hs0 ht hC hrow h
 refine ⟨l.map XV.a,?_,fun a ha=>?_,by rw [List.length_map];exact hm⟩
 ·have key:∀ l:List (XV α s),(∀ x∈l,Q x.a∧Bv (BE w (Ph w)) (f x.a) x.cs)→Bv (BE w (Ph w)) (AN f (l.map XV.a)) (Hb XV.cs l):=fun l=>by
   induction l with
   | nil=>intro _;exact Bv.nil_
   | cons y l ih=>intro hq;exact (hq y (List.mem_cons_self ..)).2.app (ih fun z hz=>hq z (List.mem_cons_of_mem _ hz))
  have:=RZ (tg:=tg) (n:=(l.map XV.a).length) hcl (by rw [List.length_map];exact hc) hA (VT (f:=f) hfl _) (key l hQ)
  rwa [List.length_map] at this ⊢
 ·obtain ⟨y,hy,rfl⟩:=List.mem_map.1 ha
  exact (hQ y hy).1
end
theorem Sa {n:Nat} (h:n≤maxLen):(n:Int)≤9223372036854775807:=by unfold maxLen at h;omega
section
variable {H:Type} {enc:TypeId × Value→H} {w:World} {spare:Nat→Bool} {held:Bool}
theorem XW {tg:Bool} {A:Option Addr} {ws:List Nat} {c:Nat} (h:Am w w.heap.size A (w32 ws)) (hc:ws.length≤c) (hA:A=none→c=0):BE w (Ph w) (.row tg 1 ws.length (ws.map dW)) (.slice A ws.length c):=by
 rw [←Un]
 exact RZ h hc hA (by rw [List.length_map,LJ,Nat.mul_one]) (Hq fun v hv=>Rt hv)
theorem XX (tg:Bool) {r:Rw} (h:Acm w w.heap.size r):Bv (BE w (Ph w)) (dRv tg ⟨r.nb,r.ws,r.den⟩) r.cells :=
 .cons_ (.val rfl) (.cons_ (XW h.at_ h.fit h.nul) (.cons_ (.val rfl) .nil_))
instance:Inhabited Rv:=⟨⟨false,[],0⟩⟩
def ZL (r:Rv):Prop:=Az r.ws∧r.ws.length≤maxLen ∧ -9223372036854775808≤r.den∧r.den≤9223372036854775807
theorem Add (tg:Bool) {fuel:Nat} {cs:List Value} {x:DataW H × List MemPlace} (h:DataW.trod enc Tryz.prog w 0 spare held fuel 43 cs=some x):∃ r:Rv,ZL r∧Bv (BE w (Ph w)) (dRv tg r) cs:=by
 obtain ⟨r,rfl,h1,h2,h3⟩:=WT h
 exact ⟨⟨r.nb,r.ws,r.den⟩,⟨h1.ok,h2,h3⟩,XX tg h1⟩
end
section
variable {H:Type} {enc:TypeId × Value→H} {w:World} {spare:Nat→Bool} {held:Bool}
theorem Ade (tg:Bool) {fuel:Nat} {cs:List Value} {x:DataW H × List MemPlace} (h:DataW.trod enc Tryz.prog w 0 spare held fuel 45 cs=some x):∃ q:Rv × Rv,(ZL q.1∧ZL q.2)∧Bv (BE w (Ph w)) (dIr tg q) cs:=by
 obtain ⟨a,rfl,h1,l1,l2,d1,d2⟩:=Aey h
 exact ⟨(⟨a.lo.nb,a.lo.ws,a.lo.den⟩,⟨a.hi.nb,a.hi.ws,a.hi.den⟩),⟨⟨h1.lo.ok,l1,d1⟩,h1.hi.ok,l2,d2⟩,(XX tg h1.lo).app (XX tg h1.hi)⟩
end
section
variable {H:Type} {enc:TypeId × Value→H} {w:World} {spare:Nat→Bool} {held:Bool}
theorem Adf {fuel:Nat} {v:Value} {x:DataW H × List MemPlace} (hf:DataW.trod enc Tryz.prog w 0 spare held fuel 27 [v]=some x) :
  ∃ qs:List (Rv × Rv),BE w (Ph w) (Pa qs) v∧(∀ q∈qs,ZL q.1∧ZL q.2)∧(qs.length:Int)≤9223372036854775807:=by
 obtain ⟨qs,h1,h2,h3⟩:=AaD (s:=6) (tg:=false) (dIr false) (fun q:Rv × Rv=>ZL q.1∧ZL q.2) (by decide) (fun _=>rfl) Tryz.underlying27 (by kernel_rfl) (fun fuel cs x hx _=>Ade false hx) hf
 exact ⟨qs,h1,h2,Sa h3⟩
theorem Adg {fuel:Nat} {v:Value} {x:DataW H × List MemPlace} (hf:DataW.trod enc Tryz.prog w 0 spare held fuel 28 [v]=some x) :
  ∃ rs:List Rv,BE w (Ph w) (Xb rs) v∧(∀ r∈rs,ZL r)∧(rs.length:Int)≤9223372036854775807:=by
 obtain ⟨rs,h1,h2,h3⟩:=AaD (s:=3) (tg:=false) (dRv false) ZL (by decide) (fun _=>rfl) Tryz.underlying28 (by kernel_rfl) (fun fuel cs x hx _=>Add false hx) hf
 exact ⟨rs,h1,h2,Sa h3⟩
theorem XY {r:Go.Reach} {b0:Nat} {v:Value} {d:DataW H} {p:List MemPlace} (hv:Value.okWide Tryz.prog w r b0 30 v) (h:DataW.Trod enc Tryz.prog w 0 spare held 30 v d p) :
  ∃ (F:List Int) (qs:List (Rv × Rv)) (rs:List Rv),EN w (Ph w) (.agg (dCr false F qs rs)) v∧(∀ q∈qs,Az q.1.ws∧Az q.2.ws)∧(∀ r∈rs,Az r.ws)∧(F.length:Int)≤9223372036854775807∧(qs.length:Int)≤9223372036854775807∧(rs.length:Int)≤9223372036854775807:=by
 obtain ⟨v0,v1,v2,y0,y1,y2,m,rfl,rfl,rfl,g0,g1,g2⟩:=open_agg3 Tryz.underlying30 (by kernel_rfl) (by kernel_rfl) hv h
 obtain ⟨A,cp,zs,rfl,n,k,l,hc,b⟩:=Fj Tryz.underlying24 Tryz.underlying3 (by kernel_rfl) g0
 obtain ⟨qs,h1,k1,l1⟩:=Adf g1
 obtain ⟨rs,h2,k2,l2⟩:=Adg g2
 have h0:BE w (Ph w) (BQ false zs) (.slice A zs.length cp):=by
  unfold BQ
  rw [Th]
  exact RZ hc k n (by simp [CO]) (Hq TJ)
 exact ⟨zs,qs,rs,⟨_,rfl,.cons_ h0 (.cons_ h1 (.cons_ h2 .nil_))⟩,fun q hq=>⟨(k1 q hq).1.1,(k1 q hq).2.1⟩,fun r hr=>(k2 r hr).1,Sa l,l1,l2⟩
end
end Go.Proofs.YtmdfjbpggbhgnaaGreatDoor
