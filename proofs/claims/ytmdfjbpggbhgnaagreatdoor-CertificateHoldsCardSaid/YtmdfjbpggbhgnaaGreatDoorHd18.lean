/- What the proofs of this claim share, part 18. No conditions. -/
import Derived.Test.YtmdfjbpggbhgnaaGreatDoorHd12
import Derived.Test.YtmdfjbpggbhgnaaGreatDoorHd16
import Derived.Test.YtmdfjbpggbhgnaaGreatDoorHd9
import Derived.Test.YtmdfjbpggbhgnaaGreatDoorHd10
import Derived.Laws.StructEq
import Derived.Deep.RegionHeld3
set_option maxRecDepth 100000
set_option maxHeartbeats 8000000
set_option linter.all false
open Go.Proofs.Tryz
namespace Go.Proofs.YtmdfjbpggbhgnaaGreatDoor
open Go.RowKit
variable {p p':Prop}
def Lp (ps:List Prt) (bs:List Bk) (os:List Int) (F:List Int):Int:=if AO ps bs os=0 then HM ps bs F else AO ps bs os
def UW {α:Type} (e:Int) (l:List α):List α:=if e=0 then l else []
def Px {α:Type} {e:Int} (h:e≠0) (l:List α):UW e l=[]:=if_neg h
def WT {α:Type} {e:Int} (h:e=0) (l:List α):UW e l=l:=if_pos h
def Avx {P:Program} {F:Frm} {H:List Ob} {t:Tmp} {ty ty' id k:Nat} {cs:List C} {ds:List D} {y:A} (hk:TyK P ty true k) (hy:y=.agg ds) (hF:F t=.one (.ref id 0 none):=by with_unfolding_all exact rfl) (hH:H[id]?=some (.box ty' cs):=by with_unfolding_all exact rfl) (hi:cs.length=k:=by with_unfolding_all exact rfl) (h:Ba (FD false H) cs ds:=by repeat' first|exact BJ rfl rfl|refine AZ rfl rfl ?_ ?_|refine EP rfl rfl ?_|refine CZ rfl rfl ?_|exact Bs rfl (fun _=>by first|exact Dh.val _|exact Zs _|exact Dh.row (Ce TX _)|exact Dh.row (Ce Zt _))|exact EQ rfl rfl|exact cexp_e rfl rfl):RV P F H (.cell t ty) y:=VQ hF hH hk hi hy h
def Agi (k:p') (h:Hd9 p'→p:=by with_reducible first|(intro Z9;refine Tx 0 ?_;refine gN xBo <| gN (xAl Ol) <| gO xA ?_;exact Z9.o)|(intro Z9;refine Tx 1 ?_;refine gO xL <| gO (xCl func60 (HO.cv)) <| gO xMt <| gO xEx <| gO xEx <| gO xA <| gO xA ?_;exact Z9.o)|(intro Z9;refine Tx 2 ?_;refine gO xM <| gO (xNE Ai) ?_;exact Z9.o)|(intro Z9;refine Tx 3 ?_;refine gO (by exact Az rfl Dq rfl rfl) <| gO xM <| gZ (xSk BB) <| gO xA ?_;exact Z9.o)|(intro Z9;refine Tx 4 ?_;refine gO xM <| gO xN <| gO xF <| gO xD <| gO xN <| gO xNe ?_;exact Z9.o)|(intro Z9;refine Tx 5 ?_;refine gO (by exact Az rfl Dq rfl rfl) <| gO (xMi underlying109) <| gZ (xSk BB) <| gO xA ?_;exact Z9.o)|(intro Z9;refine Tx 6 ?_;refine gO xM <| gO xN <| gO xM ?_;exact Z9.o)|fail):p:=h ⟨k⟩
def Agj (k:p') (h:Hd9 p'→p:=by with_reducible first|(intro Z9;refine Tx 8 ?_;refine gO (xIr Af (AG hz)) <| gO xD <| gO xA ?_;exact Z9.o)|(intro Z9;refine Tx 9 ?_;refine gO xM <| gO xLt <| gO xM ?_;(first|iterate 2 refine Jd ?_|(refine Jy xM1 ?_;refine Jy xGt ?_));refine gO xPk ?_;exact Z9.o)|(intro Z9;refine Tx 10 ?_;refine gO (by exact Az rfl Dq rfl rfl) <| gO (xMi underlying109) <| gZ (xSk BB) <| gO xA ?_;exact Z9.o)|(intro Z9;refine Tx 11 ?_;refine gO xAd <| gO xM ?_;exact Z9.o)|fail):p:=h ⟨k⟩
def Pi (k:p') (h:Hd9 p'→p:=by with_reducible first|(intro Z9;refine Tx 19 ?_;refine gO xF <| gO xD <| gO xEq <| gO xA ?_;exact Z9.o)|(intro Z9;refine Tx 20 ?_;refine gO xM <| gO xM ?_;(first|iterate 3 refine Jd ?_|(refine Jy (xFa Gv Ar) ?_;refine Jy (xLd Ar) ?_;refine Jy xEq ?_));refine gO xPk <| gO xM ?_;(first|iterate 3 refine Jd ?_|(refine Jy (xFa Gv Ar) ?_;refine Jy (xLd Ar) ?_;refine Jy xEq ?_));refine gO xPk ?_;exact Z9.o)|fail):p:=h ⟨k⟩
def AtE (h:p:=by first|exact OY rfl rfl rfl rfl Ar tlV stV|exact OY rfl rfl rfl rfl Ar tlU stU|exact xS1 Ar|exact xSk Ar):p:=h
def AtF (h:p:=by first|exact xCl func117 (RV.cv)|exact xCl func117 (RU.cv)):p:=h
def RZ (h:p:=by first|exact xIr Af (AG hz)|exact xIo Af):p:=h
def Agk (k:p') (h:Hd9 p'→p:=by with_reducible first|(intro Z9;refine FK (id:=21) 13 [(13,11)] AN (by kernel_rfl) ?_;dsimp only [List.take,List.drop];refine gP xM <| gP xM <| gP xF <| gP xL <| gP xM <| gP xM <| gP RZ <| gP xD <| gP AtF <| gP xMt <| gP xEx <| gP xEx <| gP RZ ?_;refine Ke ?_;refine gZ AtE <| gO xA ?_;exact Z9.o)|fail):p:=h ⟨k⟩
def Alg (k:p') (h:Hd9 p'→p:=by with_reducible first|(intro Z9;refine FK (id:=25) 13 [(13,11)] AN (by kernel_rfl) ?_;dsimp only [List.take,List.drop];refine gP xM <| gP xM <| gP xF <| gP xL <| gP xM <| gP xM <| gP RZ <| gP xD <| gP AtF <| gP xMt <| gP xEx <| gP xEx <| gP RZ ?_;refine Ke ?_;refine gZ AtE <| gO xA ?_;exact Z9.o)|(intro Z9;refine Tx 26 ?_;refine gO xM <| gO (xNE Ai) ?_;exact Z9.o)|fail):p:=h ⟨k⟩
def Aam (k:p') (h:Hd9 p'→p:=by with_reducible first|(intro Z9;refine Tx 29 ?_;refine gO xF <| gO xD <| gO xEq ?_;exact Z9.o)|(intro Z9;refine Tx 32 ?_;refine gO xAd <| gO xM ?_;exact Z9.o)|fail):p:=h ⟨k⟩
def Alh (k:p') (h:Hd9 p'→p:=by with_reducible first|(intro Z9;refine FK (id:=21) 13 [(13,11)] AN (by kernel_rfl) ?_;dsimp only [List.take,List.drop];refine gP xM <| gP xM <| gP xF <| gP xL <| gP xM <| gP xM <| gP RZ <| gP xD <| gP (xCl func117 (RV.cv)) <| gP xMt <| gP xEx <| gP xEx <| gP RZ ?_;refine Ke ?_;refine gZ (by first|exact OY rfl rfl rfl rfl Ar tlV stV|exact xS1 Ar|exact xSk Ar) <| gO xA ?_;exact Z9.o)|fail):p:=h ⟨k⟩
def AtG (h:p:=by first|exact OY rfl rfl rfl rfl Ar tlV stV|exact OY rfl rfl rfl rfl Ar tlI stI|exact xS1 Ar|exact xSk Ar):p:=h
def AoS (h:p:=by first|exact xLi gV Ar|exact xLd Ar):p:=h
def Ali (k:p') (h:Hd9 p'→p:=by with_reducible first|(intro Z9;refine FK (id:=21) 13 [(13,11)] AN (by kernel_rfl) ?_;dsimp only [List.take,List.drop];refine gP xM <| gP xM <| gP xF <| gP xL <| gP xM <| gP xM <| gP RZ <| gP AoS <| gP (xCl func117 (RV.cv)) <| gP xMt <| gP xEx <| gP xEx <| gP RZ ?_;refine Ke ?_;refine gZ AtG <| gO xA ?_;exact Z9.o)|fail):p:=h ⟨k⟩
def Rn (k:p') (h:Hd9 p'→p:=by with_reducible first|(intro Z9;refine Tx 54 ?_;refine gO xEq <| gO xA ?_;exact Z9.o)|(intro Z9;refine Tx 64 ?_;refine gO xAd <| gO xM ?_;exact Z9.o)|fail):p:=h ⟨k⟩
def Lr (h:p:=by first|exact xIr Af (AG (Tg hj))|exact xIr Af (AG hz)|exact xIr Af (AG hz0)|exact xIr Af (AG hz1)|exact xIo Af):p:=h
def Ro (h:p:=by first|exact xIr Af (AG hA0)|exact xIo Af):p:=h
def WV (h:p:=by first|exact xS1 Gs|exact xSk Gs):p:=h
def Alj (k:p') (h:Hd9 p'→p:=by with_reducible first|(intro Z9;refine AE (id:=50) 22 AN (by kernel_rfl) ?_;dsimp only [List.take,List.drop];refine gP xF <| gP xD <| gP (xCl func118 (OP.cv)) <| gP xM <| gP xF <| gP xD <| gP Ro <| gP xD <| gP xM <| gP xM <| gP Lr <| gP xD <| gP xM <| gP xF <| gP xD <| gP Ro <| gP xD <| gP Lr <| gP xD <| gP xSb <| gP (by exact Az rfl EY rfl rfl) <| gQ (xAl Cn) ?_;refine Ke ?_;refine gZ (xSk FP) ?_;exact Z9.o)|(intro Z9;refine Tx 51 ?_;refine gO xF <| gO xD <| gO xN <| gO xEq ?_;exact Z9.o)|(intro Z9;refine Tx 53 ?_;refine gO xF <| gO xD <| gO xL <| gN (by exact Bp rfl Bt Cn rfl rfl (by decide) (by decide)) <| gT (by exact Gx rfl rfl rfl rfl rfl rfl Bt Cn (by omega) (by decide) (by decide) rfl hap hap2) <| gO xF <| gZ WV ?_;exact Z9.o)|fail):p:=h ⟨k⟩
def WW (k:p') (h:Hd9 p'→p:=by with_reducible first|(intro Z9;refine Tx 79 ?_;refine gO xF <| gO xD <| gO xLt <| gO xM ?_;(first|iterate 3 refine Jd ?_|(refine Jy (xFa Vy Ar) ?_;refine Jy (xLd Ar) ?_;refine Jy xGt ?_));refine gO xPk <| gO xM ?_;(first|iterate 3 refine Jd ?_|(refine Jy (xFa QG Ar) ?_;refine Jy (xLd Ar) ?_;refine Jy xLt ?_));refine gO xPk <| gO xM ?_;(first|iterate 3 refine Jd ?_|(refine Jy (xFa QG Ar) ?_;refine Jy (xLd Ar) ?_;refine Jy xGt ?_));refine gO xPk ?_;exact Z9.o)|(intro Z9;refine Tx 80 ?_;refine gO (by exact Az rfl Dq rfl rfl) <| gO (xMi underlying109) <| gZ (xSk BB) <| gO xA ?_;exact Z9.o)|(intro Z9;refine Tx 81 ?_;refine gO xAd <| gO xM ?_;exact Z9.o)|fail):p:=h ⟨k⟩
def NL (h:p:=by
 refine ⟨_,_,BK 10,_,?_,t+1,by omega,rfl,rfl,rfl⟩
 ·omega):p:=h
def Rq (h:p:=by
 exact AH rfl (.cons_ (Avx BB (by rw [Px (by rw [hV1];decide),Px (by rw [hV1];decide),Px (by rw [hV1];decide),Px (by rw [hV1];decide)];rfl)) (.cons_ (AdK rfl (by decide) hV1) .nil_))):p:=h
def Aan (h:p:=by
 exact AH rfl (.cons_ (Avx BB (by rw [Px hVn,Px hVn,Px hVn,Px hVn];rfl)) (.cons_ (Aca rfl hV1.symm) .nil_))):p:=h
def Alk (h:p:=by
 refine ⟨_,_,BK 9,_,?_,t+1,by omega,rfl,rfl,rfl⟩
 ·omega):p:=h
def Ajs (h:p:=by first|exact AhB rfl rfl rfl Af BV (by omega) (by decide)|exact Br rfl rfl rfl Af BV (by omega) (by decide)):p:=h
def AbI (h:p:=by first|exact xIr Af (AG hz)|exact xIr Af (AG hz0)|exact xIo Af):p:=h
def AoT (h:p:=by first|exact xLi hjn Ar|exact xLi gV Ar|exact xLi gU Ar|exact xLd Ar):p:=h
def AtH (h:p:=by first|exact OY rfl rfl rfl rfl Ar tlC stC|exact xS1 Ar|exact xSk Ar):p:=h
def Yt (h:p:=by first|exact xLi hjm Ar|exact xLi gC Ar|exact xLd Ar):p:=h
def AtI (h:p:=by first|exact xIr Af (AG (Tg hj))|exact xIo Af):p:=h
def AoU (h:p:=by first|exact xIr Al (Fb hy)|exact xIo Al):p:=h
def Tm (h:p:=by first|exact xIr Af (AG hA1)|exact xIo Af):p:=h
def Agl (h:p:=by first|exact xS1 Bm|exact xSk Bm):p:=h
def Tn (h:p:=by first|exact xLi gC Ar|exact xLd Ar):p:=h
def AbJ (ps:List Prt) (bs:List Bk) (os:List Int) (F:List Int) (hl:Fa ps bs os) (hF:F.length≤1000000):CV prog An 46 [aDg true ps bs os,.one (AU true F)] [Yk false (UW (Lp ps bs os F) ps) (UW (Lp ps bs os F) (CD bs F)) (UW (Lp ps bs os F) (Cr ps bs F)) (UW (Lp ps bs os F) os),aE (Lp ps bs os F)]:=by
 refine cvz func46 ntmps46 ?_
 have HO:=PP true hl
 have hl2:=hl.l2
 have hl1:=hl.l1
 by_cases he:AO ps bs os=0
 case neg =>
  have hV:Lp ps bs os F=AO ps bs os:=if_neg he
  have hVn:Lp ps bs os F≠0:=by rw [hV];exact he
  rw [if_neg he] at HO
  repeat' (with_reducible first|refine qq ?_|refine Agi ?_)
  exact AH rfl (.cons_ (Avx BB (by rw [Px hVn,Px hVn,Px hVn,Px hVn];rfl)) (.cons_ (Aca rfl hV.symm) .nil_))
 have hV:Lp ps bs os F=HM ps bs F:=if_pos he
 rw [he,if_pos rfl] at HO
 by_cases hle:F.length=bs.length
 case neg =>
  have hV1:=hV.trans (cp_1 hle)
  repeat' (with_reducible first|refine qq ?_|refine Agi ?_)
  exact Rq
 repeat' (with_reducible first|refine qq ?_|refine Agi ?_)
 refine Bj (RJ [(1,vd (AU true F)),(2,vr 0),(4,vr 1),(5,vd (.val .nilIface)),(6,vd (AU false (BZ (Bn bs)))),(52,vd (AU true F)),(53,vi F.length),(54,vi (((0:Nat):Int)))] 2 rfl (mB rfl rfl) ⟨Db rfl,Db rfl,trivial⟩) ?_
 refine Av (fun n Fr H=>∃ k:Nat,k≤F.length∧n=F.length - k∧(F.take k).all HJ=true∧Fr=ofL [(1,vd (AU true F)),(2,vr 0),(4,vr 1),(5,vd (.val .nilIface)),(6,vd (AU false (BZ (Bn bs)))),(52,vd (AU true F)),(53,vi F.length),(54,vi ((k:Int)))]∧H=[.box 26 [.d (Di true ps),.d (DK true bs),.d (AU true os)],.box 94 [.d (.val (.slice none 0 0)),.d (.val (.slice none 0 0)),.d (.val (.slice none 0 0)),.d (.val (.slice none 0 0))]]) (n0:=F.length) ⟨0,ad _,rfl,rfl,rfl,rfl⟩ ?_
 rintro n Fr H ⟨k,hk,rfl,hall,rfl,rfl⟩
 by_cases hlt:k<F.length
 case pos =>
  obtain ⟨z,hz⟩:∃ z,F[k]?=some z:=⟨_,gE hlt⟩
  by_cases hs:0≤z∧z≤30
  case pos =>
   obtain ⟨hs1,hs2⟩:=hs
   repeat' (with_reducible first|refine qq ?_|(refine Tx 7 ?_;refine gO xLt ?_)|refine Agj ?_)
   refine ⟨_,_,BK 2,_,?_,k+1,by omega,rfl,MW hz hall (decide_eq_true ⟨hs1,hs2⟩),rfl,rfl⟩
   ·omega
  case neg =>
   have hV1:=hV.trans (cp_2 hle (fun ha=>hs (by have:=List.all_eq_true.1 ha z (gM hz);exact of_decide_eq_true this)))
   by_cases h0:z<0
   ·
    repeat' (with_reducible first|refine qq ?_|(refine Tx 7 ?_;refine gO xLt ?_)|refine Agj ?_)
    exact Rq
   ·
    repeat' (with_reducible first|refine qq ?_|(refine Tx 7 ?_;refine gO xLt ?_)|refine Agj ?_)
    exact Rq
 have hall:F.all HJ=true:=by rwa [ar (by omega)] at hall
 repeat' (with_reducible first|refine qq ?_|(refine Tx 7 ?_;refine gO xLt ?_))
 repeat' (with_reducible first|refine qq ?_|(refine Tx 12 ?_;refine gO xF <| gO xD <| gO xN <| gO xA ?_)|(refine AE (id:=13) 8 AN (by kernel_rfl) ?_;dsimp only [List.take,List.drop];refine gP (by exact Qy rfl BI) <| gP xF <| gP xD <| gP (by exact Oi rfl rfl (.inl rfl) rfl (Ce TX _) BI Ok (hl.l1) (by decide) (by decide)) <| gP xM <| gQ Ajs <| gP (by exact Az rfl Dq rfl rfl) <| gQ (xAl Ol) ?_;refine Ke ?_;refine gZ (xSk BB) ?_)|(refine BU (id:=14) AN (by kernel_rfl) ?_;refine gP xM <| gQ Ajs <| gP xM <| gQ Ajs <| gP xM <| gQ Ajs <| gP xA <| gP xA <| gP xA ?_;refine Ke ?_)|(refine Tx 15 ?_;refine gO xA <| gO xA ?_)|(refine Tx 16 ?_;refine gO xF <| gO xD <| gO xN <| gO xM ?_))
 have hz0:∀ f:Nat→Int,List.replicate bs.length 0=tab bs.length (EJ f 0):=fun f=>(Afw _ _).symm
 refine Bj (MS 15 3 1 rfl) (Bj (MS 16 3 1 rfl) ?_)
 refine Bj (BK 9 (hH:=by rw [←hz0,←hz0,←hz0,←hz0];rfl)) (Av (fun n Fr H=>∃ k:Nat,k≤bs.length∧n=bs.length - k∧(∀ j,j<k→LF bs F j=0)∧Fr=ofL [(1,vd (AU true F)),(2,vr 0),(4,vr 1),(5,vd (.val .nilIface)),(6,vd (AU false (BZ (Bn bs)))),(10,vi bs.length),(11,vr 3),(12,vo 4 bs.length),(13,vo 5 bs.length),(14,vo 6 bs.length),(15,vo 7 ((dlK bs k).length)),(16,vo 8 ((cpK bs k).length)),(84,vd (DK true bs)),(85,vi bs.length),(86,vi ((k:Nat)))]∧H=[.box 26 [.d (Di true ps),.d (DK true bs),.d (AU true os)],.box 94 [.d (.val (.slice none 0 0)),.d (.val (.slice none 0 0)),.d (.val (.slice none 0 0)),.d (.val (.slice none 0 0))],.row 3 1 (bs.length) (cI (tab bs.length (EJ (Fe bs F) k))),.box 94 [.d (Di false ps),.own 2 bs.length,.d (.val (.slice none 0 0)),.d (.val (.slice none 0 0))],.row 3 1 (bs.length) (cI (tab bs.length (EJ (Ev bs F) k))),.row 3 1 (bs.length) (cI (tab bs.length (EJ (Hi bs F) k))),.row 3 1 (bs.length) (cI (tab bs.length (EJ (AY bs) 0))),.row 3 1 ((dlK bs k).length) (cI (BZ (dlK bs k))),.row 3 1 ((cpK bs k).length) (cI (BZ (cpK bs k)))]) (n0:=bs.length) ⟨0,ad _,rfl,fun j hj=>absurd hj (fb _),rfl,rfl⟩ ?_)
 rintro n Fr H ⟨k,hk,rfl,hcon,rfl,rfl⟩
 clear hz0
 by_cases hlt:k<bs.length
 case pos =>
  obtain ⟨y,hy⟩:∃ y,bs[k]?=some y:=⟨_,gE hlt⟩
  obtain ⟨z,hz⟩:∃ z,F[k]?=some z:=⟨_,gE (by omega)⟩
  have hYA:=CX hy
  have hYK:=Cw hy
  have hZ:=GD hz
  have hdl:=XU bs k
  have hcl:=XV bs k
  repeat' (with_reducible first|refine qq ?_|(refine Tx 17 ?_;refine gO xLt ?_)|(refine Tx 18 ?_;refine gO xM <| gO AoU <| gO xL <| gN (xAl Cm) <| gO xA <| gZ (xSk BW) ?_))
  by_cases k11:y.kind=11
  case pos =>
   have eV:Nh bs F k=DM y.vn y.ve z:=by unfold Nh;rw [hYA,hZ]
   have rV:RN bs F k=BX y.vn y.ve z:=by unfold RN;rw [hYA,hZ]
   have cV:Ev bs F k=DM y.vn y.ve z:=by unfold Ev;rw [hYK,if_pos (by omega),eV]
   have stV:(tab bs.length (EJ (Ev bs F) k)).set k (DM y.vn y.ve z)=tab bs.length (EJ (Ev bs F) (k+1)):=by rw [←cV];exact NF
   have tlV:k<(tab bs.length (EJ (Ev bs F) k)).length:=by rw [Fu];exact hlt
   have RV:=WD y.vn y.ve z
   have eU:Aip bs F k=DM y.un y.ue z:=by unfold Aip;rw [hYA,hZ]
   have rU:Aiq bs F k=BX y.un y.ue z:=by unfold Aiq;rw [hYA,hZ]
   have cU:Hi bs F k=DM y.un y.ue z:=by unfold Hi;rw [hYK,if_pos (by omega),eU]
   have stU:(tab bs.length (EJ (Hi bs F) k)).set k (DM y.un y.ue z)=tab bs.length (EJ (Hi bs F) (k+1)):=by rw [←cU];exact NF
   have tlU:k<(tab bs.length (EJ (Hi bs F) k)).length:=by rw [Fu];exact hlt
   have RU:=WD y.un y.ue z
   have hc:BZ (cpK bs k)++[(k:Int)]=BZ (cpK bs (k+1)):=by rw [IV,hYK,if_pos (by omega),PF]
   have hc2:(cpK bs k).length+1=(cpK bs (k+1)).length:=by rw [IV,hYK,if_pos (by omega)];simp
   by_cases hr:BX y.vn y.ve z=0
   case neg =>
    have hce:LF bs F k=BX y.vn y.ve z:=by unfold LF;rw [hYK,if_neg (by omega),if_pos (by omega),rV,if_neg hr]
    have hV1:Lp ps bs os F=BX y.vn y.ve z:=hV.trans ((Auj hle hall hlt hcon (by rw [hce];exact hr)).trans hce)
    have hVn:Lp ps bs os F≠0:=by rw [hV1];exact hr
    repeat' (with_reducible first|refine qq ?_|refine Pi ?_|refine Agk ?_|(refine Tx 22 ?_;refine gO xM <| gO (xNE Ai) ?_)|(refine Tx 23 ?_;refine gO (by exact Az rfl Dq rfl rfl) <| gO xM <| gZ (xSk BB) <| gO xA ?_))
    exact Aan
   by_cases hr2:BX y.un y.ue z=0
   case neg =>
    have hce:LF bs F k=BX y.un y.ue z:=by unfold LF;rw [hYK,if_neg (by omega),if_pos (by omega),rV,if_pos hr,rU]
    have hV1:Lp ps bs os F=BX y.un y.ue z:=hV.trans ((Auj hle hall hlt hcon (by rw [hce];exact hr2)).trans hce)
    have hVn:Lp ps bs os F≠0:=by rw [hV1];exact hr2
    repeat' (with_reducible first|refine qq ?_|refine Pi ?_|refine Agk ?_|(refine Tx 22 ?_;refine gO xM <| gO (xNE Ai) ?_)|(refine Tx 24 ?_;refine gO xM ?_)|refine Alg ?_|(refine Tx 27 ?_;refine gO (by exact Az rfl Dq rfl rfl) <| gO xM <| gZ (xSk BB) <| gO xA ?_))
    exact Aan
   have hC1:∀ j,j<k+1→LF bs F j=0:=fun j hj=>by
    rcases bh j k with h|h
    ·exact hcon j h
    ·obtain rfl:j=k:=by omega
     unfold LF;rw [hYK,if_neg (by omega),if_pos (by omega),rV,if_pos hr,rU];exact hr2
   have sI:tab bs.length (EJ (Fe bs F) k)=tab bs.length (EJ (Fe bs F) (k+1)):=Fx (by unfold Fe;rw [hYK,if_neg (by omega)])
   have hd:dlK bs (k+1)=dlK bs k:=by rw [IU,hYK,if_neg (by omega)]
   repeat' (with_reducible first|refine qq ?_|refine Pi ?_|refine Agk ?_|(refine Tx 22 ?_;refine gO xM <| gO (xNE Ai) ?_)|(refine Tx 24 ?_;refine gO xM ?_)|refine Alg ?_|(refine Tx 28 ?_;refine gO xM <| gO xM <| gN (by exact Bp rfl Af BV rfl rfl (by decide) (by decide)) <| gT (by exact OZ rfl rfl rfl rfl rfl rfl Af BV (by omega) (by decide) hc hc2) <| gO xA ?_)|refine Aam ?_)
   refine ⟨_,_,BK 9 (hH:=by rw [hd,←sI];rfl) (h:=by rw [hd];exact mB rfl rfl),_,?_,k+1,by omega,rfl,hC1,rfl,rfl⟩
   ·omega
  by_cases k1:y.kind=1
  case pos =>
   have eV:Nh bs F k=DM y.vn y.ve z:=by unfold Nh;rw [hYA,hZ]
   have rV:RN bs F k=BX y.vn y.ve z:=by unfold RN;rw [hYA,hZ]
   have cV:Ev bs F k=DM y.vn y.ve z:=by unfold Ev;rw [hYK,if_pos (by omega),eV]
   have stV:(tab bs.length (EJ (Ev bs F) k)).set k (DM y.vn y.ve z)=tab bs.length (EJ (Ev bs F) (k+1)):=by rw [←cV];exact NF
   have tlV:k<(tab bs.length (EJ (Ev bs F) k)).length:=by rw [Fu];exact hlt
   have RV:=WD y.vn y.ve z
   have hce:LF bs F k=BX y.vn y.ve z:=by unfold LF;rw [hYK,if_pos (by omega),rV]
   by_cases hr:BX y.vn y.ve z=0
   case neg =>
    have hV1:Lp ps bs os F=BX y.vn y.ve z:=hV.trans ((Auj hle hall hlt hcon (by rw [hce];exact hr)).trans hce)
    have hVn:Lp ps bs os F≠0:=by rw [hV1];exact hr
    repeat' (with_reducible first|refine qq ?_|refine Pi ?_|refine Alh ?_|(refine Tx 22 ?_;refine gO xM <| gO (xNE Ai) ?_)|(refine Tx 23 ?_;refine gO (by exact Az rfl Dq rfl rfl) <| gO xM <| gZ (xSk BB) <| gO xA ?_))
    exact Aan
   have hC1:∀ j,j<k+1→LF bs F j=0:=fun j hj=>by
    rcases bh j k with h|h
    ·exact hcon j h
    ·obtain rfl:j=k:=by omega
     exact hce.trans hr
   have sU:tab bs.length (EJ (Hi bs F) k)=tab bs.length (EJ (Hi bs F) (k+1)):=Fx (by unfold Hi;rw [hYK,if_neg (by omega)])
   have sI:tab bs.length (EJ (Fe bs F) k)=tab bs.length (EJ (Fe bs F) (k+1)):=Fx (by unfold Fe;rw [hYK,if_neg (by omega)])
   have hd:dlK bs (k+1)=dlK bs k:=by rw [IU,hYK,if_neg (by omega)]
   have hc:cpK bs (k+1)=cpK bs k:=by rw [IV,hYK,if_neg (by omega)]
   repeat' (with_reducible first|refine qq ?_|refine Pi ?_|refine Alh ?_|(refine Tx 22 ?_;refine gO xM <| gO (xNE Ai) ?_)|(refine Tx 24 ?_;refine gO xM ?_)|refine Aam ?_)
   refine ⟨_,_,BK 9 (hH:=by rw [hd,hc,←sU,←sI];rfl) (h:=by rw [hd,hc];exact mB rfl rfl),_,?_,k+1,by omega,rfl,hC1,rfl,rfl⟩
   ·omega
  by_cases k2:y.kind=2
  case pos =>
   have eV:Nh bs F k=DM y.vn y.ve z:=by unfold Nh;rw [hYA,hZ]
   have rV:RN bs F k=BX y.vn y.ve z:=by unfold RN;rw [hYA,hZ]
   have cV:Ev bs F k=DM y.vn y.ve z:=by unfold Ev;rw [hYK,if_pos (by omega),eV]
   have stV:(tab bs.length (EJ (Ev bs F) k)).set k (DM y.vn y.ve z)=tab bs.length (EJ (Ev bs F) (k+1)):=by rw [←cV];exact NF
   have tlV:k<(tab bs.length (EJ (Ev bs F) k)).length:=by rw [Fu];exact hlt
   have RV:=WD y.vn y.ve z
   have hd:BZ (dlK bs k)++[(k:Int)]=BZ (dlK bs (k+1)):=by rw [IU,hYK,if_pos (by omega),PF]
   have hd2:(dlK bs k).length+1=(dlK bs (k+1)).length:=by rw [IU,hYK,if_pos (by omega)];simp
   have hcI:Fe bs F k=Ev bs F k:=by unfold Fe;rw [hYK,if_pos (by omega)]
   have stI:(tab bs.length (EJ (Fe bs F) k)).set k (Ev bs F k)=tab bs.length (EJ (Fe bs F) (k+1)):=by rw [←hcI];exact NF
   have tlI:k<(tab bs.length (EJ (Fe bs F) k)).length:=by rw [Fu];exact hlt
   have gV:(tab bs.length (EJ (Ev bs F) (k+1)))[k]?=some (Ev bs F k):=by rw [HG hlt];unfold EJ;rw [if_pos (by omega)]
   have hce:LF bs F k=BX y.vn y.ve z:=by unfold LF;rw [hYK,if_pos (by omega),rV]
   by_cases hr:BX y.vn y.ve z=0
   case neg =>
    have hV1:Lp ps bs os F=BX y.vn y.ve z:=hV.trans ((Auj hle hall hlt hcon (by rw [hce];exact hr)).trans hce)
    have hVn:Lp ps bs os F≠0:=by rw [hV1];exact hr
    repeat' (with_reducible first|refine qq ?_|refine Pi ?_|refine Ali ?_|(refine Tx 22 ?_;refine gO xM <| gO (xNE Ai) ?_)|(refine Tx 23 ?_;refine gO (by exact Az rfl Dq rfl rfl) <| gO xM <| gZ (xSk BB) <| gO xA ?_))
    exact Aan
   have hC1:∀ j,j<k+1→LF bs F j=0:=fun j hj=>by
    rcases bh j k with h|h
    ·exact hcon j h
    ·obtain rfl:j=k:=by omega
     exact hce.trans hr
   have sU:tab bs.length (EJ (Hi bs F) k)=tab bs.length (EJ (Hi bs F) (k+1)):=Fx (by unfold Hi;rw [hYK,if_neg (by omega)])
   have hc:cpK bs (k+1)=cpK bs k:=by rw [IV,hYK,if_neg (by omega)]
   repeat' (with_reducible first|refine qq ?_|refine Pi ?_|refine Ali ?_|(refine Tx 22 ?_;refine gO xM <| gO (xNE Ai) ?_)|(refine Tx 24 ?_;refine gO xM ?_)|refine Aam ?_|(refine AE (id:=30) 8 AN (by kernel_rfl) ?_;dsimp only [List.take,List.drop];refine gP xF <| gP xD <| gP xM <| gP xM <| gP xM <| gP RZ <| gP AoS <| gP RZ ?_;refine Ke ?_;refine gZ AtG ?_)|(refine Tx 31 ?_;refine gO xM <| gO xM <| gN (by exact Bp rfl Af BV rfl rfl (by decide) (by decide)) <| gT (by exact OZ rfl rfl rfl rfl rfl rfl Af BV (by omega) (by decide) hd hd2) <| gO xA ?_))
   refine ⟨_,_,BK 9 (hH:=by rw [hc,←sU];rfl) (h:=by rw [hc];exact mB rfl rfl),_,?_,k+1,by omega,rfl,hC1,rfl,rfl⟩
   ·omega
  have hC1:∀ j,j<k+1→LF bs F j=0:=fun j hj=>by
   rcases bh j k with h|h
   ·exact hcon j h
   ·obtain rfl:j=k:=by omega
    unfold LF;rw [hYK,if_neg (by omega),if_neg (by omega)]
  have sU:tab bs.length (EJ (Hi bs F) k)=tab bs.length (EJ (Hi bs F) (k+1)):=Fx (by unfold Hi;rw [hYK,if_neg (by omega)])
  have sV:tab bs.length (EJ (Ev bs F) k)=tab bs.length (EJ (Ev bs F) (k+1)):=Fx (by unfold Ev;rw [hYK,if_neg (by omega)])
  have sI:tab bs.length (EJ (Fe bs F) k)=tab bs.length (EJ (Fe bs F) (k+1)):=Fx (by unfold Fe;rw [hYK,if_neg (by omega)])
  have hd:dlK bs (k+1)=dlK bs k:=by rw [IU,hYK,if_neg (by omega)]
  have hc:cpK bs (k+1)=cpK bs k:=by rw [IV,hYK,if_neg (by omega)]
  repeat' (with_reducible first|refine qq ?_|refine Pi ?_|(refine Tx 24 ?_;refine gO xM ?_)|refine Aam ?_)
  refine ⟨_,_,BK 9 (hH:=by rw [hd,hc,←sU,←sV,←sI];rfl) (h:=by rw [hd,hc];exact mB rfl rfl),_,?_,k+1,by omega,rfl,hC1,rfl,rfl⟩
  ·omega
 obtain rfl:k=bs.length:=by omega
 clear hlt hk
 have hdl:=XU bs bs.length
 have hcl:=XV bs bs.length
 rw [show tab bs.length (EJ (Ev bs F) bs.length)=tab bs.length (Ev bs F) from UG,show tab bs.length (EJ (Hi bs F) bs.length)=tab bs.length (Hi bs F) from UG,show tab bs.length (EJ (Fe bs F) bs.length)=tab bs.length (Fe bs F) from UG,Abw bs bs.length (AY bs)]
 repeat' (with_reducible first|refine qq ?_|(refine Tx 17 ?_;refine gO xLt ?_)|(refine Tx 33 ?_;refine gO xM <| gO xN <| gO xM ?_))
 refine Bj (BK 9 (hH:=by rw [lr,ba];rfl)) (Av (fun n Fr H=>∃ t:Nat,t≤(dlK bs bs.length).length∧n=(dlK bs bs.length).length - t∧Fr=ofL [(1,vd (AU true F)),(2,vr 0),(4,vr 1),(5,vd (.val .nilIface)),(6,vd (AU false (BZ (Bn bs)))),(10,vi bs.length),(11,vr 3),(12,vo 4 bs.length),(13,vo 5 bs.length),(14,vo 6 bs.length),(15,vo 7 ((dlK bs bs.length).length)),(16,vo 8 ((cpK bs bs.length).length)),(160,vo 7 ((dlK bs bs.length).length)),(161,vi ((dlK bs bs.length).length)),(162,vi ((t:Nat)))]∧H=[.box 26 [.d (Di true ps),.d (DK true bs),.d (AU true os)],.box 94 [.d (.val (.slice none 0 0)),.d (.val (.slice none 0 0)),.d (.val (.slice none 0 0)),.d (.val (.slice none 0 0))],.row 3 1 (bs.length+(t)) (cI (tab bs.length (Fe bs F)++List.replicate (t) 0)),.box 94 [.d (Di false ps),.own 2 (bs.length+(t)),.d (.val (.slice none 0 0)),.d (.val (.slice none 0 0))],.row 3 1 (bs.length) (cI (tab bs.length (Ev bs F))),.row 3 1 (bs.length) (cI (tab bs.length (Hi bs F))),.row 3 1 (bs.length) (cI (tab bs.length (OA bs (t)))),.row 3 1 ((dlK bs bs.length).length) (cI (BZ (dlK bs bs.length))),.row 3 1 ((cpK bs bs.length).length) (cI (BZ (cpK bs bs.length)))]) (n0:=(dlK bs bs.length).length) ⟨0,ad _,rfl,rfl,rfl⟩ ?_)
 rintro n Fr H ⟨t,ht,rfl,rfl,rfl⟩
 by_cases hlt:t<(dlK bs bs.length).length
 case pos =>
  obtain ⟨j,hj⟩:∃ j,(dlK bs bs.length)[t]?=some j:=⟨_,gE hlt⟩
  obtain ⟨hj1,hj2,hj3⟩:=Rh.1 hj
  have hjn:=Tg hj
  have stC:(tab bs.length (OA bs t)).set j (((bs.length+t:Nat)):Int)=tab bs.length (OA bs (t+1)):=XT (by rw [AiU hj];omega) fun i hi=>Afy hj hi
  have tlC:j<(tab bs.length (OA bs t)).length:=by rw [Fu];exact hj1
  have hap:(tab bs.length (Fe bs F)++List.replicate t 0)++[0]=tab bs.length (Fe bs F)++List.replicate (t+1) 0:=by rw [ja,←List.replicate_succ']
  repeat' (with_reducible first|refine qq ?_|(refine Tx 34 ?_;refine gO xLt ?_)|(refine Tx 35 ?_;refine gO (xIo Af) <| gO (by first|exact xLi hjn Ar|exact xLd Ar) <| gO xA ?_)|(refine Tx 36 ?_;refine gO xM <| gO xM <| gO xF <| gO xD <| gO xN <| gO (xIo Af) <| gZ AtH ?_)|(refine Tx 37 ?_;refine gO xF <| gO xD <| gN (by exact Bp rfl Af BV rfl rfl (by decide) (by decide)) <| gT (by exact OZ rfl rfl rfl rfl rfl rfl Af BV (by omega) (by decide) hap rfl) <| gO xF <| gZ Agl ?_)|(refine Tx 38 ?_;refine gO xAd <| gO xM ?_))
  exact Alk
 obtain rfl:t=(dlK bs bs.length).length:=by omega
 clear hlt ht
 rw [Abx]
 repeat' (with_reducible first|refine qq ?_|(refine Tx 34 ?_;refine gO xLt ?_)|(refine Tx 39 ?_;refine gO xM <| gO xN <| gO xM ?_))
 refine Bj (BK 9 (hH:=by rw [gq,List.flatMap_nil,ba];rfl)) (Av (fun n Fr H=>∃ t:Nat,t≤(cpK bs bs.length).length∧n=(cpK bs bs.length).length - t∧Fr=ofL [(1,vd (AU true F)),(2,vr 0),(4,vr 1),(5,vd (.val .nilIface)),(6,vd (AU false (BZ (Bn bs)))),(10,vi bs.length),(11,vr 3),(12,vo 4 bs.length),(13,vo 5 bs.length),(14,vo 6 bs.length),(15,vo 7 ((dlK bs bs.length).length)),(16,vo 8 ((cpK bs bs.length).length)),(178,vo 8 ((cpK bs bs.length).length)),(179,vi ((cpK bs bs.length).length)),(180,vi ((t:Nat)))]∧H=[.box 26 [.d (Di true ps),.d (DK true bs),.d (AU true os)],.box 94 [.d (.val (.slice none 0 0)),.d (.val (.slice none 0 0)),.d (.val (.slice none 0 0)),.d (.val (.slice none 0 0))],.row 3 1 (bs.length+(dlK bs bs.length).length+2*(t)) (cI (tab bs.length (Fe bs F)++List.replicate (dlK bs bs.length).length 0++((cpK bs bs.length).take (t)).flatMap (fun j=>[Ev bs F j,Hi bs F j]))),.box 94 [.d (Di false ps),.own 2 (bs.length+(dlK bs bs.length).length+2*(t)),.d (.val (.slice none 0 0)),.d (.val (.slice none 0 0))],.row 3 1 (bs.length) (cI (tab bs.length (Ev bs F))),.row 3 1 (bs.length) (cI (tab bs.length (Hi bs F))),.row 3 1 (bs.length) (cI (tab bs.length (OB bs (t)))),.row 3 1 ((dlK bs bs.length).length) (cI (BZ (dlK bs bs.length))),.row 3 1 ((cpK bs bs.length).length) (cI (BZ (cpK bs bs.length)))]) (n0:=(cpK bs bs.length).length) ⟨0,ad _,rfl,rfl,rfl⟩ ?_)
 rintro n Fr H ⟨t,ht,rfl,rfl,rfl⟩
 by_cases hlt:t<(cpK bs bs.length).length
 case pos =>
  obtain ⟨j,hj⟩:∃ j,(cpK bs bs.length)[t]?=some j:=⟨_,gE hlt⟩
  obtain ⟨hj1,hj2,hj3⟩:=Afx.1 hj
  have hjn:=Tg hj
  have stC:(tab bs.length (OB bs t)).set j (((bs.length+(dlK bs bs.length).length+2*t:Nat)):Int)=tab bs.length (OB bs (t+1)):=XT (by rw [AiV hj];omega) fun i hi=>Afz hj hi
  have tlC:j<(tab bs.length (OB bs t)).length:=by rw [Fu];exact hj1
  have gV:(tab bs.length (Ev bs F))[j]?=some (Ev bs F j):=HG hj1
  have gU:(tab bs.length (Hi bs F))[j]?=some (Hi bs F j):=HG hj1
  have hap:cI (tab bs.length (Fe bs F)++List.replicate (dlK bs bs.length).length 0++((cpK bs bs.length).take (t)).flatMap (fun j=>[Ev bs F j,Hi bs F j]))++[.d (.val (.int .i64 (Ev bs F j))),.d (.val (.int .i64 (Hi bs F j)))]=cI (tab bs.length (Fe bs F)++List.replicate (dlK bs bs.length).length 0++((cpK bs bs.length).take (t+1)).flatMap (fun j=>[Ev bs F j,Hi bs F j])):=by rw [Aom,Aby hj,←ja]
  repeat' (with_reducible first|refine qq ?_|(refine Tx 40 ?_;refine gO xLt ?_)|(refine Tx 41 ?_;refine gO (xIo Af) <| gO AoT <| gO xA ?_)|(refine Tx 42 ?_;refine gO xM <| gO xM <| gO xF <| gO xD <| gO xN <| gO (xIo Af) <| gZ AtH ?_)|(refine AE (id:=43) 11 AN (by kernel_rfl) ?_;dsimp only [List.take,List.drop];refine gP xF <| gP xD <| gP xM <| gP xM <| gP (xIo Af) <| gP AoT <| gP xM <| gP xM <| gP (xIo Af) <| gP AoT <| gQ (by exact Gw rfl Af BV rfl rfl rfl rfl (by decide) (by decide)) ?_;refine Ke ?_;refine gT (by exact Gx rfl rfl rfl rfl rfl rfl Af BV (by omega) (by decide) (by decide) rfl hap rfl) <| gO xF <| gZ Agl ?_)|(refine Tx 44 ?_;refine gO xAd <| gO xM ?_))
  exact Alk
 obtain rfl:t=(cpK bs bs.length).length:=by omega
 clear hlt ht
 have hIM:tab bs.length (Fe bs F)++List.replicate (dlK bs bs.length).length 0++((cpK bs bs.length).take (cpK bs bs.length).length).flatMap (fun j=>[Ev bs F j,Hi bs F j])=CD bs F:=by rw [au];rfl
 rw [AfA]
 have hM:bs.length+(dlK bs bs.length).length+2*(cpK bs bs.length).length=(CD bs F).length:=by rw [←hIM,ak,ak,Fu,dt,WE,dj];omega
 have hol:=Ul (bs:=bs)
 rw [hIM]
 repeat' (with_reducible first|refine qq ?_|(refine Tx 40 ?_;refine gO xLt ?_)|(refine Tx 45 ?_;refine gO xM <| gO xN <| gO xM ?_))
 refine Bj (Qx 3 2 169 7 rfl rfl) ?_
 refine Bj (BK 10) (Av (fun n Fr H=>∃ t:Nat,t≤(Bn bs).length∧n=(Bn bs).length - t∧Fr=ofL [(1,vd (AU true F)),(2,vr 0),(4,vr 1),(5,vd (.val .nilIface)),(6,vd (AU false (BZ (Bn bs)))),(10,vi bs.length),(11,vr 3),(12,vo 4 bs.length),(13,vo 5 bs.length),(14,vo 6 bs.length),(15,vo 7 ((dlK bs bs.length).length)),(204,vd (AU false (BZ (Bn bs)))),(205,vi ((BZ (Bn bs)).length)),(206,vi ((t:Nat)))]∧H=[.box 26 [.d (Di true ps),.d (DK true bs),.d (AU true os)],.box 94 [.d (.val (.slice none 0 0)),.d (.val (.slice none 0 0)),.d (.val (.slice none 0 0)),.d (.val (.slice none 0 0))],.row 3 1 (bs.length+(dlK bs bs.length).length+2*(cpK bs bs.length).length) (cI (CD bs F)),.box 94 [.d (Di false ps),.own 2 (bs.length+(dlK bs bs.length).length+2*(cpK bs bs.length).length),.own 9 ((cdA ps bs F (t)).length),.d (.val (.slice none 0 0))],.row 3 1 (bs.length) (cI (tab bs.length (Ev bs F))),.row 3 1 (bs.length) (cI (tab bs.length (Hi bs F))),.row 3 1 (bs.length) (cI (tab bs.length (AY bs))),.row 3 1 ((dlK bs bs.length).length) (cI (BZ (dlK bs bs.length))),.row 3 1 ((cpK bs bs.length).length) (cI (BZ (cpK bs bs.length))),.row 169 7 (cdA ps bs F (t)).length (cD (Ay UV (cdA ps bs F (t))))]) (n0:=(Bn bs).length) ⟨0,ad _,rfl,rfl,rfl⟩ ?_)
 rintro n Fr H ⟨t,ht,rfl,rfl,rfl⟩
 have hnl:=Dr (Bn bs)
 by_cases hlt:t<(Bn bs).length
 case pos =>
  obtain ⟨j,hj⟩:∃ j,(Bn bs)[t]?=some j:=⟨_,gE hlt⟩
  obtain ⟨hjn,hjk⟩:=Ia hj
  have hAl:=AfB (ps:=ps) (bs:=bs) (F:=F) t
  obtain ⟨y,hy⟩:∃ y,bs[j]?=some y:=⟨_,gE hjn⟩
  obtain ⟨z,hz⟩:∃ z,F[j]?=some z:=⟨_,gE (by omega)⟩
  have hac:=Co he hy
  have hYA:=CX hy
  have hYK:=Cw hy
  have hZ:=GD hz
  have hzr:=DE hall j
  rw [hZ] at hzr
  have gC:(tab bs.length (AY bs))[j]?=some (AY bs j):=HG hjn
  rw [hYK] at hjk
  have gV:(tab bs.length (Ev bs F))[j]?=some (Ev bs F j):=HG hjn
  repeat' (with_reducible first|refine qq ?_|(refine Tx 46 ?_;refine gO xLt ?_)|(refine Tx 47 ?_;refine gO AtI <| gO xD <| gO xA ?_)|(refine Tx 48 ?_;refine gO xF <| gO xD <| gO xM <| gO AoU <| gO xL <| gN (xAl Cm) <| gZ (xSk BW) ?_)|(refine Tx 49 ?_;refine gO xF <| gO xD ?_))
  by_cases k0:y.kind=0
  case pos =>
   have hyl:y.args.length=1:=by have h:=hac.2.1;unfold Bc at h;(repeat' split at h) <;> omega
   obtain ⟨a0,hA0⟩:∃ a,y.args[0]?=some a:=⟨_,gE (by omega)⟩
   have hr0:=hac.2.2 a0 (gM hA0)
   have hg0:Bi y=a0:=by unfold Bi;rw [hA0];rfl
   rw [show Cy ps.length bs.length y.kind=ps.length from if_pos (by omega)] at hr0
   obtain ⟨p,hp⟩:∃ p,ps[a0.toNat]?=some p:=⟨_,gE (by omega)⟩
   have hpe:=Nk he hp
   unfold Gj at hpe
   have hpr:0≤p.fr∧p.fr≤30:=by
    by_cases h : -2147483648≤p.lo∧p.lo≤p.hi∧p.hi<2147483648∧0≤p.fr∧p.fr≤30
    ·exact h.2.2.2
    ·rw [if_neg h] at hpe;cases hpe
   have hpf:Ga ps a0=p.fr:=by unfold Ga;rw [hp];rfl
   have hB:Fv ps bs F j (AY bs j)=[⟨0,j,a0,0,z - p.fr,0,0⟩]:=by unfold Fv;dsimp only;rw [hYA,hZ,hg0,hpf,if_pos k0]
   have hnx:=GW (ps:=ps) (F:=F) hj
   rw [hB] at hnx
   have hap:=Ip (x:=⟨0,j,a0,0,z - p.fr,0,0⟩) (hnx)
   have hap2:=Ir (hnx)
   repeat' (with_reducible first|refine qq ?_|refine Rn ?_|(refine AE (id:=55) 23 AN (by kernel_rfl) ?_;dsimp only [List.take,List.drop];refine gP xF <| gP xD <| gP xM <| gP xF <| gP xD <| gP Ro <| gP xD <| gP xM <| gP xM <| gP Lr <| gP xD <| gP xF <| gP xD <| gP xF <| gP xD <| gP Ro <| gP xD <| gP (by first|exact xIr BI (FX hp)|exact xIo BI) <| gP xF <| gP xD <| gP xSb <| gP (by exact Az rfl EY rfl rfl) <| gQ (by exact Bp rfl Bt Cn rfl rfl (by decide) (by decide)) ?_;refine Ke ?_;refine gT (by exact Gx rfl rfl rfl rfl rfl rfl Bt Cn (by omega) (by decide) (by decide) rfl hap hap2) <| gO xF <| gZ WV ?_))
   exact NL
  by_cases k1:y.kind=1
  case pos =>
   have hB:Fv ps bs F j (AY bs j)=[⟨1,j,0,0,0,0,Ev bs F j⟩]:=by unfold Fv;dsimp only;rw [hYA,if_neg (by omega),if_pos k1];unfold Ev;rw [hYK,if_pos (by omega)]
   have hnx:=GW (ps:=ps) (F:=F) hj
   rw [hB] at hnx
   have hap:=Ip (x:=⟨1,j,0,0,0,0,Ev bs F j⟩) (hnx)
   have hap2:=Ir (hnx)
   repeat' (with_reducible first|refine qq ?_|refine Rn ?_|(refine Tx 56 ?_;refine gO xEq <| gO xA ?_)|(refine AE (id:=57) 9 AN (by kernel_rfl) ?_;dsimp only [List.take,List.drop];refine gP xF <| gP xD <| gP xM <| gP xM <| gP xM <| gP AtI <| gP AoS <| gP (by exact Az rfl EY rfl rfl) <| gQ (by exact Bp rfl Bt Cn rfl rfl (by decide) (by decide)) ?_;refine Ke ?_;refine gT (by exact Gx rfl rfl rfl rfl rfl rfl Bt Cn (by omega) (by decide) (by decide) rfl hap hap2) <| gO xF <| gZ WV ?_))
   exact NL
  by_cases k6:y.kind=6
  case pos =>
   have hyl:y.args.length=1:=by have h:=hac.2.1;unfold Bc at h;(repeat' split at h) <;> omega
   obtain ⟨a0,hA0⟩:∃ a,y.args[0]?=some a:=⟨_,gE (by omega)⟩
   have hr0:=hac.2.2 a0 (gM hA0)
   have hg0:Bi y=a0:=by unfold Bi;rw [hA0];rfl
   rw [show Cy ps.length bs.length y.kind=bs.length from if_neg (by omega)] at hr0
   obtain ⟨z0,hz0⟩:∃ z,F[a0.toNat]?=some z:=⟨_,gE (by omega)⟩
   have hZ0:=GD hz0
   have hzr0:=DE hall a0.toNat
   rw [hZ0] at hzr0
   have hvs:=(HW he hy (by rw [k6];rfl)).2.2
   have hB:Fv ps bs F j (AY bs j)=[⟨6,j,a0,0,z - z0+y.ve,0,y.vn⟩]:=by unfold Fv;dsimp only;rw [hYA,hZ,hg0,hZ0,if_neg (by omega),if_neg (by omega),if_pos k6]
   have hnx:=GW (ps:=ps) (F:=F) hj
   rw [hB] at hnx
   have hap:=Ip (x:=⟨6,j,a0,0,z - z0+y.ve,0,y.vn⟩) (hnx)
   have hap2:=Ir (hnx)
   repeat' (with_reducible first|refine qq ?_|refine Rn ?_|(refine Tx 56 ?_;refine gO xEq <| gO xA ?_)|(refine Tx 58 ?_;refine gO xEq <| gO xA ?_)|(refine AE (id:=59) 28 AN (by kernel_rfl) ?_;dsimp only [List.take,List.drop];refine gP xF <| gP xD <| gP xM <| gP xF <| gP xD <| gP Ro <| gP xD <| gP xM <| gP xM <| gP Lr <| gP xD <| gP xM <| gP xF <| gP xD <| gP Ro <| gP xD <| gP Lr <| gP xD <| gP xSb <| gP xF <| gP xF <| gP xD <| gP xAd <| gP xF <| gP xF <| gP xD <| gP (by exact Az rfl EY rfl rfl) <| gQ (by exact Bp rfl Bt Cn rfl rfl (by decide) (by decide)) ?_;refine Ke ?_;refine gT (by exact Gx rfl rfl rfl rfl rfl rfl Bt Cn (by omega) (by decide) (by decide) rfl hap hap2) <| gO xF <| gZ WV ?_))
   exact NL
  by_cases k7:y.kind=7
  case pos =>
   have hyl:y.args.length=2:=by have h:=hac.2.1;unfold Bc at h;(repeat' split at h) <;> omega
   obtain ⟨a0,hA0⟩:∃ a,y.args[0]?=some a:=⟨_,gE (by omega)⟩
   have hr0:=hac.2.2 a0 (gM hA0)
   have hg0:Bi y=a0:=by unfold Bi;rw [hA0];rfl
   rw [show Cy ps.length bs.length y.kind=bs.length from if_neg (by omega)] at hr0
   obtain ⟨z0,hz0⟩:∃ z,F[a0.toNat]?=some z:=⟨_,gE (by omega)⟩
   have hZ0:=GD hz0
   have hzr0:=DE hall a0.toNat
   rw [hZ0] at hzr0
   obtain ⟨a1,hA1⟩:∃ a,y.args[1]?=some a:=⟨_,gE (by omega)⟩
   have hr1:=hac.2.2 a1 (gM hA1)
   have hg1:Dk y=a1:=by unfold Dk;rw [hA1];rfl
   rw [show Cy ps.length bs.length y.kind=bs.length from if_neg (by omega)] at hr1
   obtain ⟨z1,hz1⟩:∃ z,F[a1.toNat]?=some z:=⟨_,gE (by omega)⟩
   have hZ1:=GD hz1
   have hzr1:=DE hall a1.toNat
   rw [hZ1] at hzr1
   have hB:Fv ps bs F j (AY bs j)=[⟨7,j,a0,a1,z - z0 - z1,0,0⟩]:=by unfold Fv;dsimp only;rw [hYA,hZ,hg0,hg1,hZ0,hZ1,if_neg (by omega),if_neg (by omega),if_neg (by omega),if_pos k7]
   have hnx:=GW (ps:=ps) (F:=F) hj
   rw [hB] at hnx
   have hap:=Ip (x:=⟨7,j,a0,a1,z - z0 - z1,0,0⟩) (hnx)
   have hap2:=Ir (hnx)
   repeat' (with_reducible first|refine qq ?_|refine Rn ?_|(refine Tx 56 ?_;refine gO xEq <| gO xA ?_)|(refine Tx 58 ?_;refine gO xEq <| gO xA ?_)|(refine Tx 60 ?_;refine gO xEq <| gO xA ?_)|(refine AE (id:=61) 33 AN (by kernel_rfl) ?_;dsimp only [List.take,List.drop];refine gP xF <| gP xD <| gP xM <| gP xF <| gP xD <| gP Ro <| gP xD <| gP xF <| gP xD <| gP Tm <| gP xD <| gP xM <| gP xM <| gP Lr <| gP xD <| gP xM <| gP xF <| gP xD <| gP Ro <| gP xD <| gP Lr <| gP xD <| gP xSb <| gP xM <| gP xF <| gP xD <| gP Tm <| gP xD <| gP Lr <| gP xD <| gP xSb <| gP (by exact Az rfl EY rfl rfl) <| gQ (by exact Bp rfl Bt Cn rfl rfl (by decide) (by decide)) ?_;refine Ke ?_;refine gT (by exact Gx rfl rfl rfl rfl rfl rfl Bt Cn (by omega) (by decide) (by decide) rfl hap hap2) <| gO xF <| gZ WV ?_))
   exact NL
  by_cases k11:y.kind=11
  case pos =>
   have hyl:y.args.length=1:=by have h:=hac.2.1;unfold Bc at h;(repeat' split at h) <;> omega
   obtain ⟨a0,hA0⟩:∃ a,y.args[0]?=some a:=⟨_,gE (by omega)⟩
   have hr0:=hac.2.2 a0 (gM hA0)
   have hg0:Bi y=a0:=by unfold Bi;rw [hA0];rfl
   rw [show Cy ps.length bs.length y.kind=bs.length from if_neg (by omega)] at hr0
   obtain ⟨z0,hz0⟩:∃ z,F[a0.toNat]?=some z:=⟨_,gE (by omega)⟩
   have hZ0:=GD hz0
   have hzr0:=DE hall a0.toNat
   rw [hZ0] at hzr0
   have hcF:AY bs j=(bs.length:Int)+((dlK bs bs.length).length:Int)+2*(LH (cpB bs) j:Int):=by unfold AY;rw [hYK,if_neg (by omega),if_pos k11]
   have hrk:=OE hjn (hYK.trans k11)
   have hB:Fv ps bs F j (AY bs j)=[⟨9,j,a0,AY bs j,z - z0,0,0⟩,⟨8,j,j,AY bs j+1,0,0,0⟩]:=by unfold Fv;dsimp only;rw [hYA,hZ,hg0,hZ0,if_neg (by omega),if_neg (by omega),if_neg (by omega),if_neg (by omega),if_pos k11]
   have hnx:=GW (ps:=ps) (F:=F) hj
   rw [hB] at hnx
   have hap:=Aja (x:=⟨9,j,a0,AY bs j,z - z0,0,0⟩) (y:=⟨8,j,j,AY bs j+1,0,0,0⟩) hnx
   have hap2:=Ajb hnx
   repeat' (with_reducible first|refine qq ?_|refine Rn ?_|(refine Tx 56 ?_;refine gO xEq <| gO xA ?_)|(refine Tx 58 ?_;refine gO xEq <| gO xA ?_)|(refine Tx 60 ?_;refine gO xEq <| gO xA ?_)|(refine Tx 62 ?_;refine gO xEq <| gO xA ?_)|(refine AE (id:=63) 33 AN (by kernel_rfl) ?_;dsimp only [List.take,List.drop];refine gP xF <| gP xD <| gP xM <| gP xF <| gP xD <| gP Ro <| gP Tn <| gP xM <| gP xM <| gP Lr <| gP Tn <| gP xM <| gP xM <| gP Lr <| gP Tn <| gP xM <| gP xF <| gP xD <| gP Ro <| gP Tn <| gP Lr <| gP Tn <| gP xSb <| gP (by exact Az rfl EY rfl rfl) <| gP xM <| gP xM <| gP xM <| gP xM <| gP Lr <| gP Tn <| gP xAd <| gP (by exact Az rfl EY rfl rfl) <| gQ (by exact Gw rfl Bt Cn rfl rfl rfl rfl (by decide) (by decide)) ?_;refine Ke ?_;refine gT (by exact Gx rfl rfl rfl rfl rfl rfl Bt Cn (by omega) (by decide) (by decide) rfl hap hap2) <| gO xF <| gZ WV ?_))
   exact NL
  have OP:=Avq y.kind
  by_cases hl2:y.args.length=2
  case pos =>
   obtain ⟨a0,hA0⟩:∃ a,y.args[0]?=some a:=⟨_,gE (by omega)⟩
   have hr0:=hac.2.2 a0 (gM hA0)
   have hg0:Bi y=a0:=by unfold Bi;rw [hA0];rfl
   rw [show Cy ps.length bs.length y.kind=bs.length from if_neg (by omega)] at hr0
   obtain ⟨z0,hz0⟩:∃ z,F[a0.toNat]?=some z:=⟨_,gE (by omega)⟩
   have hZ0:=GD hz0
   have hzr0:=DE hall a0.toNat
   rw [hZ0] at hzr0
   obtain ⟨a1,hA1⟩:∃ a,y.args[1]?=some a:=⟨_,gE (by omega)⟩
   have hr1:=hac.2.2 a1 (gM hA1)
   have hg1:Dk y=a1:=by unfold Dk;rw [hA1];rfl
   rw [show Cy ps.length bs.length y.kind=bs.length from if_neg (by omega)] at hr1
   obtain ⟨z1,hz1⟩:∃ z,F[a1.toNat]?=some z:=⟨_,gE (by omega)⟩
   have hZ1:=GD hz1
   have hzr1:=DE hall a1.toNat
   rw [hZ1] at hzr1
   have hB:Fv ps bs F j (AY bs j)=[⟨opM y.kind,j,a0,a1,z - z0,z - z1,0⟩]:=by unfold Fv;dsimp only;rw [hYA,hZ,hg0,hg1,hZ0,hZ1,if_neg (by omega),if_neg (by omega),if_neg (by omega),if_neg (by omega),if_neg (by omega),if_pos hl2]
   have hnx:=GW (ps:=ps) (F:=F) hj
   rw [hB] at hnx
   have hap:=Ip (x:=⟨opM y.kind,j,a0,a1,z - z0,z - z1,0⟩) (hnx)
   have hap2:=Ir (hnx)
   repeat' (with_reducible first|refine qq ?_|refine Rn ?_|(refine Tx 56 ?_;refine gO xEq <| gO xA ?_)|(refine Tx 58 ?_;refine gO xEq <| gO xA ?_)|(refine Tx 60 ?_;refine gO xEq <| gO xA ?_)|(refine Tx 62 ?_;refine gO xEq <| gO xA ?_)|refine Alj ?_|(refine AjW (id:=52) 17 11 169 [.d (.val (.int .i64 (opM y.kind))),.d (.val (.int .i64 (j))),.d (.val (.int .i64 (a0))),.d (.val (.int .i64 (a1))),.d (.val (.int .i64 (z - z0))),.d (.val (.int .i64 (0))),.d (.val (.int .i64 (0)))] AN (by kernel_rfl) ?_;dsimp only [List.take,List.drop];refine TP rfl rfl (xFa Fo Bm) (xFa Fo Bm) ?_;refine TP rfl rfl (xLd Bm) (xLd Bm) ?_;refine TP rfl rfl Tm Tm ?_;refine TP rfl rfl (xLd Ar) (xLd Ar) ?_;refine TP rfl rfl xM1 xM1 ?_;refine TP rfl rfl xM1 xM1 ?_;refine TP rfl rfl Lr Lr ?_;refine TP rfl rfl (xLd Ar) (xLd Ar) ?_;refine TP rfl rfl xM1 xM1 ?_;refine TP rfl rfl (xFa Fo Bm) (xFa Fo Bm) ?_;refine TP rfl rfl (xLd Bm) (xLd Bm) ?_;refine TP rfl rfl Tm Tm ?_;refine TP rfl rfl (xLd Ar) (xLd Ar) ?_;refine TP rfl rfl Lr Lr ?_;refine TP rfl rfl (xLd Ar) (xLd Ar) ?_;refine TP rfl rfl xSb xSb ?_;refine TP rfl rfl (xFa QF Ar) (xFa QF Ar) ?_;refine AjV ?_;refine AqJ rfl rfl rfl (by exact VE rfl rfl rfl rfl rfl Ar (bg rfl) rfl) ?_;refine gO xF <| gZ (by first|exact xS1 Ar|exact xSk Ar) ?_))
   exact NL
  have hyl:y.args.length=1:=by have h:=hac.2.1;have h1:=hac.1;unfold Bc at h h1;(repeat' split at h) <;> omega
  obtain ⟨a0,hA0⟩:∃ a,y.args[0]?=some a:=⟨_,gE (by omega)⟩
  have hr0:=hac.2.2 a0 (gM hA0)
  have hg0:Bi y=a0:=by unfold Bi;rw [hA0];rfl
  rw [show Cy ps.length bs.length y.kind=bs.length from if_neg (by omega)] at hr0
  obtain ⟨z0,hz0⟩:∃ z,F[a0.toNat]?=some z:=⟨_,gE (by omega)⟩
  have hZ0:=GD hz0
  have hzr0:=DE hall a0.toNat
  rw [hZ0] at hzr0
  have hB:Fv ps bs F j (AY bs j)=[⟨opM y.kind,j,a0,0,z - z0,0,0⟩]:=by unfold Fv;dsimp only;rw [hYA,hZ,hg0,hZ0,if_neg (by omega),if_neg (by omega),if_neg (by omega),if_neg (by omega),if_neg (by omega),if_neg hl2]
  have hnx:=GW (ps:=ps) (F:=F) hj
  rw [hB] at hnx
  have hap:=Ip (x:=⟨opM y.kind,j,a0,0,z - z0,0,0⟩) (hnx)
  have hap2:=Ir (hnx)
  repeat' (with_reducible first|refine qq ?_|refine Rn ?_|(refine Tx 56 ?_;refine gO xEq <| gO xA ?_)|(refine Tx 58 ?_;refine gO xEq <| gO xA ?_)|(refine Tx 60 ?_;refine gO xEq <| gO xA ?_)|(refine Tx 62 ?_;refine gO xEq <| gO xA ?_)|refine Alj ?_)
  exact NL
 obtain rfl:t=(Bn bs).length:=by omega
 clear hlt ht
 rw [←AiW]
 repeat' (with_reducible first|refine qq ?_|(refine Tx 46 ?_;refine gO xLt ?_)|(refine Tx 65 ?_;refine gO xM <| gO xN <| gO xM ?_))
 refine Bj (BK 10) (Av (fun n Fr H=>∃ t:Nat,t≤(dlK bs bs.length).length∧n=(dlK bs bs.length).length - t∧Fr=ofL [(1,vd (AU true F)),(2,vr 0),(4,vr 1),(5,vd (.val .nilIface)),(6,vd (AU false (BZ (Bn bs)))),(10,vi bs.length),(11,vr 3),(12,vo 4 bs.length),(13,vo 5 bs.length),(14,vo 6 bs.length),(15,vo 7 ((dlK bs bs.length).length)),(413,vo 7 ((dlK bs bs.length).length)),(414,vi ((dlK bs bs.length).length)),(415,vi ((t:Nat)))]∧H=[.box 26 [.d (Di true ps),.d (DK true bs),.d (AU true os)],.box 94 [.d (.val (.slice none 0 0)),.d (.val (.slice none 0 0)),.d (.val (.slice none 0 0)),.d (.val (.slice none 0 0))],.row 3 1 (bs.length+(dlK bs bs.length).length+2*(cpK bs bs.length).length) (cI (CD bs F)),.box 94 [.d (Di false ps),.own 2 (bs.length+(dlK bs bs.length).length+2*(cpK bs bs.length).length),.own 9 ((cdB ps bs F (t)).length),.d (.val (.slice none 0 0))],.row 3 1 (bs.length) (cI (tab bs.length (Ev bs F))),.row 3 1 (bs.length) (cI (tab bs.length (Hi bs F))),.row 3 1 (bs.length) (cI (tab bs.length (AY bs))),.row 3 1 ((dlK bs bs.length).length) (cI (BZ (dlK bs bs.length))),.row 3 1 ((cpK bs bs.length).length) (cI (BZ (cpK bs bs.length))),.row 169 7 (cdB ps bs F (t)).length (cD (Ay UV (cdB ps bs F (t))))]) (n0:=(dlK bs bs.length).length) ⟨0,ad _,rfl,rfl,rfl⟩ ?_)
 rintro n Fr H ⟨t,ht,rfl,rfl,rfl⟩
 by_cases hlt:t<(dlK bs bs.length).length
 case pos =>
  obtain ⟨j,hj⟩:∃ j,(dlK bs bs.length)[t]?=some j:=⟨_,gE hlt⟩
  obtain ⟨hjn,hjk,hj3⟩:=Rh.1 hj
  have hjm:=Tg hj
  have hAl:=AfC (ps:=ps) (bs:=bs) (F:=F) t
  obtain ⟨y,hy⟩:∃ y,bs[j]?=some y:=⟨_,gE hjn⟩
  obtain ⟨z,hz⟩:∃ z,F[j]?=some z:=⟨_,gE (by omega)⟩
  have hac:=Co he hy
  have hYA:=CX hy
  have hYK:=Cw hy
  have hZ:=GD hz
  have hzr:=DE hall j
  rw [hZ] at hzr
  have gC:(tab bs.length (AY bs))[j]?=some (AY bs j):=HG hjn
  rw [hYK] at hjk
  have hyl:y.args.length=1:=by have h:=hac.2.1;unfold Bc at h;(repeat' split at h) <;> omega
  obtain ⟨a0,hA0⟩:∃ a,y.args[0]?=some a:=⟨_,gE (by omega)⟩
  have hr0:=hac.2.2 a0 (gM hA0)
  have hg0:Bi y=a0:=by unfold Bi;rw [hA0];rfl
  rw [show Cy ps.length bs.length y.kind=bs.length from if_neg (by omega)] at hr0
  obtain ⟨z0,hz0⟩:∃ z,F[a0.toNat]?=some z:=⟨_,gE (by omega)⟩
  have hZ0:=GD hz0
  have hzr0:=DE hall a0.toNat
  rw [hZ0] at hzr0
  have hnx:=AiY (ps:=ps) (F:=F) hj
  rw [show mv1 bs F j=⟨2,AY bs j,a0,0,z - z0,0,0⟩ by unfold mv1;rw [hYA,hZ,hg0,hZ0]] at hnx
  have hap:=Ip hnx
  have hap2:=Ir hnx
  repeat' (with_reducible first|refine qq ?_|(refine Tx 66 ?_;refine gO xLt ?_)|(refine Tx 67 ?_;refine gO AbI <| gO Yt <| gO xA ?_)|(refine Tx 68 ?_;refine gO xF <| gO xD <| gO xM <| gO AoU <| gO xF <| gO (by first|exact xLi hjm Ar|exact xLi gC Ar|exact xLd Bm) <| gO Ro <| gO Yt <| gO xA ?_)|(refine AE (id:=69) 18 AN (by kernel_rfl) ?_;dsimp only [List.take,List.drop];refine gP xF <| gP xD <| gP xM <| gP xM <| gP AbI <| gP Yt <| gP xM <| gP xM <| gP xM <| gP AbI <| gP Yt <| gP xM <| gP xM <| gP AbI <| gP Yt <| gP xSb <| gP (by exact Az rfl EY rfl rfl) <| gQ (by exact Bp rfl Bt Cn rfl rfl (by decide) (by decide)) ?_;refine Ke ?_;refine gT (by exact Gx rfl rfl rfl rfl rfl rfl Bt Cn (by omega) (by decide) (by decide) rfl hap hap2) <| gO xF <| gZ WV ?_)|(refine Tx 70 ?_;refine gO xAd <| gO xM ?_))
  exact NL
 obtain rfl:t=(dlK bs bs.length).length:=by omega
 clear hlt ht
 rw [←AiX]
 repeat' (with_reducible first|refine qq ?_|(refine Tx 66 ?_;refine gO xLt ?_)|(refine Tx 71 ?_;refine gO xM <| gO xN <| gO xM ?_))
 refine Bj (BK 10) (Av (fun n Fr H=>∃ t:Nat,t≤(dlK bs bs.length).length∧n=(dlK bs bs.length).length - t∧Fr=ofL [(1,vd (AU true F)),(2,vr 0),(4,vr 1),(5,vd (.val .nilIface)),(6,vd (AU false (BZ (Bn bs)))),(10,vi bs.length),(11,vr 3),(12,vo 4 bs.length),(13,vo 5 bs.length),(14,vo 6 bs.length),(15,vo 7 ((dlK bs bs.length).length)),(448,vo 7 ((dlK bs bs.length).length)),(449,vi ((dlK bs bs.length).length)),(450,vi ((t:Nat)))]∧H=[.box 26 [.d (Di true ps),.d (DK true bs),.d (AU true os)],.box 94 [.d (.val (.slice none 0 0)),.d (.val (.slice none 0 0)),.d (.val (.slice none 0 0)),.d (.val (.slice none 0 0))],.row 3 1 (bs.length+(dlK bs bs.length).length+2*(cpK bs bs.length).length) (cI (CD bs F)),.box 94 [.d (Di false ps),.own 2 (bs.length+(dlK bs bs.length).length+2*(cpK bs bs.length).length),.own 9 ((cdC ps bs F (t)).length),.d (.val (.slice none 0 0))],.row 3 1 (bs.length) (cI (tab bs.length (Ev bs F))),.row 3 1 (bs.length) (cI (tab bs.length (Hi bs F))),.row 3 1 (bs.length) (cI (tab bs.length (AY bs))),.row 3 1 ((dlK bs bs.length).length) (cI (BZ (dlK bs bs.length))),.row 3 1 ((cpK bs bs.length).length) (cI (BZ (cpK bs bs.length))),.row 169 7 (cdC ps bs F (t)).length (cD (Ay UV (cdC ps bs F (t))))]) (n0:=(dlK bs bs.length).length) ⟨0,ad _,rfl,rfl,rfl⟩ ?_)
 rintro n Fr H ⟨t,ht,rfl,rfl,rfl⟩
 by_cases hlt:t<(dlK bs bs.length).length
 case pos =>
  obtain ⟨j,hj⟩:∃ j,(dlK bs bs.length)[t]?=some j:=⟨_,gE hlt⟩
  obtain ⟨hjn,hjk,hj3⟩:=Rh.1 hj
  have hjm:=Tg hj
  have hAl:=Ym (ps:=ps) (bs:=bs) (F:=F) t
  obtain ⟨y,hy⟩:∃ y,bs[j]?=some y:=⟨_,gE hjn⟩
  obtain ⟨z,hz⟩:∃ z,F[j]?=some z:=⟨_,gE (by omega)⟩
  have hac:=Co he hy
  have hYA:=CX hy
  have hYK:=Cw hy
  have hZ:=GD hz
  have hzr:=DE hall j
  rw [hZ] at hzr
  have gC:(tab bs.length (AY bs))[j]?=some (AY bs j):=HG hjn
  rw [hYK] at hjk
  have hyl:y.args.length=1:=by have h:=hac.2.1;unfold Bc at h;(repeat' split at h) <;> omega
  obtain ⟨a0,hA0⟩:∃ a,y.args[0]?=some a:=⟨_,gE (by omega)⟩
  have hr0:=hac.2.2 a0 (gM hA0)
  have hg0:Bi y=a0:=by unfold Bi;rw [hA0];rfl
  rw [show Cy ps.length bs.length y.kind=bs.length from if_neg (by omega)] at hr0
  obtain ⟨z0,hz0⟩:∃ z,F[a0.toNat]?=some z:=⟨_,gE (by omega)⟩
  have hZ0:=GD hz0
  have hzr0:=DE hall a0.toNat
  rw [hZ0] at hzr0
  have hnx:cdC ps bs F (t+1)=cdC ps bs F t++[⟨2,j,AY bs j,0,0,0,0⟩]:=AiZ hj
  have hap:=Ip hnx
  have hap2:=Ir hnx
  repeat' (with_reducible first|refine qq ?_|(refine Tx 72 ?_;refine gO xLt ?_)|(refine Tx 73 ?_;refine gO AbI <| gO Yt <| gO xA ?_)|(refine AE (id:=74) 9 AN (by kernel_rfl) ?_;dsimp only [List.take,List.drop];refine gP xF <| gP xD <| gP xM <| gP xM <| gP xM <| gP AbI <| gP Yt <| gP (by exact Az rfl EY rfl rfl) <| gQ (by exact Bp rfl Bt Cn rfl rfl (by decide) (by decide)) ?_;refine Ke ?_;refine gT (by exact Gx rfl rfl rfl rfl rfl rfl Bt Cn (by omega) (by decide) (by decide) rfl hap hap2) <| gO xF <| gZ WV ?_)|(refine Tx 75 ?_;refine gO xAd <| gO xM ?_))
  exact NL
 obtain rfl:t=(dlK bs bs.length).length:=by omega
 clear hlt ht
 rw [Yl]
 have hcl8:=Ym (ps:=ps) (bs:=bs) (F:=F) (dlK bs bs.length).length
 rw [Yl] at hcl8
 have hV4:=hV.trans (cp_4 hle hall hcon)
 repeat' (with_reducible first|refine qq ?_|(refine Tx 72 ?_;refine gO xLt ?_)|(refine Tx 76 ?_;refine gO xF <| gO xD <| gO xN <| gO xM ?_))
 refine Bj (BK 10) (Av (fun n Fr H=>∃ t:Nat,t≤(Cr ps bs F).length∧n=(Cr ps bs F).length - t∧((Cr ps bs F).take t).all Ais=true∧Fr=ofL [(1,vd (AU true F)),(2,vr 0),(4,vr 1),(5,vd (.val .nilIface)),(6,vd (AU false (BZ (Bn bs)))),(10,vi bs.length),(11,vr 3),(12,vo 4 bs.length),(13,vo 5 bs.length),(14,vo 6 bs.length),(467,vo 9 ((Cr ps bs F).length)),(468,vi ((Cr ps bs F).length)),(469,vi ((t:Nat)))]∧H=[.box 26 [.d (Di true ps),.d (DK true bs),.d (AU true os)],.box 94 [.d (.val (.slice none 0 0)),.d (.val (.slice none 0 0)),.d (.val (.slice none 0 0)),.d (.val (.slice none 0 0))],.row 3 1 (bs.length+(dlK bs bs.length).length+2*(cpK bs bs.length).length) (cI (CD bs F)),.box 94 [.d (Di false ps),.own 2 (bs.length+(dlK bs bs.length).length+2*(cpK bs bs.length).length),.own 9 ((Cr ps bs F).length),.d (.val (.slice none 0 0))],.row 3 1 (bs.length) (cI (tab bs.length (Ev bs F))),.row 3 1 (bs.length) (cI (tab bs.length (Hi bs F))),.row 3 1 (bs.length) (cI (tab bs.length (AY bs))),.row 3 1 ((dlK bs bs.length).length) (cI (BZ (dlK bs bs.length))),.row 3 1 ((cpK bs bs.length).length) (cI (BZ (cpK bs bs.length))),.row 169 7 (Cr ps bs F).length (cD (Ay UV (Cr ps bs F)))]) (n0:=(Cr ps bs F).length) ⟨0,ad _,rfl,rfl,rfl,rfl⟩ ?_)
 rintro n Fr H ⟨t,ht,rfl,hsh,rfl,rfl⟩
 by_cases hlt:t<(Cr ps bs F).length
 case pos =>
  obtain ⟨x,hx⟩:∃ x,(Cr ps bs F)[t]?=some x:=⟨_,gE hlt⟩
  repeat' (with_reducible first|refine qq ?_|(refine Tx 77 ?_;refine gO xLt ?_)|(refine Tx 78 ?_;refine gO (xIo Bt) <| gO (by first|exact PC rfl rfl (At.row rfl) FP (Aon hx) rfl|exact xLa FP) <| gN (xAl Cn) <| gZ (xSk FP) ?_))
  by_cases hs:Ais x=true
  case pos =>
   have hs1:=of_decide_eq_true hs
   obtain ⟨q1,q2,q3,q4⟩:=hs1
   repeat' (with_reducible first|refine qq ?_|refine WW ?_)
   refine ⟨_,_,BK 10,_,?_,t+1,by omega,rfl,MW hx hsh hs,rfl,rfl⟩
   ·omega
  case neg =>
   have hV1:Lp ps bs os F=3:=hV4.trans (if_neg (fun ha=>hs (List.all_eq_true.1 ha x (gM hx))))
   have hs1:¬ (-62≤x.sa∧x.sa≤30 ∧ -62≤x.sb∧x.sb≤30):=fun h=>hs (decide_eq_true h)
   by_cases c27:x.sa < -62
   case pos =>
    repeat' (with_reducible first|refine qq ?_|refine WW ?_)
    exact Rq
   by_cases c245:30<x.sa
   case pos =>
    repeat' (with_reducible first|refine qq ?_|refine WW ?_)
    exact Rq
   by_cases c521:x.sb < -62
   case pos =>
    repeat' (with_reducible first|refine qq ?_|refine WW ?_)
    exact Rq
   repeat' (with_reducible first|refine qq ?_|refine WW ?_)
   exact Rq
 obtain rfl:t=(Cr ps bs F).length:=by omega
 rw [au] at hsh
 have hV5:=hV4.trans (if_pos hsh)
 repeat' (with_reducible first|refine qq ?_|(refine Tx 77 ?_;refine gO xLt ?_)|(refine Tx 82 ?_;refine gO (by exact Qy rfl Af) <| gO xF <| gO xD <| gO (by exact Oi rfl rfl (.inl rfl) rfl (WF _) Af BV (hl.l3) (by decide) (by decide)) <| gO xF <| gZ Agl ?_)|(refine Tx 83 ?_;refine gO xL <| gZ (xSk BB) <| gO xA ?_))
 skip
 exact AH rfl (.cons_ (VQ rfl rfl BB rfl (show Yk false (UW (Lp ps bs os F) ps) (UW (Lp ps bs os F) (CD bs F)) (UW (Lp ps bs os F) (Cr ps bs F)) (UW (Lp ps bs os F) os)=.agg [Di false ps,AU false (CD bs F),AbZ false (Cr ps bs F),AU false os] by rw [WT hV5,WT hV5,WT hV5,WT hV5];rfl) (AZ rfl rfl (Bs rfl (fun _=>Dh.row (Ce TX _))) (AZ rfl rfl (Yn rfl rfl hM rfl) (AZ rfl rfl (ZZ rfl rfl rfl fun _=>Ce Zt _) (AZ rfl rfl (Bs rfl (fun _=>Zs _)) (BJ rfl rfl)))))) (.cons_ (Gk rfl hV5) .nil_))
def Yu (ps:List Prt) (bs:List Bk) (os:List Int) (F:List Int) (hl:Fa ps bs os) (hF:F.length≤1000000):CVF prog An 46 [aDg true ps bs os,.one (AU true F)] [Yk false (UW (Lp ps bs os F) ps) (UW (Lp ps bs os F) (CD bs F)) (UW (Lp ps bs os F) (Cr ps bs F)) (UW (Lp ps bs os F) os),aE (Lp ps bs os F)] :=
 (AbJ ps bs os F hl hF).fresh fun x hx=>by
  simp only [bz,ce,or_false] at hx
  rcases hx with rfl|rfl
  ·exact AqU true ps bs os
  ·exact AmI true F
section
variable {P:Program} {G:World→Prop} {o:Oper} {F:Frm} {H:List Ob}
def All {m:Mm}:∀ {vs:List Value} {v:Value},Fh m (.agg (vs.map fun u=>.d (.val u))) v→v=.agg vs.toArray:=fun {vs v} h=>by
 obtain ⟨xs,rfl,hl⟩:=h
 have:xs=vs:=by
  refine ep fun j=>?_
  have hlen:=hl.1
  rw [af] at hlen
  cases hj:vs[j]? with
  | none =>
   rw [jt] at hj ⊢
   omega
  | some u =>
   have hlt:=(gS.1 hj).1
   obtain ⟨x,hx⟩:∃ x,xs[j]?=some x:=⟨_,gE (by omega)⟩
   have h1:=hl.2 j (.d (.val u)) x (by simp [hj]) hx
   have h2:Bo m.w m.S (.val u) x:=h1
   cases h2
   exact hx
 rw [this]
def AoV {t t':TypeId} {x y:Operand} {b r:Bool} {op:BinOp} {xs ys:List Value} (ho:o.op=.binOp op t x y t') (hg:P.eqGuardType P.depth t=false) (hop:(op=.eql∧b=r)∨(op=.neq∧b=!r)) (hx:F.ev x=.agg (xs.map fun u=>.d (.val u))) (hy:F.ev y=.agg (ys.map fun u=>.d (.val u)))
  (he:∀ w,(Op.equalIn 10000 t (.agg xs.toArray) (.agg ys.toArray)).run P w=.ok r w):Bd P G o F H (.one (.d (.val (.bool b)))) []:=Cb fun b0 m a _ _ hor=>by
 have ex:=All (m:=m) (v:=a.eval x) (by rw [←hx];exact Be hor (by rw [ho];simp [Op.operands]))
 have ey:=All (m:=m) (v:=a.eval y) (by rw [←hy];exact Be hor (by rw [ho];simp [Op.operands]))
 refine ⟨.bool b,?_,Bo.val rfl⟩
 unfold execOp
 simp only [ho,ex,ey]
 rw [ai]
 have h:((do eqGuard op t x y (.agg xs.toArray) (.agg ys.toArray);binOp op t (.agg xs.toArray) (.agg ys.toArray)):Sem Value).run P m.w=.ok (.bool b) m.w:=by
  rw [ai,run_eqGuard_agg m.w op t x y _ _ hg,az]
  rcases hop with ⟨rfl,rfl⟩|⟨rfl,rfl⟩
  ·rw [run_eql_struct,he,az]
  ·rw [run_neq_struct,he,az]
 rw [h]
 rfl
end
def Yv {t t':Bool} {s n:Nat} {cs ds:List D} (h:Ba TEq cs ds):TEq (.row t s n cs) (.row t' s n ds):=.row h.1 h.2
def Agm (l:List D):Ba TEq l l:=⟨rfl,fun j a b h1 h2=>by rw [h1] at h2;cases h2;exact TEq.refl a⟩
def AoW (t t':Bool) (xs:List Int):TEq (AU t xs) (AU t' xs):=Yv (Agm _)
def Avy (t t':Bool) (ps:List Prt):TEq (Di t ps) (Di t' ps):=Yv (Agm _)
def Aao {α β:Type} {R:α→β→Prop}:∀ {a:List α} {b:List β} {c:List α} {d:List β},Ba R a b→Ba R c d→Ba R (a++c) (b++d)
 | [],b,c,d,h,k=>by rw [h.unnil];exact k
 | x::a,b,c,d,h,k=>by
  obtain ⟨y,b',rfl,h1,h2⟩:=h.uncons
  exact .cons_ h1 (Aao h2 k)
def Aap {α:Type} {f g:α→List D} (h:∀ x,Ba TEq (f x) (g x)):∀ l:List α,Ba TEq (Ay f l) (Ay g l)
 | []=>.nil_
 | x::l=>by
  show Ba TEq (Ay f ([x]++l)) (Ay g ([x]++l))
  rw [EA,EA]
  refine Aao ?_ (Aap h l)
  show Ba TEq (([x].map f).flatten) (([x].map g).flatten)
  simpa using h x
def Avz (t t':Bool) (bs:List Bk):TEq (DK t bs) (DK t' bs):=Yv (Aap (fun b=>.cons_ (.val _) (.cons_ (AoW t t' _) (.cons_ (.val _) (.cons_ (.val _) (.cons_ (.val _) (.cons_ (.val _) .nil_)))))) bs)
def AtJ (t t':Bool) (ps:List Prt) (bs:List Bk) (os:List Int):AEq (aDg t ps bs os) (aDg t' ps bs os):=.agg (.cons_ (Avy t t' ps) (.cons_ (Avz t t' bs) (.cons_ (AoW t t' os) .nil_)))
def Agn (t u:Bool) {ps:List Prt} {bs:List Bk} {os F:List Int} (hl:Fa ps bs os) (hF:F.length≤1000000):CV prog An 46 [aDg t ps bs os,.one (AU u F)] [Yk false (UW (Lp ps bs os F) ps) (UW (Lp ps bs os F) (CD bs F)) (UW (Lp ps bs os F) (Cr ps bs F)) (UW (Lp ps bs os F) os),aE (Lp ps bs os F)] :=
 (Yu ps bs os F hl hF).tags (.cons_ (AtJ t true ps bs os) (.cons_ (.one (AoW u true F)) .nil_))
end Go.Proofs.YtmdfjbpggbhgnaaGreatDoor
