/- What the proofs of this claim share, part 17. No conditions. -/
import Derived.Test.YtjlkgfeepocjfaaGreatDoorPn11
import Derived.Test.YtjlkgfeepocjfaaGreatDoorPn15
import Derived.Test.YtjlkgfeepocjfaaGreatDoorPn9
import Derived.Test.YtjlkgfeepocjfaaGreatDoorPn10
import Derived.Laws.StructEq
import Derived.Deep.RegionHeld3
set_option maxRecDepth 100000
set_option maxHeartbeats 8000000
set_option linter.all false
open Go.Proofs.Tryz
namespace Go.Proofs.YtjlkgfeepocjfaaGreatDoor
open Go.RowKit
variable {p p':Prop}
def RJ (ps:List Prt) (bs:List Bk) (os:List Int) (F:List Int):Int:=if Av ps bs os=0 then Um ps bs F else Av ps bs os
def Ahk {α:Type} (e:Int) (l:List α):List α:=if e=0 then l else []
theorem OX {α:Type} {e:Int} (h:e≠0) (l:List α):Ahk e l=[]:=if_neg h
theorem Xv {α:Type} {e:Int} (h:e=0) (l:List α):Ahk e l=l:=if_pos h
theorem Avj {P:Program} {F:Frm} {H:List Ob} {t:Tmp} {ty ty' id k:Nat} {cs:List C} {ds:List D} {y:A} (hk:TyK P ty true k) (hy:y=.agg ds) (hF:F t=.one (.ref id 0 none):=by with_unfolding_all exact rfl) (hH:H[id]?=some (.box ty' cs):=by with_unfolding_all exact rfl) (hi:cs.length=k:=by with_unfolding_all exact rfl) (h:AP (FA false H) cs ds:=by repeat' first|exact BM rfl rfl|refine AX rfl rfl ?_ ?_|refine FH rfl rfl ?_|refine Dt rfl rfl ?_|exact Bp rfl (fun _=>by first|exact Dn.val _|exact ZQ _|exact Dn.row (Ce TZ _)|exact Dn.row (Ce ZR _))|exact FI rfl rfl|exact cexp_e rfl rfl):RV P F H (.cell t ty) y:=ZS hF hH hk hi hy h
theorem Agm (k:p') (h:Hd9 p'→p:=by with_reducible first|(intro Z9;refine Tx 0 ?_;refine gN xBo <| gN (xAl NC) <| gO xA ?_;exact Z9.o)|(intro Z9;refine Tx 1 ?_;refine gO xL <| gO (xCl func35 (HO.cv)) <| gO xMt <| gO xEx <| gO xEx <| gO xA <| gO xA ?_;exact Z9.o)|(intro Z9;refine Tx 2 ?_;refine gO xM <| gO (xNE Ag) ?_;exact Z9.o)|(intro Z9;refine Tx 3 ?_;refine gO (by exact AH rfl CX rfl rfl) <| gO xM <| gZ (xSk Bs) <| gO xA ?_;exact Z9.o)|(intro Z9;refine Tx 4 ?_;refine gO xM <| gO xN <| gO xF <| gO xD <| gO xN <| gO xNe ?_;exact Z9.o)|(intro Z9;refine Tx 5 ?_;refine gO (by exact AH rfl CX rfl rfl) <| gO (xMi underlying85) <| gZ (xSk Bs) <| gO xA ?_;exact Z9.o)|(intro Z9;refine Tx 6 ?_;refine gO xM <| gO xN <| gO xM ?_;exact Z9.o)|fail):p:=h ⟨k⟩
theorem Agn (k:p') (h:Hd9 p'→p:=by with_reducible first|(intro Z9;refine Tx 8 ?_;refine gO (xIr Aa (AF hz)) <| gO xD <| gO xA ?_;exact Z9.o)|(intro Z9;refine Tx 9 ?_;refine gO xM <| gO xLt <| gO xM ?_;(first|iterate 2 refine Jd ?_|(refine Jy xM1 ?_;refine Jy xGt ?_));refine gO xPk ?_;exact Z9.o)|(intro Z9;refine Tx 10 ?_;refine gO (by exact AH rfl CX rfl rfl) <| gO (xMi underlying85) <| gZ (xSk Bs) <| gO xA ?_;exact Z9.o)|(intro Z9;refine Tx 11 ?_;refine gO xAd <| gO xM ?_;exact Z9.o)|fail):p:=h ⟨k⟩
theorem OI (k:p') (h:Hd9 p'→p:=by with_reducible first|(intro Z9;refine Tx 19 ?_;refine gO xF <| gO xD <| gO xEq <| gO xA ?_;exact Z9.o)|(intro Z9;refine Tx 20 ?_;refine gO xM <| gO xM ?_;(first|iterate 3 refine Jd ?_|(refine Jy (xFa Gu Al) ?_;refine Jy (xLd Al) ?_;refine Jy xEq ?_));refine gO xPk <| gO xM ?_;(first|iterate 3 refine Jd ?_|(refine Jy (xFa Gu Al) ?_;refine Jy (xLd Al) ?_;refine Jy xEq ?_));refine gO xPk ?_;exact Z9.o)|fail):p:=h ⟨k⟩
theorem Ato (h:p:=by first|exact Ov rfl rfl rfl rfl Al tlV stV|exact Ov rfl rfl rfl rfl Al tlU stU|exact xS1 Al|exact xSk Al):p:=h
theorem Atp (h:p:=by first|exact xCl func52 (RV.cv)|exact xCl func52 (RU.cv)):p:=h
theorem RY (h:p:=by first|exact xIr Aa (AF hz)|exact xIo Aa):p:=h
theorem Ago (k:p') (h:Hd9 p'→p:=by with_reducible first|(intro Z9;refine FC (id:=21) 13 [(13,11)] AJ (by kernel_rfl) ?_;dsimp only [List.take,List.drop];refine gP xM <| gP xM <| gP xF <| gP xL <| gP xM <| gP xM <| gP RY <| gP xD <| gP Atp <| gP xMt <| gP xEx <| gP xEx <| gP RY ?_;refine Ke ?_;refine gZ Ato <| gO xA ?_;exact Z9.o)|fail):p:=h ⟨k⟩
theorem Alp (k:p') (h:Hd9 p'→p:=by with_reducible first|(intro Z9;refine FC (id:=25) 13 [(13,11)] AJ (by kernel_rfl) ?_;dsimp only [List.take,List.drop];refine gP xM <| gP xM <| gP xF <| gP xL <| gP xM <| gP xM <| gP RY <| gP xD <| gP Atp <| gP xMt <| gP xEx <| gP xEx <| gP RY ?_;refine Ke ?_;refine gZ Ato <| gO xA ?_;exact Z9.o)|(intro Z9;refine Tx 26 ?_;refine gO xM <| gO (xNE Ag) ?_;exact Z9.o)|fail):p:=h ⟨k⟩
theorem AaO (k:p') (h:Hd9 p'→p:=by with_reducible first|(intro Z9;refine Tx 29 ?_;refine gO xF <| gO xD <| gO xEq ?_;exact Z9.o)|(intro Z9;refine Tx 32 ?_;refine gO xAd <| gO xM ?_;exact Z9.o)|fail):p:=h ⟨k⟩
theorem Alq (k:p') (h:Hd9 p'→p:=by with_reducible first|(intro Z9;refine FC (id:=21) 13 [(13,11)] AJ (by kernel_rfl) ?_;dsimp only [List.take,List.drop];refine gP xM <| gP xM <| gP xF <| gP xL <| gP xM <| gP xM <| gP RY <| gP xD <| gP (xCl func52 (RV.cv)) <| gP xMt <| gP xEx <| gP xEx <| gP RY ?_;refine Ke ?_;refine gZ (by first|exact Ov rfl rfl rfl rfl Al tlV stV|exact xS1 Al|exact xSk Al) <| gO xA ?_;exact Z9.o)|fail):p:=h ⟨k⟩
theorem Atq (h:p:=by first|exact Ov rfl rfl rfl rfl Al tlV stV|exact Ov rfl rfl rfl rfl Al tlI stI|exact xS1 Al|exact xSk Al):p:=h
theorem Apf (h:p:=by first|exact xLi gV Al|exact xLd Al):p:=h
theorem Alr (k:p') (h:Hd9 p'→p:=by with_reducible first|(intro Z9;refine FC (id:=21) 13 [(13,11)] AJ (by kernel_rfl) ?_;dsimp only [List.take,List.drop];refine gP xM <| gP xM <| gP xF <| gP xL <| gP xM <| gP xM <| gP RY <| gP Apf <| gP (xCl func52 (RV.cv)) <| gP xMt <| gP xEx <| gP xEx <| gP RY ?_;refine Ke ?_;refine gZ Atq <| gO xA ?_;exact Z9.o)|fail):p:=h ⟨k⟩
theorem Rs (k:p') (h:Hd9 p'→p:=by with_reducible first|(intro Z9;refine Tx 54 ?_;refine gO xEq <| gO xA ?_;exact Z9.o)|(intro Z9;refine Tx 64 ?_;refine gO xAd <| gO xM ?_;exact Z9.o)|fail):p:=h ⟨k⟩
theorem Lh (h:p:=by first|exact xIr Aa (AF (Tj hj))|exact xIr Aa (AF hz)|exact xIr Aa (AF hz0)|exact xIr Aa (AF hz1)|exact xIo Aa):p:=h
theorem Rt (h:p:=by first|exact xIr Aa (AF hA0)|exact xIo Aa):p:=h
theorem Xw (h:p:=by first|exact xS1 Gr|exact xSk Gr):p:=h
theorem Als (k:p') (h:Hd9 p'→p:=by with_reducible first|(intro Z9;refine AE (id:=50) 22 AJ (by kernel_rfl) ?_;dsimp only [List.take,List.drop];refine gP xF <| gP xD <| gP (xCl func53 (OP.cv)) <| gP xM <| gP xF <| gP xD <| gP Rt <| gP xD <| gP xM <| gP xM <| gP Lh <| gP xD <| gP xM <| gP xF <| gP xD <| gP Rt <| gP xD <| gP Lh <| gP xD <| gP xSb <| gP (by exact AH rfl EN rfl rfl) <| gQ (xAl Ca) ?_;refine Ke ?_;refine gZ (xSk FE) ?_;exact Z9.o)|(intro Z9;refine Tx 51 ?_;refine gO xF <| gO xD <| gO xN <| gO xEq ?_;exact Z9.o)|(intro Z9;refine Tx 53 ?_;refine gO xF <| gO xD <| gO xL <| gN (by exact AZ rfl Bi Ca rfl rfl (by decide) (by decide)) <| gT (by exact FG rfl rfl rfl rfl rfl rfl Bi Ca (by omega) (by decide) (by decide) rfl hap hap2) <| gO xF <| gZ Xw ?_;exact Z9.o)|fail):p:=h ⟨k⟩
theorem Xx (k:p') (h:Hd9 p'→p:=by with_reducible first|(intro Z9;refine Tx 79 ?_;refine gO xF <| gO xD <| gO xLt <| gO xM ?_;(first|iterate 3 refine Jd ?_|(refine Jy (xFa VV Al) ?_;refine Jy (xLd Al) ?_;refine Jy xGt ?_));refine gO xPk <| gO xM ?_;(first|iterate 3 refine Jd ?_|(refine Jy (xFa Qs Al) ?_;refine Jy (xLd Al) ?_;refine Jy xLt ?_));refine gO xPk <| gO xM ?_;(first|iterate 3 refine Jd ?_|(refine Jy (xFa Qs Al) ?_;refine Jy (xLd Al) ?_;refine Jy xGt ?_));refine gO xPk ?_;exact Z9.o)|(intro Z9;refine Tx 80 ?_;refine gO (by exact AH rfl CX rfl rfl) <| gO (xMi underlying85) <| gZ (xSk Bs) <| gO xA ?_;exact Z9.o)|(intro Z9;refine Tx 81 ?_;refine gO xAd <| gO xM ?_;exact Z9.o)|fail):p:=h ⟨k⟩
theorem MT (h:p:=by
 refine ⟨_,_,Bz 10,_,?_,t+1,by omega,rfl,rfl,rfl⟩
 ·omega):p:=h
theorem Ru (h:p:=by
 exact AN rfl (.cons_ (Avj Bs (by rw [OX (by rw [hV1];decide),OX (by rw [hV1];decide),OX (by rw [hV1];decide),OX (by rw [hV1];decide)];rfl)) (.cons_ (AbC rfl (by decide) hV1) .nil_))):p:=h
theorem AaP (h:p:=by
 exact AN rfl (.cons_ (Avj Bs (by rw [OX hVn,OX hVn,OX hVn,OX hVn];rfl)) (.cons_ (AcN rfl hV1.symm) .nil_))):p:=h
theorem Alt (h:p:=by
 refine ⟨_,_,Bz 9,_,?_,t+1,by omega,rfl,rfl,rfl⟩
 ·omega):p:=h
theorem Ajv (h:p:=by first|exact AhH rfl rfl rfl Aa BK (by omega) (by decide)|exact Bo rfl rfl rfl Aa BK (by omega) (by decide)):p:=h
theorem Acp (h:p:=by first|exact xIr Aa (AF hz)|exact xIr Aa (AF hz0)|exact xIo Aa):p:=h
theorem Apg (h:p:=by first|exact xLi hjn Al|exact xLi gV Al|exact xLi gU Al|exact xLd Al):p:=h
theorem Atr (h:p:=by first|exact Ov rfl rfl rfl rfl Al tlC stC|exact xS1 Al|exact xSk Al):p:=h
theorem Ze (h:p:=by first|exact xLi hjm Al|exact xLi gC Al|exact xLd Al):p:=h
theorem Ats (h:p:=by first|exact xIr Aa (AF (Tj hj))|exact xIo Aa):p:=h
theorem Aph (h:p:=by first|exact xIr Ap (Gc hy)|exact xIo Ap):p:=h
theorem Acq (h:p:=by first|exact xIr Aa (AF hA1)|exact xIo Aa):p:=h
theorem Api (h:p:=by first|exact xS1 Ax|exact xSk Ax):p:=h
theorem Tq (h:p:=by first|exact xLi gC Al|exact xLd Al):p:=h
theorem Acr (ps:List Prt) (bs:List Bk) (os:List Int) (F:List Int) (hl:EF ps bs os) (hF:F.length≤1000000):CV prog An 17 [aDg true ps bs os,.one (AM true F)] [AfH false (Ahk (RJ ps bs os F) ps) (Ahk (RJ ps bs os F) (NT bs F)) (Ahk (RJ ps bs os F) (Ge ps bs F)) (Ahk (RJ ps bs os F) os),aE (RJ ps bs os F)]:=by
 refine cvz func17 ntmps17 ?_
 have HO:=PD true hl
 have hl2:=hl.l2
 have hl1:=hl.l1
 by_cases he:Av ps bs os=0
 case neg =>
  have hV:RJ ps bs os F=Av ps bs os:=if_neg he
  have hVn:RJ ps bs os F≠0:=by rw [hV];exact he
  rw [if_neg he] at HO
  repeat' (with_reducible first|refine qq ?_|refine Agm ?_)
  exact AN rfl (.cons_ (Avj Bs (by rw [OX hVn,OX hVn,OX hVn,OX hVn];rfl)) (.cons_ (AcN rfl hV.symm) .nil_))
 have hV:RJ ps bs os F=Um ps bs F:=if_pos he
 rw [he,if_pos rfl] at HO
 by_cases hle:F.length=bs.length
 case neg =>
  have hV1:=hV.trans (cp_1 hle)
  repeat' (with_reducible first|refine qq ?_|refine Agm ?_)
  exact Ru
 repeat' (with_reducible first|refine qq ?_|refine Agm ?_)
 refine AY (TN [(1,vd (AM true F)),(2,vr 0),(4,vr 1),(5,vd (.val .nilIface)),(6,vd (AM false (Br (Bb bs)))),(52,vd (AM true F)),(53,vi F.length),(54,vi (((0:Nat):Int)))] 2 rfl (mB rfl rfl) ⟨DG rfl,DG rfl,trivial⟩) ?_
 refine Aq (fun n Fr H=>∃ k:Nat,k≤F.length∧n=F.length - k∧(F.take k).all QQ=true∧Fr=ofL [(1,vd (AM true F)),(2,vr 0),(4,vr 1),(5,vd (.val .nilIface)),(6,vd (AM false (Br (Bb bs)))),(52,vd (AM true F)),(53,vi F.length),(54,vi ((k:Int)))]∧H=[.box 26 [.d (CU true ps),.d (Dw true bs),.d (AM true os)],.box 68 [.d (.val (.slice none 0 0)),.d (.val (.slice none 0 0)),.d (.val (.slice none 0 0)),.d (.val (.slice none 0 0))]]) (n0:=F.length) ⟨0,af _,rfl,rfl,rfl,rfl⟩ ?_
 rintro n Fr H ⟨k,hk,rfl,hall,rfl,rfl⟩
 by_cases hlt:k<F.length
 case pos =>
  obtain ⟨z,hz⟩:∃ z,F[k]?=some z:=⟨_,gE hlt⟩
  by_cases hs:0≤z∧z≤30
  case pos =>
   obtain ⟨hs1,hs2⟩:=hs
   repeat' (with_reducible first|refine qq ?_|(refine Tx 7 ?_;refine gO xLt ?_)|refine Agn ?_)
   refine ⟨_,_,Bz 2,_,?_,k+1,by omega,rfl,TW hz hall (decide_eq_true ⟨hs1,hs2⟩),rfl,rfl⟩
   ·omega
  case neg =>
   have hV1:=hV.trans (cp_2 hle (fun ha=>hs (by have:=List.all_eq_true.1 ha z (gM hz);exact of_decide_eq_true this)))
   by_cases h0:z<0
   ·
    repeat' (with_reducible first|refine qq ?_|(refine Tx 7 ?_;refine gO xLt ?_)|refine Agn ?_)
    exact Ru
   ·
    repeat' (with_reducible first|refine qq ?_|(refine Tx 7 ?_;refine gO xLt ?_)|refine Agn ?_)
    exact Ru
 have hall:F.all QQ=true:=by rwa [am (by omega)] at hall
 repeat' (with_reducible first|refine qq ?_|(refine Tx 7 ?_;refine gO xLt ?_))
 repeat' (with_reducible first|refine qq ?_|(refine Tx 12 ?_;refine gO xF <| gO xD <| gO xN <| gO xA ?_)|(refine AE (id:=13) 8 AJ (by kernel_rfl) ?_;dsimp only [List.take,List.drop];refine gP (by exact Ql rfl BG) <| gP xF <| gP xD <| gP (by exact Nv rfl rfl (.inl rfl) rfl (Ce TZ _) BG Qo (hl.l1) (by decide) (by decide)) <| gP xM <| gQ Ajv <| gP (by exact AH rfl CX rfl rfl) <| gQ (xAl NC) ?_;refine Ke ?_;refine gZ (xSk Bs) ?_)|(refine BB (id:=14) AJ (by kernel_rfl) ?_;refine gP xM <| gQ Ajv <| gP xM <| gQ Ajv <| gP xM <| gQ Ajv <| gP xA <| gP xA <| gP xA ?_;refine Ke ?_)|(refine Tx 15 ?_;refine gO xA <| gO xA ?_)|(refine Tx 16 ?_;refine gO xF <| gO xD <| gO xN <| gO xM ?_))
 have hz0:∀ f:Nat→Int,List.replicate bs.length 0=tab bs.length (Ez f 0):=fun f=>(AfI _ _).symm
 refine AY (Mp 15 3 1 rfl) (AY (Mp 16 3 1 rfl) ?_)
 refine AY (Bz 9 (hH:=by rw [←hz0,←hz0,←hz0,←hz0];rfl)) (Aq (fun n Fr H=>∃ k:Nat,k≤bs.length∧n=bs.length - k∧(∀ j,j<k→NR bs F j=0)∧Fr=ofL [(1,vd (AM true F)),(2,vr 0),(4,vr 1),(5,vd (.val .nilIface)),(6,vd (AM false (Br (Bb bs)))),(10,vi bs.length),(11,vr 3),(12,vo 4 bs.length),(13,vo 5 bs.length),(14,vo 6 bs.length),(15,vo 7 ((dlK bs k).length)),(16,vo 8 ((cpK bs k).length)),(84,vd (Dw true bs)),(85,vi bs.length),(86,vi ((k:Nat)))]∧H=[.box 26 [.d (CU true ps),.d (Dw true bs),.d (AM true os)],.box 68 [.d (.val (.slice none 0 0)),.d (.val (.slice none 0 0)),.d (.val (.slice none 0 0)),.d (.val (.slice none 0 0))],.row 3 1 (bs.length) (cI (tab bs.length (Ez (ES bs F) k))),.box 68 [.d (CU false ps),.own 2 bs.length,.d (.val (.slice none 0 0)),.d (.val (.slice none 0 0))],.row 3 1 (bs.length) (cI (tab bs.length (Ez (Fo bs F) k))),.row 3 1 (bs.length) (cI (tab bs.length (Ez (LP bs F) k))),.row 3 1 (bs.length) (cI (tab bs.length (Ez (CI bs) 0))),.row 3 1 ((dlK bs k).length) (cI (Br (dlK bs k))),.row 3 1 ((cpK bs k).length) (cI (Br (cpK bs k)))]) (n0:=bs.length) ⟨0,af _,rfl,fun j hj=>absurd hj (fm _),rfl,rfl⟩ ?_)
 rintro n Fr H ⟨k,hk,rfl,hcon,rfl,rfl⟩
 clear hz0
 by_cases hlt:k<bs.length
 case pos =>
  obtain ⟨y,hy⟩:∃ y,bs[k]?=some y:=⟨_,gE hlt⟩
  obtain ⟨z,hz⟩:∃ z,F[k]?=some z:=⟨_,gE (by omega)⟩
  have hYA:=Gf hy
  have hYK:=PF hy
  have hZ:=FO hz
  have hdl:=AeN bs k
  have hcl:=AeO bs k
  repeat' (with_reducible first|refine qq ?_|(refine Tx 17 ?_;refine gO xLt ?_)|(refine Tx 18 ?_;refine gO xM <| gO Aph <| gO xL <| gN (xAl Cw) <| gO xA <| gZ (xSk BZ) ?_))
  by_cases k11:y.kind=11
  case pos =>
   have eV:WE bs F k=Pu y.vn y.ve z:=by unfold WE;rw [hYA,hZ]
   have rV:Ul bs F k=BW y.vn y.ve z:=by unfold Ul;rw [hYA,hZ]
   have cV:Fo bs F k=Pu y.vn y.ve z:=by unfold Fo;rw [hYK,if_pos (by omega),eV]
   have stV:(tab bs.length (Ez (Fo bs F) k)).set k (Pu y.vn y.ve z)=tab bs.length (Ez (Fo bs F) (k+1)):=by rw [←cV];exact MQ
   have tlV:k<(tab bs.length (Ez (Fo bs F) k)).length:=by rw [Ii];exact hlt
   have RV:=Xj y.vn y.ve z
   have eU:AnK bs F k=Pu y.un y.ue z:=by unfold AnK;rw [hYA,hZ]
   have rU:AnL bs F k=BW y.un y.ue z:=by unfold AnL;rw [hYA,hZ]
   have cU:LP bs F k=Pu y.un y.ue z:=by unfold LP;rw [hYK,if_pos (by omega),eU]
   have stU:(tab bs.length (Ez (LP bs F) k)).set k (Pu y.un y.ue z)=tab bs.length (Ez (LP bs F) (k+1)):=by rw [←cU];exact MQ
   have tlU:k<(tab bs.length (Ez (LP bs F) k)).length:=by rw [Ii];exact hlt
   have RU:=Xj y.un y.ue z
   have hc:Br (cpK bs k)++[(k:Int)]=Br (cpK bs (k+1)):=by rw [MF,hYK,if_pos (by omega),Ms]
   have hc2:(cpK bs k).length+1=(cpK bs (k+1)).length:=by rw [MF,hYK,if_pos (by omega)];simp
   by_cases hr:BW y.vn y.ve z=0
   case neg =>
    have hce:NR bs F k=BW y.vn y.ve z:=by unfold NR;rw [hYK,if_neg (by omega),if_pos (by omega),rV,if_neg hr]
    have hV1:RJ ps bs os F=BW y.vn y.ve z:=hV.trans ((Aub hle hall hlt hcon (by rw [hce];exact hr)).trans hce)
    have hVn:RJ ps bs os F≠0:=by rw [hV1];exact hr
    repeat' (with_reducible first|refine qq ?_|refine OI ?_|refine Ago ?_|(refine Tx 22 ?_;refine gO xM <| gO (xNE Ag) ?_)|(refine Tx 23 ?_;refine gO (by exact AH rfl CX rfl rfl) <| gO xM <| gZ (xSk Bs) <| gO xA ?_))
    exact AaP
   by_cases hr2:BW y.un y.ue z=0
   case neg =>
    have hce:NR bs F k=BW y.un y.ue z:=by unfold NR;rw [hYK,if_neg (by omega),if_pos (by omega),rV,if_pos hr,rU]
    have hV1:RJ ps bs os F=BW y.un y.ue z:=hV.trans ((Aub hle hall hlt hcon (by rw [hce];exact hr2)).trans hce)
    have hVn:RJ ps bs os F≠0:=by rw [hV1];exact hr2
    repeat' (with_reducible first|refine qq ?_|refine OI ?_|refine Ago ?_|(refine Tx 22 ?_;refine gO xM <| gO (xNE Ag) ?_)|(refine Tx 24 ?_;refine gO xM ?_)|refine Alp ?_|(refine Tx 27 ?_;refine gO (by exact AH rfl CX rfl rfl) <| gO xM <| gZ (xSk Bs) <| gO xA ?_))
    exact AaP
   have hC1:∀ j,j<k+1→NR bs F j=0:=fun j hj=>by
    rcases bf j k with h|h
    ·exact hcon j h
    ·obtain rfl:j=k:=by omega
     unfold NR;rw [hYK,if_neg (by omega),if_pos (by omega),rV,if_pos hr,rU];exact hr2
   have sI:tab bs.length (Ez (ES bs F) k)=tab bs.length (Ez (ES bs F) (k+1)):=Fj (by unfold ES;rw [hYK,if_neg (by omega)])
   have hd:dlK bs (k+1)=dlK bs k:=by rw [GW,hYK,if_neg (by omega)]
   repeat' (with_reducible first|refine qq ?_|refine OI ?_|refine Ago ?_|(refine Tx 22 ?_;refine gO xM <| gO (xNE Ag) ?_)|(refine Tx 24 ?_;refine gO xM ?_)|refine Alp ?_|(refine Tx 28 ?_;refine gO xM <| gO xM <| gN (by exact AZ rfl Aa BK rfl rfl (by decide) (by decide)) <| gT (by exact Qw rfl rfl rfl rfl rfl rfl Aa BK (by omega) (by decide) hc hc2) <| gO xA ?_)|refine AaO ?_)
   refine ⟨_,_,Bz 9 (hH:=by rw [hd,←sI];rfl) (h:=by rw [hd];exact mB rfl rfl),_,?_,k+1,by omega,rfl,hC1,rfl,rfl⟩
   ·omega
  by_cases k1:y.kind=1
  case pos =>
   have eV:WE bs F k=Pu y.vn y.ve z:=by unfold WE;rw [hYA,hZ]
   have rV:Ul bs F k=BW y.vn y.ve z:=by unfold Ul;rw [hYA,hZ]
   have cV:Fo bs F k=Pu y.vn y.ve z:=by unfold Fo;rw [hYK,if_pos (by omega),eV]
   have stV:(tab bs.length (Ez (Fo bs F) k)).set k (Pu y.vn y.ve z)=tab bs.length (Ez (Fo bs F) (k+1)):=by rw [←cV];exact MQ
   have tlV:k<(tab bs.length (Ez (Fo bs F) k)).length:=by rw [Ii];exact hlt
   have RV:=Xj y.vn y.ve z
   have hce:NR bs F k=BW y.vn y.ve z:=by unfold NR;rw [hYK,if_pos (by omega),rV]
   by_cases hr:BW y.vn y.ve z=0
   case neg =>
    have hV1:RJ ps bs os F=BW y.vn y.ve z:=hV.trans ((Aub hle hall hlt hcon (by rw [hce];exact hr)).trans hce)
    have hVn:RJ ps bs os F≠0:=by rw [hV1];exact hr
    repeat' (with_reducible first|refine qq ?_|refine OI ?_|refine Alq ?_|(refine Tx 22 ?_;refine gO xM <| gO (xNE Ag) ?_)|(refine Tx 23 ?_;refine gO (by exact AH rfl CX rfl rfl) <| gO xM <| gZ (xSk Bs) <| gO xA ?_))
    exact AaP
   have hC1:∀ j,j<k+1→NR bs F j=0:=fun j hj=>by
    rcases bf j k with h|h
    ·exact hcon j h
    ·obtain rfl:j=k:=by omega
     exact hce.trans hr
   have sU:tab bs.length (Ez (LP bs F) k)=tab bs.length (Ez (LP bs F) (k+1)):=Fj (by unfold LP;rw [hYK,if_neg (by omega)])
   have sI:tab bs.length (Ez (ES bs F) k)=tab bs.length (Ez (ES bs F) (k+1)):=Fj (by unfold ES;rw [hYK,if_neg (by omega)])
   have hd:dlK bs (k+1)=dlK bs k:=by rw [GW,hYK,if_neg (by omega)]
   have hc:cpK bs (k+1)=cpK bs k:=by rw [MF,hYK,if_neg (by omega)]
   repeat' (with_reducible first|refine qq ?_|refine OI ?_|refine Alq ?_|(refine Tx 22 ?_;refine gO xM <| gO (xNE Ag) ?_)|(refine Tx 24 ?_;refine gO xM ?_)|refine AaO ?_)
   refine ⟨_,_,Bz 9 (hH:=by rw [hd,hc,←sU,←sI];rfl) (h:=by rw [hd,hc];exact mB rfl rfl),_,?_,k+1,by omega,rfl,hC1,rfl,rfl⟩
   ·omega
  by_cases k2:y.kind=2
  case pos =>
   have eV:WE bs F k=Pu y.vn y.ve z:=by unfold WE;rw [hYA,hZ]
   have rV:Ul bs F k=BW y.vn y.ve z:=by unfold Ul;rw [hYA,hZ]
   have cV:Fo bs F k=Pu y.vn y.ve z:=by unfold Fo;rw [hYK,if_pos (by omega),eV]
   have stV:(tab bs.length (Ez (Fo bs F) k)).set k (Pu y.vn y.ve z)=tab bs.length (Ez (Fo bs F) (k+1)):=by rw [←cV];exact MQ
   have tlV:k<(tab bs.length (Ez (Fo bs F) k)).length:=by rw [Ii];exact hlt
   have RV:=Xj y.vn y.ve z
   have hd:Br (dlK bs k)++[(k:Int)]=Br (dlK bs (k+1)):=by rw [GW,hYK,if_pos (by omega),Ms]
   have hd2:(dlK bs k).length+1=(dlK bs (k+1)).length:=by rw [GW,hYK,if_pos (by omega)];simp
   have hcI:ES bs F k=Fo bs F k:=by unfold ES;rw [hYK,if_pos (by omega)]
   have stI:(tab bs.length (Ez (ES bs F) k)).set k (Fo bs F k)=tab bs.length (Ez (ES bs F) (k+1)):=by rw [←hcI];exact MQ
   have tlI:k<(tab bs.length (Ez (ES bs F) k)).length:=by rw [Ii];exact hlt
   have gV:(tab bs.length (Ez (Fo bs F) (k+1)))[k]?=some (Fo bs F k):=by rw [LQ hlt];unfold Ez;rw [if_pos (by omega)]
   have hce:NR bs F k=BW y.vn y.ve z:=by unfold NR;rw [hYK,if_pos (by omega),rV]
   by_cases hr:BW y.vn y.ve z=0
   case neg =>
    have hV1:RJ ps bs os F=BW y.vn y.ve z:=hV.trans ((Aub hle hall hlt hcon (by rw [hce];exact hr)).trans hce)
    have hVn:RJ ps bs os F≠0:=by rw [hV1];exact hr
    repeat' (with_reducible first|refine qq ?_|refine OI ?_|refine Alr ?_|(refine Tx 22 ?_;refine gO xM <| gO (xNE Ag) ?_)|(refine Tx 23 ?_;refine gO (by exact AH rfl CX rfl rfl) <| gO xM <| gZ (xSk Bs) <| gO xA ?_))
    exact AaP
   have hC1:∀ j,j<k+1→NR bs F j=0:=fun j hj=>by
    rcases bf j k with h|h
    ·exact hcon j h
    ·obtain rfl:j=k:=by omega
     exact hce.trans hr
   have sU:tab bs.length (Ez (LP bs F) k)=tab bs.length (Ez (LP bs F) (k+1)):=Fj (by unfold LP;rw [hYK,if_neg (by omega)])
   have hc:cpK bs (k+1)=cpK bs k:=by rw [MF,hYK,if_neg (by omega)]
   repeat' (with_reducible first|refine qq ?_|refine OI ?_|refine Alr ?_|(refine Tx 22 ?_;refine gO xM <| gO (xNE Ag) ?_)|(refine Tx 24 ?_;refine gO xM ?_)|refine AaO ?_|(refine AE (id:=30) 8 AJ (by kernel_rfl) ?_;dsimp only [List.take,List.drop];refine gP xF <| gP xD <| gP xM <| gP xM <| gP xM <| gP RY <| gP Apf <| gP RY ?_;refine Ke ?_;refine gZ Atq ?_)|(refine Tx 31 ?_;refine gO xM <| gO xM <| gN (by exact AZ rfl Aa BK rfl rfl (by decide) (by decide)) <| gT (by exact Qw rfl rfl rfl rfl rfl rfl Aa BK (by omega) (by decide) hd hd2) <| gO xA ?_))
   refine ⟨_,_,Bz 9 (hH:=by rw [hc,←sU];rfl) (h:=by rw [hc];exact mB rfl rfl),_,?_,k+1,by omega,rfl,hC1,rfl,rfl⟩
   ·omega
  have hC1:∀ j,j<k+1→NR bs F j=0:=fun j hj=>by
   rcases bf j k with h|h
   ·exact hcon j h
   ·obtain rfl:j=k:=by omega
    unfold NR;rw [hYK,if_neg (by omega),if_neg (by omega)]
  have sU:tab bs.length (Ez (LP bs F) k)=tab bs.length (Ez (LP bs F) (k+1)):=Fj (by unfold LP;rw [hYK,if_neg (by omega)])
  have sV:tab bs.length (Ez (Fo bs F) k)=tab bs.length (Ez (Fo bs F) (k+1)):=Fj (by unfold Fo;rw [hYK,if_neg (by omega)])
  have sI:tab bs.length (Ez (ES bs F) k)=tab bs.length (Ez (ES bs F) (k+1)):=Fj (by unfold ES;rw [hYK,if_neg (by omega)])
  have hd:dlK bs (k+1)=dlK bs k:=by rw [GW,hYK,if_neg (by omega)]
  have hc:cpK bs (k+1)=cpK bs k:=by rw [MF,hYK,if_neg (by omega)]
  repeat' (with_reducible first|refine qq ?_|refine OI ?_|(refine Tx 24 ?_;refine gO xM ?_)|refine AaO ?_)
  refine ⟨_,_,Bz 9 (hH:=by rw [hd,hc,←sU,←sV,←sI];rfl) (h:=by rw [hd,hc];exact mB rfl rfl),_,?_,k+1,by omega,rfl,hC1,rfl,rfl⟩
  ·omega
 obtain rfl:k=bs.length:=by omega
 clear hlt hk
 have hdl:=AeN bs bs.length
 have hcl:=AeO bs bs.length
 rw [show tab bs.length (Ez (Fo bs F) bs.length)=tab bs.length (Fo bs F) from US,show tab bs.length (Ez (LP bs F) bs.length)=tab bs.length (LP bs F) from US,show tab bs.length (Ez (ES bs F) bs.length)=tab bs.length (ES bs F) from US,Ace bs bs.length (CI bs)]
 repeat' (with_reducible first|refine qq ?_|(refine Tx 17 ?_;refine gO xLt ?_)|(refine Tx 33 ?_;refine gO xM <| gO xN <| gO xM ?_))
 refine AY (Bz 9 (hH:=by rw [lg,av];rfl)) (Aq (fun n Fr H=>∃ t:Nat,t≤(dlK bs bs.length).length∧n=(dlK bs bs.length).length - t∧Fr=ofL [(1,vd (AM true F)),(2,vr 0),(4,vr 1),(5,vd (.val .nilIface)),(6,vd (AM false (Br (Bb bs)))),(10,vi bs.length),(11,vr 3),(12,vo 4 bs.length),(13,vo 5 bs.length),(14,vo 6 bs.length),(15,vo 7 ((dlK bs bs.length).length)),(16,vo 8 ((cpK bs bs.length).length)),(160,vo 7 ((dlK bs bs.length).length)),(161,vi ((dlK bs bs.length).length)),(162,vi ((t:Nat)))]∧H=[.box 26 [.d (CU true ps),.d (Dw true bs),.d (AM true os)],.box 68 [.d (.val (.slice none 0 0)),.d (.val (.slice none 0 0)),.d (.val (.slice none 0 0)),.d (.val (.slice none 0 0))],.row 3 1 (bs.length+(t)) (cI (tab bs.length (ES bs F)++List.replicate (t) 0)),.box 68 [.d (CU false ps),.own 2 (bs.length+(t)),.d (.val (.slice none 0 0)),.d (.val (.slice none 0 0))],.row 3 1 (bs.length) (cI (tab bs.length (Fo bs F))),.row 3 1 (bs.length) (cI (tab bs.length (LP bs F))),.row 3 1 (bs.length) (cI (tab bs.length (Oe bs (t)))),.row 3 1 ((dlK bs bs.length).length) (cI (Br (dlK bs bs.length))),.row 3 1 ((cpK bs bs.length).length) (cI (Br (cpK bs bs.length)))]) (n0:=(dlK bs bs.length).length) ⟨0,af _,rfl,rfl,rfl⟩ ?_)
 rintro n Fr H ⟨t,ht,rfl,rfl,rfl⟩
 by_cases hlt:t<(dlK bs bs.length).length
 case pos =>
  obtain ⟨j,hj⟩:∃ j,(dlK bs bs.length)[t]?=some j:=⟨_,gE hlt⟩
  obtain ⟨hj1,hj2,hj3⟩:=Acc.1 hj
  have hjn:=Tj hj
  have stC:(tab bs.length (Oe bs t)).set j (((bs.length+t:Nat)):Int)=tab bs.length (Oe bs (t+1)):=Yz (by rw [Aja hj];omega) fun i hi=>AfJ hj hi
  have tlC:j<(tab bs.length (Oe bs t)).length:=by rw [Ii];exact hj1
  have hap:(tab bs.length (ES bs F)++List.replicate t 0)++[0]=tab bs.length (ES bs F)++List.replicate (t+1) 0:=by rw [jl,←List.replicate_succ']
  repeat' (with_reducible first|refine qq ?_|(refine Tx 34 ?_;refine gO xLt ?_)|(refine Tx 35 ?_;refine gO (xIo Aa) <| gO (by first|exact xLi hjn Al|exact xLd Al) <| gO xA ?_)|(refine Tx 36 ?_;refine gO xM <| gO xM <| gO xF <| gO xD <| gO xN <| gO (xIo Aa) <| gZ Atr ?_)|(refine Tx 37 ?_;refine gO xF <| gO xD <| gN (by exact AZ rfl Aa BK rfl rfl (by decide) (by decide)) <| gT (by exact Qw rfl rfl rfl rfl rfl rfl Aa BK (by omega) (by decide) hap rfl) <| gO xF <| gZ Api ?_)|(refine Tx 38 ?_;refine gO xAd <| gO xM ?_))
  exact Alt
 obtain rfl:t=(dlK bs bs.length).length:=by omega
 clear hlt ht
 rw [Acf]
 repeat' (with_reducible first|refine qq ?_|(refine Tx 34 ?_;refine gO xLt ?_)|(refine Tx 39 ?_;refine gO xM <| gO xN <| gO xM ?_))
 refine AY (Bz 9 (hH:=by rw [ik,List.flatMap_nil,av];rfl)) (Aq (fun n Fr H=>∃ t:Nat,t≤(cpK bs bs.length).length∧n=(cpK bs bs.length).length - t∧Fr=ofL [(1,vd (AM true F)),(2,vr 0),(4,vr 1),(5,vd (.val .nilIface)),(6,vd (AM false (Br (Bb bs)))),(10,vi bs.length),(11,vr 3),(12,vo 4 bs.length),(13,vo 5 bs.length),(14,vo 6 bs.length),(15,vo 7 ((dlK bs bs.length).length)),(16,vo 8 ((cpK bs bs.length).length)),(178,vo 8 ((cpK bs bs.length).length)),(179,vi ((cpK bs bs.length).length)),(180,vi ((t:Nat)))]∧H=[.box 26 [.d (CU true ps),.d (Dw true bs),.d (AM true os)],.box 68 [.d (.val (.slice none 0 0)),.d (.val (.slice none 0 0)),.d (.val (.slice none 0 0)),.d (.val (.slice none 0 0))],.row 3 1 (bs.length+(dlK bs bs.length).length+2*(t)) (cI (tab bs.length (ES bs F)++List.replicate (dlK bs bs.length).length 0++((cpK bs bs.length).take (t)).flatMap (fun j=>[Fo bs F j,LP bs F j]))),.box 68 [.d (CU false ps),.own 2 (bs.length+(dlK bs bs.length).length+2*(t)),.d (.val (.slice none 0 0)),.d (.val (.slice none 0 0))],.row 3 1 (bs.length) (cI (tab bs.length (Fo bs F))),.row 3 1 (bs.length) (cI (tab bs.length (LP bs F))),.row 3 1 (bs.length) (cI (tab bs.length (Og bs (t)))),.row 3 1 ((dlK bs bs.length).length) (cI (Br (dlK bs bs.length))),.row 3 1 ((cpK bs bs.length).length) (cI (Br (cpK bs bs.length)))]) (n0:=(cpK bs bs.length).length) ⟨0,af _,rfl,rfl,rfl⟩ ?_)
 rintro n Fr H ⟨t,ht,rfl,rfl,rfl⟩
 by_cases hlt:t<(cpK bs bs.length).length
 case pos =>
  obtain ⟨j,hj⟩:∃ j,(cpK bs bs.length)[t]?=some j:=⟨_,gE hlt⟩
  obtain ⟨hj1,hj2,hj3⟩:=AiZ.1 hj
  have hjn:=Tj hj
  have stC:(tab bs.length (Og bs t)).set j (((bs.length+(dlK bs bs.length).length+2*t:Nat)):Int)=tab bs.length (Og bs (t+1)):=Yz (by rw [Ajb hj];omega) fun i hi=>AfK hj hi
  have tlC:j<(tab bs.length (Og bs t)).length:=by rw [Ii];exact hj1
  have gV:(tab bs.length (Fo bs F))[j]?=some (Fo bs F j):=LQ hj1
  have gU:(tab bs.length (LP bs F))[j]?=some (LP bs F j):=LQ hj1
  have hap:cI (tab bs.length (ES bs F)++List.replicate (dlK bs bs.length).length 0++((cpK bs bs.length).take (t)).flatMap (fun j=>[Fo bs F j,LP bs F j]))++[.d (.val (.int .i64 (Fo bs F j))),.d (.val (.int .i64 (LP bs F j)))]=cI (tab bs.length (ES bs F)++List.replicate (dlK bs bs.length).length 0++((cpK bs bs.length).take (t+1)).flatMap (fun j=>[Fo bs F j,LP bs F j])):=by rw [Aoy,Acg hj,←jl]
  repeat' (with_reducible first|refine qq ?_|(refine Tx 40 ?_;refine gO xLt ?_)|(refine Tx 41 ?_;refine gO (xIo Aa) <| gO Apg <| gO xA ?_)|(refine Tx 42 ?_;refine gO xM <| gO xM <| gO xF <| gO xD <| gO xN <| gO (xIo Aa) <| gZ Atr ?_)|(refine AE (id:=43) 11 AJ (by kernel_rfl) ?_;dsimp only [List.take,List.drop];refine gP xF <| gP xD <| gP xM <| gP xM <| gP (xIo Aa) <| gP Apg <| gP xM <| gP xM <| gP (xIo Aa) <| gP Apg <| gQ (by exact HH rfl Aa BK rfl rfl rfl rfl (by decide) (by decide)) ?_;refine Ke ?_;refine gT (by exact FG rfl rfl rfl rfl rfl rfl Aa BK (by omega) (by decide) (by decide) rfl hap rfl) <| gO xF <| gZ Api ?_)|(refine Tx 44 ?_;refine gO xAd <| gO xM ?_))
  exact Alt
 obtain rfl:t=(cpK bs bs.length).length:=by omega
 clear hlt ht
 have hIM:tab bs.length (ES bs F)++List.replicate (dlK bs bs.length).length 0++((cpK bs bs.length).take (cpK bs bs.length).length).flatMap (fun j=>[Fo bs F j,LP bs F j])=NT bs F:=by rw [az];rfl
 rw [AfL]
 have hM:bs.length+(dlK bs bs.length).length+2*(cpK bs bs.length).length=(NT bs F).length:=by rw [←hIM,aq,aq,Ii,dz,AfM,cj];omega
 have hol:=Up (bs:=bs)
 rw [hIM]
 repeat' (with_reducible first|refine qq ?_|(refine Tx 40 ?_;refine gO xLt ?_)|(refine Tx 45 ?_;refine gO xM <| gO xN <| gO xM ?_))
 refine AY (Gq 3 2 121 7 rfl rfl) ?_
 refine AY (Bz 10) (Aq (fun n Fr H=>∃ t:Nat,t≤(Bb bs).length∧n=(Bb bs).length - t∧Fr=ofL [(1,vd (AM true F)),(2,vr 0),(4,vr 1),(5,vd (.val .nilIface)),(6,vd (AM false (Br (Bb bs)))),(10,vi bs.length),(11,vr 3),(12,vo 4 bs.length),(13,vo 5 bs.length),(14,vo 6 bs.length),(15,vo 7 ((dlK bs bs.length).length)),(204,vd (AM false (Br (Bb bs)))),(205,vi ((Br (Bb bs)).length)),(206,vi ((t:Nat)))]∧H=[.box 26 [.d (CU true ps),.d (Dw true bs),.d (AM true os)],.box 68 [.d (.val (.slice none 0 0)),.d (.val (.slice none 0 0)),.d (.val (.slice none 0 0)),.d (.val (.slice none 0 0))],.row 3 1 (bs.length+(dlK bs bs.length).length+2*(cpK bs bs.length).length) (cI (NT bs F)),.box 68 [.d (CU false ps),.own 2 (bs.length+(dlK bs bs.length).length+2*(cpK bs bs.length).length),.own 9 ((cdA ps bs F (t)).length),.d (.val (.slice none 0 0))],.row 3 1 (bs.length) (cI (tab bs.length (Fo bs F))),.row 3 1 (bs.length) (cI (tab bs.length (LP bs F))),.row 3 1 (bs.length) (cI (tab bs.length (CI bs))),.row 3 1 ((dlK bs bs.length).length) (cI (Br (dlK bs bs.length))),.row 3 1 ((cpK bs bs.length).length) (cI (Br (cpK bs bs.length))),.row 121 7 (cdA ps bs F (t)).length (cD (Ar Vm (cdA ps bs F (t))))]) (n0:=(Bb bs).length) ⟨0,af _,rfl,rfl,rfl⟩ ?_)
 rintro n Fr H ⟨t,ht,rfl,rfl,rfl⟩
 have hnl:=Cb (Bb bs)
 by_cases hlt:t<(Bb bs).length
 case pos =>
  obtain ⟨j,hj⟩:∃ j,(Bb bs)[t]?=some j:=⟨_,gE hlt⟩
  obtain ⟨hjn,hjk⟩:=FP hj
  have hAl:=AfO (ps:=ps) (bs:=bs) (F:=F) t
  obtain ⟨y,hy⟩:∃ y,bs[j]?=some y:=⟨_,gE hjn⟩
  obtain ⟨z,hz⟩:∃ z,F[j]?=some z:=⟨_,gE (by omega)⟩
  have hac:=El he hy
  have hYA:=Gf hy
  have hYK:=PF hy
  have hZ:=FO hz
  have hzr:=Dl hall j
  rw [hZ] at hzr
  have gC:(tab bs.length (CI bs))[j]?=some (CI bs j):=LQ hjn
  rw [hYK] at hjk
  have gV:(tab bs.length (Fo bs F))[j]?=some (Fo bs F j):=LQ hjn
  repeat' (with_reducible first|refine qq ?_|(refine Tx 46 ?_;refine gO xLt ?_)|(refine Tx 47 ?_;refine gO Ats <| gO xD <| gO xA ?_)|(refine Tx 48 ?_;refine gO xF <| gO xD <| gO xM <| gO Aph <| gO xL <| gN (xAl Cw) <| gZ (xSk BZ) ?_)|(refine Tx 49 ?_;refine gO xF <| gO xD ?_))
  by_cases k0:y.kind=0
  case pos =>
   have hyl:y.args.length=1:=by have h:=hac.2.1;unfold Ay at h;(repeat' split at h) <;> omega
   obtain ⟨a0,hA0⟩:∃ a,y.args[0]?=some a:=⟨_,gE (by omega)⟩
   have hr0:=hac.2.2 a0 (gM hA0)
   have hg0:BJ y=a0:=by unfold BJ;rw [hA0];rfl
   rw [show Cm ps.length bs.length y.kind=ps.length from if_pos (by omega)] at hr0
   obtain ⟨p,hp⟩:∃ p,ps[a0.toNat]?=some p:=⟨_,gE (by omega)⟩
   have hpe:=Uo he hp
   unfold DI at hpe
   have hpr:0≤p.fr∧p.fr≤30:=by
    by_cases h : -2147483648≤p.lo∧p.lo≤p.hi∧p.hi<2147483648∧0≤p.fr∧p.fr≤30
    ·exact h.2.2.2
    ·rw [if_neg h] at hpe;cases hpe
   have hpf:QO ps a0=p.fr:=by unfold QO;rw [hp];rfl
   have hB:QP ps bs F j (CI bs j)=[⟨0,j,a0,0,z - p.fr,0,0⟩]:=by unfold QP;dsimp only;rw [hYA,hZ,hg0,hpf,if_pos k0]
   have hnx:=Ha (ps:=ps) (F:=F) hj
   rw [hB] at hnx
   have hap:=Ip (x:=⟨0,j,a0,0,z - p.fr,0,0⟩) (hnx)
   have hap2:=Ir (hnx)
   repeat' (with_reducible first|refine qq ?_|refine Rs ?_|(refine AE (id:=55) 23 AJ (by kernel_rfl) ?_;dsimp only [List.take,List.drop];refine gP xF <| gP xD <| gP xM <| gP xF <| gP xD <| gP Rt <| gP xD <| gP xM <| gP xM <| gP Lh <| gP xD <| gP xF <| gP xD <| gP xF <| gP xD <| gP Rt <| gP xD <| gP (by first|exact xIr BG (Gz hp)|exact xIo BG) <| gP xF <| gP xD <| gP xSb <| gP (by exact AH rfl EN rfl rfl) <| gQ (by exact AZ rfl Bi Ca rfl rfl (by decide) (by decide)) ?_;refine Ke ?_;refine gT (by exact FG rfl rfl rfl rfl rfl rfl Bi Ca (by omega) (by decide) (by decide) rfl hap hap2) <| gO xF <| gZ Xw ?_))
   exact MT
  by_cases k1:y.kind=1
  case pos =>
   have hB:QP ps bs F j (CI bs j)=[⟨1,j,0,0,0,0,Fo bs F j⟩]:=by unfold QP;dsimp only;rw [hYA,if_neg (by omega),if_pos k1];unfold Fo;rw [hYK,if_pos (by omega)]
   have hnx:=Ha (ps:=ps) (F:=F) hj
   rw [hB] at hnx
   have hap:=Ip (x:=⟨1,j,0,0,0,0,Fo bs F j⟩) (hnx)
   have hap2:=Ir (hnx)
   repeat' (with_reducible first|refine qq ?_|refine Rs ?_|(refine Tx 56 ?_;refine gO xEq <| gO xA ?_)|(refine AE (id:=57) 9 AJ (by kernel_rfl) ?_;dsimp only [List.take,List.drop];refine gP xF <| gP xD <| gP xM <| gP xM <| gP xM <| gP Ats <| gP Apf <| gP (by exact AH rfl EN rfl rfl) <| gQ (by exact AZ rfl Bi Ca rfl rfl (by decide) (by decide)) ?_;refine Ke ?_;refine gT (by exact FG rfl rfl rfl rfl rfl rfl Bi Ca (by omega) (by decide) (by decide) rfl hap hap2) <| gO xF <| gZ Xw ?_))
   exact MT
  by_cases k6:y.kind=6
  case pos =>
   have hyl:y.args.length=1:=by have h:=hac.2.1;unfold Ay at h;(repeat' split at h) <;> omega
   obtain ⟨a0,hA0⟩:∃ a,y.args[0]?=some a:=⟨_,gE (by omega)⟩
   have hr0:=hac.2.2 a0 (gM hA0)
   have hg0:BJ y=a0:=by unfold BJ;rw [hA0];rfl
   rw [show Cm ps.length bs.length y.kind=bs.length from if_neg (by omega)] at hr0
   obtain ⟨z0,hz0⟩:∃ z,F[a0.toNat]?=some z:=⟨_,gE (by omega)⟩
   have hZ0:=FO hz0
   have hzr0:=Dl hall a0.toNat
   rw [hZ0] at hzr0
   have hvs:=(Oy he hy (by rw [k6];rfl)).2.2
   have hB:QP ps bs F j (CI bs j)=[⟨6,j,a0,0,z - z0+y.ve,0,y.vn⟩]:=by unfold QP;dsimp only;rw [hYA,hZ,hg0,hZ0,if_neg (by omega),if_neg (by omega),if_pos k6]
   have hnx:=Ha (ps:=ps) (F:=F) hj
   rw [hB] at hnx
   have hap:=Ip (x:=⟨6,j,a0,0,z - z0+y.ve,0,y.vn⟩) (hnx)
   have hap2:=Ir (hnx)
   repeat' (with_reducible first|refine qq ?_|refine Rs ?_|(refine Tx 56 ?_;refine gO xEq <| gO xA ?_)|(refine Tx 58 ?_;refine gO xEq <| gO xA ?_)|(refine AE (id:=59) 28 AJ (by kernel_rfl) ?_;dsimp only [List.take,List.drop];refine gP xF <| gP xD <| gP xM <| gP xF <| gP xD <| gP Rt <| gP xD <| gP xM <| gP xM <| gP Lh <| gP xD <| gP xM <| gP xF <| gP xD <| gP Rt <| gP xD <| gP Lh <| gP xD <| gP xSb <| gP xF <| gP xF <| gP xD <| gP xAd <| gP xF <| gP xF <| gP xD <| gP (by exact AH rfl EN rfl rfl) <| gQ (by exact AZ rfl Bi Ca rfl rfl (by decide) (by decide)) ?_;refine Ke ?_;refine gT (by exact FG rfl rfl rfl rfl rfl rfl Bi Ca (by omega) (by decide) (by decide) rfl hap hap2) <| gO xF <| gZ Xw ?_))
   exact MT
  by_cases k7:y.kind=7
  case pos =>
   have hyl:y.args.length=2:=by have h:=hac.2.1;unfold Ay at h;(repeat' split at h) <;> omega
   obtain ⟨a0,hA0⟩:∃ a,y.args[0]?=some a:=⟨_,gE (by omega)⟩
   have hr0:=hac.2.2 a0 (gM hA0)
   have hg0:BJ y=a0:=by unfold BJ;rw [hA0];rfl
   rw [show Cm ps.length bs.length y.kind=bs.length from if_neg (by omega)] at hr0
   obtain ⟨z0,hz0⟩:∃ z,F[a0.toNat]?=some z:=⟨_,gE (by omega)⟩
   have hZ0:=FO hz0
   have hzr0:=Dl hall a0.toNat
   rw [hZ0] at hzr0
   obtain ⟨a1,hA1⟩:∃ a,y.args[1]?=some a:=⟨_,gE (by omega)⟩
   have hr1:=hac.2.2 a1 (gM hA1)
   have hg1:DS y=a1:=by unfold DS;rw [hA1];rfl
   rw [show Cm ps.length bs.length y.kind=bs.length from if_neg (by omega)] at hr1
   obtain ⟨z1,hz1⟩:∃ z,F[a1.toNat]?=some z:=⟨_,gE (by omega)⟩
   have hZ1:=FO hz1
   have hzr1:=Dl hall a1.toNat
   rw [hZ1] at hzr1
   have hB:QP ps bs F j (CI bs j)=[⟨7,j,a0,a1,z - z0 - z1,0,0⟩]:=by unfold QP;dsimp only;rw [hYA,hZ,hg0,hg1,hZ0,hZ1,if_neg (by omega),if_neg (by omega),if_neg (by omega),if_pos k7]
   have hnx:=Ha (ps:=ps) (F:=F) hj
   rw [hB] at hnx
   have hap:=Ip (x:=⟨7,j,a0,a1,z - z0 - z1,0,0⟩) (hnx)
   have hap2:=Ir (hnx)
   repeat' (with_reducible first|refine qq ?_|refine Rs ?_|(refine Tx 56 ?_;refine gO xEq <| gO xA ?_)|(refine Tx 58 ?_;refine gO xEq <| gO xA ?_)|(refine Tx 60 ?_;refine gO xEq <| gO xA ?_)|(refine AE (id:=61) 33 AJ (by kernel_rfl) ?_;dsimp only [List.take,List.drop];refine gP xF <| gP xD <| gP xM <| gP xF <| gP xD <| gP Rt <| gP xD <| gP xF <| gP xD <| gP Acq <| gP xD <| gP xM <| gP xM <| gP Lh <| gP xD <| gP xM <| gP xF <| gP xD <| gP Rt <| gP xD <| gP Lh <| gP xD <| gP xSb <| gP xM <| gP xF <| gP xD <| gP Acq <| gP xD <| gP Lh <| gP xD <| gP xSb <| gP (by exact AH rfl EN rfl rfl) <| gQ (by exact AZ rfl Bi Ca rfl rfl (by decide) (by decide)) ?_;refine Ke ?_;refine gT (by exact FG rfl rfl rfl rfl rfl rfl Bi Ca (by omega) (by decide) (by decide) rfl hap hap2) <| gO xF <| gZ Xw ?_))
   exact MT
  by_cases k11:y.kind=11
  case pos =>
   have hyl:y.args.length=1:=by have h:=hac.2.1;unfold Ay at h;(repeat' split at h) <;> omega
   obtain ⟨a0,hA0⟩:∃ a,y.args[0]?=some a:=⟨_,gE (by omega)⟩
   have hr0:=hac.2.2 a0 (gM hA0)
   have hg0:BJ y=a0:=by unfold BJ;rw [hA0];rfl
   rw [show Cm ps.length bs.length y.kind=bs.length from if_neg (by omega)] at hr0
   obtain ⟨z0,hz0⟩:∃ z,F[a0.toNat]?=some z:=⟨_,gE (by omega)⟩
   have hZ0:=FO hz0
   have hzr0:=Dl hall a0.toNat
   rw [hZ0] at hzr0
   have hcF:CI bs j=(bs.length:Int)+((dlK bs bs.length).length:Int)+2*(PE (cpB bs) j:Int):=by unfold CI;rw [hYK,if_neg (by omega),if_pos k11]
   have hrk:=Tk hjn (hYK.trans k11)
   have hB:QP ps bs F j (CI bs j)=[⟨9,j,a0,CI bs j,z - z0,0,0⟩,⟨8,j,j,CI bs j+1,0,0,0⟩]:=by unfold QP;dsimp only;rw [hYA,hZ,hg0,hZ0,if_neg (by omega),if_neg (by omega),if_neg (by omega),if_neg (by omega),if_pos k11]
   have hnx:=Ha (ps:=ps) (F:=F) hj
   rw [hB] at hnx
   have hap:=Ajg (x:=⟨9,j,a0,CI bs j,z - z0,0,0⟩) (y:=⟨8,j,j,CI bs j+1,0,0,0⟩) hnx
   have hap2:=Ajh hnx
   repeat' (with_reducible first|refine qq ?_|refine Rs ?_|(refine Tx 56 ?_;refine gO xEq <| gO xA ?_)|(refine Tx 58 ?_;refine gO xEq <| gO xA ?_)|(refine Tx 60 ?_;refine gO xEq <| gO xA ?_)|(refine Tx 62 ?_;refine gO xEq <| gO xA ?_)|(refine AE (id:=63) 33 AJ (by kernel_rfl) ?_;dsimp only [List.take,List.drop];refine gP xF <| gP xD <| gP xM <| gP xF <| gP xD <| gP Rt <| gP Tq <| gP xM <| gP xM <| gP Lh <| gP Tq <| gP xM <| gP xM <| gP Lh <| gP Tq <| gP xM <| gP xF <| gP xD <| gP Rt <| gP Tq <| gP Lh <| gP Tq <| gP xSb <| gP (by exact AH rfl EN rfl rfl) <| gP xM <| gP xM <| gP xM <| gP xM <| gP Lh <| gP Tq <| gP xAd <| gP (by exact AH rfl EN rfl rfl) <| gQ (by exact HH rfl Bi Ca rfl rfl rfl rfl (by decide) (by decide)) ?_;refine Ke ?_;refine gT (by exact FG rfl rfl rfl rfl rfl rfl Bi Ca (by omega) (by decide) (by decide) rfl hap hap2) <| gO xF <| gZ Xw ?_))
   exact MT
  have OP:=Ava y.kind
  by_cases hl2:y.args.length=2
  case pos =>
   obtain ⟨a0,hA0⟩:∃ a,y.args[0]?=some a:=⟨_,gE (by omega)⟩
   have hr0:=hac.2.2 a0 (gM hA0)
   have hg0:BJ y=a0:=by unfold BJ;rw [hA0];rfl
   rw [show Cm ps.length bs.length y.kind=bs.length from if_neg (by omega)] at hr0
   obtain ⟨z0,hz0⟩:∃ z,F[a0.toNat]?=some z:=⟨_,gE (by omega)⟩
   have hZ0:=FO hz0
   have hzr0:=Dl hall a0.toNat
   rw [hZ0] at hzr0
   obtain ⟨a1,hA1⟩:∃ a,y.args[1]?=some a:=⟨_,gE (by omega)⟩
   have hr1:=hac.2.2 a1 (gM hA1)
   have hg1:DS y=a1:=by unfold DS;rw [hA1];rfl
   rw [show Cm ps.length bs.length y.kind=bs.length from if_neg (by omega)] at hr1
   obtain ⟨z1,hz1⟩:∃ z,F[a1.toNat]?=some z:=⟨_,gE (by omega)⟩
   have hZ1:=FO hz1
   have hzr1:=Dl hall a1.toNat
   rw [hZ1] at hzr1
   have hB:QP ps bs F j (CI bs j)=[⟨opM y.kind,j,a0,a1,z - z0,z - z1,0⟩]:=by unfold QP;dsimp only;rw [hYA,hZ,hg0,hg1,hZ0,hZ1,if_neg (by omega),if_neg (by omega),if_neg (by omega),if_neg (by omega),if_neg (by omega),if_pos hl2]
   have hnx:=Ha (ps:=ps) (F:=F) hj
   rw [hB] at hnx
   have hap:=Ip (x:=⟨opM y.kind,j,a0,a1,z - z0,z - z1,0⟩) (hnx)
   have hap2:=Ir (hnx)
   repeat' (with_reducible first|refine qq ?_|refine Rs ?_|(refine Tx 56 ?_;refine gO xEq <| gO xA ?_)|(refine Tx 58 ?_;refine gO xEq <| gO xA ?_)|(refine Tx 60 ?_;refine gO xEq <| gO xA ?_)|(refine Tx 62 ?_;refine gO xEq <| gO xA ?_)|refine Als ?_|(refine Akm (id:=52) 17 11 121 [.d (.val (.int .i64 (opM y.kind))),.d (.val (.int .i64 (j))),.d (.val (.int .i64 (a0))),.d (.val (.int .i64 (a1))),.d (.val (.int .i64 (z - z0))),.d (.val (.int .i64 (0))),.d (.val (.int .i64 (0)))] AJ (by kernel_rfl) ?_;dsimp only [List.take,List.drop];refine TP rfl rfl (xFa EZ Ax) (xFa EZ Ax) ?_;refine TP rfl rfl (xLd Ax) (xLd Ax) ?_;refine TP rfl rfl Acq Acq ?_;refine TP rfl rfl (xLd Al) (xLd Al) ?_;refine TP rfl rfl xM1 xM1 ?_;refine TP rfl rfl xM1 xM1 ?_;refine TP rfl rfl Lh Lh ?_;refine TP rfl rfl (xLd Al) (xLd Al) ?_;refine TP rfl rfl xM1 xM1 ?_;refine TP rfl rfl (xFa EZ Ax) (xFa EZ Ax) ?_;refine TP rfl rfl (xLd Ax) (xLd Ax) ?_;refine TP rfl rfl Acq Acq ?_;refine TP rfl rfl (xLd Al) (xLd Al) ?_;refine TP rfl rfl Lh Lh ?_;refine TP rfl rfl (xLd Al) (xLd Al) ?_;refine TP rfl rfl xSb xSb ?_;refine TP rfl rfl (xFa Qr Al) (xFa Qr Al) ?_;refine Akl ?_;refine AqO rfl rfl rfl (by exact Wa rfl rfl rfl rfl rfl Al (bl rfl) rfl) ?_;refine gO xF <| gZ (by first|exact xS1 Al|exact xSk Al) ?_))
   exact MT
  have hyl:y.args.length=1:=by have h:=hac.2.1;have h1:=hac.1;unfold Ay at h h1;(repeat' split at h) <;> omega
  obtain ⟨a0,hA0⟩:∃ a,y.args[0]?=some a:=⟨_,gE (by omega)⟩
  have hr0:=hac.2.2 a0 (gM hA0)
  have hg0:BJ y=a0:=by unfold BJ;rw [hA0];rfl
  rw [show Cm ps.length bs.length y.kind=bs.length from if_neg (by omega)] at hr0
  obtain ⟨z0,hz0⟩:∃ z,F[a0.toNat]?=some z:=⟨_,gE (by omega)⟩
  have hZ0:=FO hz0
  have hzr0:=Dl hall a0.toNat
  rw [hZ0] at hzr0
  have hB:QP ps bs F j (CI bs j)=[⟨opM y.kind,j,a0,0,z - z0,0,0⟩]:=by unfold QP;dsimp only;rw [hYA,hZ,hg0,hZ0,if_neg (by omega),if_neg (by omega),if_neg (by omega),if_neg (by omega),if_neg (by omega),if_neg hl2]
  have hnx:=Ha (ps:=ps) (F:=F) hj
  rw [hB] at hnx
  have hap:=Ip (x:=⟨opM y.kind,j,a0,0,z - z0,0,0⟩) (hnx)
  have hap2:=Ir (hnx)
  repeat' (with_reducible first|refine qq ?_|refine Rs ?_|(refine Tx 56 ?_;refine gO xEq <| gO xA ?_)|(refine Tx 58 ?_;refine gO xEq <| gO xA ?_)|(refine Tx 60 ?_;refine gO xEq <| gO xA ?_)|(refine Tx 62 ?_;refine gO xEq <| gO xA ?_)|refine Als ?_)
  exact MT
 obtain rfl:t=(Bb bs).length:=by omega
 clear hlt ht
 rw [←Ajc]
 repeat' (with_reducible first|refine qq ?_|(refine Tx 46 ?_;refine gO xLt ?_)|(refine Tx 65 ?_;refine gO xM <| gO xN <| gO xM ?_))
 refine AY (Bz 10) (Aq (fun n Fr H=>∃ t:Nat,t≤(dlK bs bs.length).length∧n=(dlK bs bs.length).length - t∧Fr=ofL [(1,vd (AM true F)),(2,vr 0),(4,vr 1),(5,vd (.val .nilIface)),(6,vd (AM false (Br (Bb bs)))),(10,vi bs.length),(11,vr 3),(12,vo 4 bs.length),(13,vo 5 bs.length),(14,vo 6 bs.length),(15,vo 7 ((dlK bs bs.length).length)),(413,vo 7 ((dlK bs bs.length).length)),(414,vi ((dlK bs bs.length).length)),(415,vi ((t:Nat)))]∧H=[.box 26 [.d (CU true ps),.d (Dw true bs),.d (AM true os)],.box 68 [.d (.val (.slice none 0 0)),.d (.val (.slice none 0 0)),.d (.val (.slice none 0 0)),.d (.val (.slice none 0 0))],.row 3 1 (bs.length+(dlK bs bs.length).length+2*(cpK bs bs.length).length) (cI (NT bs F)),.box 68 [.d (CU false ps),.own 2 (bs.length+(dlK bs bs.length).length+2*(cpK bs bs.length).length),.own 9 ((cdB ps bs F (t)).length),.d (.val (.slice none 0 0))],.row 3 1 (bs.length) (cI (tab bs.length (Fo bs F))),.row 3 1 (bs.length) (cI (tab bs.length (LP bs F))),.row 3 1 (bs.length) (cI (tab bs.length (CI bs))),.row 3 1 ((dlK bs bs.length).length) (cI (Br (dlK bs bs.length))),.row 3 1 ((cpK bs bs.length).length) (cI (Br (cpK bs bs.length))),.row 121 7 (cdB ps bs F (t)).length (cD (Ar Vm (cdB ps bs F (t))))]) (n0:=(dlK bs bs.length).length) ⟨0,af _,rfl,rfl,rfl⟩ ?_)
 rintro n Fr H ⟨t,ht,rfl,rfl,rfl⟩
 by_cases hlt:t<(dlK bs bs.length).length
 case pos =>
  obtain ⟨j,hj⟩:∃ j,(dlK bs bs.length)[t]?=some j:=⟨_,gE hlt⟩
  obtain ⟨hjn,hjk,hj3⟩:=Acc.1 hj
  have hjm:=Tj hj
  have hAl:=AfP (ps:=ps) (bs:=bs) (F:=F) t
  obtain ⟨y,hy⟩:∃ y,bs[j]?=some y:=⟨_,gE hjn⟩
  obtain ⟨z,hz⟩:∃ z,F[j]?=some z:=⟨_,gE (by omega)⟩
  have hac:=El he hy
  have hYA:=Gf hy
  have hYK:=PF hy
  have hZ:=FO hz
  have hzr:=Dl hall j
  rw [hZ] at hzr
  have gC:(tab bs.length (CI bs))[j]?=some (CI bs j):=LQ hjn
  rw [hYK] at hjk
  have hyl:y.args.length=1:=by have h:=hac.2.1;unfold Ay at h;(repeat' split at h) <;> omega
  obtain ⟨a0,hA0⟩:∃ a,y.args[0]?=some a:=⟨_,gE (by omega)⟩
  have hr0:=hac.2.2 a0 (gM hA0)
  have hg0:BJ y=a0:=by unfold BJ;rw [hA0];rfl
  rw [show Cm ps.length bs.length y.kind=bs.length from if_neg (by omega)] at hr0
  obtain ⟨z0,hz0⟩:∃ z,F[a0.toNat]?=some z:=⟨_,gE (by omega)⟩
  have hZ0:=FO hz0
  have hzr0:=Dl hall a0.toNat
  rw [hZ0] at hzr0
  have hnx:=Aje (ps:=ps) (F:=F) hj
  rw [show mv1 bs F j=⟨2,CI bs j,a0,0,z - z0,0,0⟩ by unfold mv1;rw [hYA,hZ,hg0,hZ0]] at hnx
  have hap:=Ip hnx
  have hap2:=Ir hnx
  repeat' (with_reducible first|refine qq ?_|(refine Tx 66 ?_;refine gO xLt ?_)|(refine Tx 67 ?_;refine gO Acp <| gO Ze <| gO xA ?_)|(refine Tx 68 ?_;refine gO xF <| gO xD <| gO xM <| gO Aph <| gO xF <| gO (by first|exact xLi hjm Al|exact xLi gC Al|exact xLd Ax) <| gO Rt <| gO Ze <| gO xA ?_)|(refine AE (id:=69) 18 AJ (by kernel_rfl) ?_;dsimp only [List.take,List.drop];refine gP xF <| gP xD <| gP xM <| gP xM <| gP Acp <| gP Ze <| gP xM <| gP xM <| gP xM <| gP Acp <| gP Ze <| gP xM <| gP xM <| gP Acp <| gP Ze <| gP xSb <| gP (by exact AH rfl EN rfl rfl) <| gQ (by exact AZ rfl Bi Ca rfl rfl (by decide) (by decide)) ?_;refine Ke ?_;refine gT (by exact FG rfl rfl rfl rfl rfl rfl Bi Ca (by omega) (by decide) (by decide) rfl hap hap2) <| gO xF <| gZ Xw ?_)|(refine Tx 70 ?_;refine gO xAd <| gO xM ?_))
  exact MT
 obtain rfl:t=(dlK bs bs.length).length:=by omega
 clear hlt ht
 rw [←Ajd]
 repeat' (with_reducible first|refine qq ?_|(refine Tx 66 ?_;refine gO xLt ?_)|(refine Tx 71 ?_;refine gO xM <| gO xN <| gO xM ?_))
 refine AY (Bz 10) (Aq (fun n Fr H=>∃ t:Nat,t≤(dlK bs bs.length).length∧n=(dlK bs bs.length).length - t∧Fr=ofL [(1,vd (AM true F)),(2,vr 0),(4,vr 1),(5,vd (.val .nilIface)),(6,vd (AM false (Br (Bb bs)))),(10,vi bs.length),(11,vr 3),(12,vo 4 bs.length),(13,vo 5 bs.length),(14,vo 6 bs.length),(15,vo 7 ((dlK bs bs.length).length)),(448,vo 7 ((dlK bs bs.length).length)),(449,vi ((dlK bs bs.length).length)),(450,vi ((t:Nat)))]∧H=[.box 26 [.d (CU true ps),.d (Dw true bs),.d (AM true os)],.box 68 [.d (.val (.slice none 0 0)),.d (.val (.slice none 0 0)),.d (.val (.slice none 0 0)),.d (.val (.slice none 0 0))],.row 3 1 (bs.length+(dlK bs bs.length).length+2*(cpK bs bs.length).length) (cI (NT bs F)),.box 68 [.d (CU false ps),.own 2 (bs.length+(dlK bs bs.length).length+2*(cpK bs bs.length).length),.own 9 ((cdC ps bs F (t)).length),.d (.val (.slice none 0 0))],.row 3 1 (bs.length) (cI (tab bs.length (Fo bs F))),.row 3 1 (bs.length) (cI (tab bs.length (LP bs F))),.row 3 1 (bs.length) (cI (tab bs.length (CI bs))),.row 3 1 ((dlK bs bs.length).length) (cI (Br (dlK bs bs.length))),.row 3 1 ((cpK bs bs.length).length) (cI (Br (cpK bs bs.length))),.row 121 7 (cdC ps bs F (t)).length (cD (Ar Vm (cdC ps bs F (t))))]) (n0:=(dlK bs bs.length).length) ⟨0,af _,rfl,rfl,rfl⟩ ?_)
 rintro n Fr H ⟨t,ht,rfl,rfl,rfl⟩
 by_cases hlt:t<(dlK bs bs.length).length
 case pos =>
  obtain ⟨j,hj⟩:∃ j,(dlK bs bs.length)[t]?=some j:=⟨_,gE hlt⟩
  obtain ⟨hjn,hjk,hj3⟩:=Acc.1 hj
  have hjm:=Tj hj
  have hAl:=AfQ (ps:=ps) (bs:=bs) (F:=F) t
  obtain ⟨y,hy⟩:∃ y,bs[j]?=some y:=⟨_,gE hjn⟩
  obtain ⟨z,hz⟩:∃ z,F[j]?=some z:=⟨_,gE (by omega)⟩
  have hac:=El he hy
  have hYA:=Gf hy
  have hYK:=PF hy
  have hZ:=FO hz
  have hzr:=Dl hall j
  rw [hZ] at hzr
  have gC:(tab bs.length (CI bs))[j]?=some (CI bs j):=LQ hjn
  rw [hYK] at hjk
  have hyl:y.args.length=1:=by have h:=hac.2.1;unfold Ay at h;(repeat' split at h) <;> omega
  obtain ⟨a0,hA0⟩:∃ a,y.args[0]?=some a:=⟨_,gE (by omega)⟩
  have hr0:=hac.2.2 a0 (gM hA0)
  have hg0:BJ y=a0:=by unfold BJ;rw [hA0];rfl
  rw [show Cm ps.length bs.length y.kind=bs.length from if_neg (by omega)] at hr0
  obtain ⟨z0,hz0⟩:∃ z,F[a0.toNat]?=some z:=⟨_,gE (by omega)⟩
  have hZ0:=FO hz0
  have hzr0:=Dl hall a0.toNat
  rw [hZ0] at hzr0
  have hnx:cdC ps bs F (t+1)=cdC ps bs F t++[⟨2,j,CI bs j,0,0,0,0⟩]:=Ajf hj
  have hap:=Ip hnx
  have hap2:=Ir hnx
  repeat' (with_reducible first|refine qq ?_|(refine Tx 72 ?_;refine gO xLt ?_)|(refine Tx 73 ?_;refine gO Acp <| gO Ze <| gO xA ?_)|(refine AE (id:=74) 9 AJ (by kernel_rfl) ?_;dsimp only [List.take,List.drop];refine gP xF <| gP xD <| gP xM <| gP xM <| gP xM <| gP Acp <| gP Ze <| gP (by exact AH rfl EN rfl rfl) <| gQ (by exact AZ rfl Bi Ca rfl rfl (by decide) (by decide)) ?_;refine Ke ?_;refine gT (by exact FG rfl rfl rfl rfl rfl rfl Bi Ca (by omega) (by decide) (by decide) rfl hap hap2) <| gO xF <| gZ Xw ?_)|(refine Tx 75 ?_;refine gO xAd <| gO xM ?_))
  exact MT
 obtain rfl:t=(dlK bs bs.length).length:=by omega
 clear hlt ht
 rw [AfN]
 have hcl8:=AfQ (ps:=ps) (bs:=bs) (F:=F) (dlK bs bs.length).length
 rw [AfN] at hcl8
 have hV4:=hV.trans (cp_4 hle hall hcon)
 repeat' (with_reducible first|refine qq ?_|(refine Tx 72 ?_;refine gO xLt ?_)|(refine Tx 76 ?_;refine gO xF <| gO xD <| gO xN <| gO xM ?_))
 refine AY (Bz 10) (Aq (fun n Fr H=>∃ t:Nat,t≤(Ge ps bs F).length∧n=(Ge ps bs F).length - t∧((Ge ps bs F).take t).all Aua=true∧Fr=ofL [(1,vd (AM true F)),(2,vr 0),(4,vr 1),(5,vd (.val .nilIface)),(6,vd (AM false (Br (Bb bs)))),(10,vi bs.length),(11,vr 3),(12,vo 4 bs.length),(13,vo 5 bs.length),(14,vo 6 bs.length),(467,vo 9 ((Ge ps bs F).length)),(468,vi ((Ge ps bs F).length)),(469,vi ((t:Nat)))]∧H=[.box 26 [.d (CU true ps),.d (Dw true bs),.d (AM true os)],.box 68 [.d (.val (.slice none 0 0)),.d (.val (.slice none 0 0)),.d (.val (.slice none 0 0)),.d (.val (.slice none 0 0))],.row 3 1 (bs.length+(dlK bs bs.length).length+2*(cpK bs bs.length).length) (cI (NT bs F)),.box 68 [.d (CU false ps),.own 2 (bs.length+(dlK bs bs.length).length+2*(cpK bs bs.length).length),.own 9 ((Ge ps bs F).length),.d (.val (.slice none 0 0))],.row 3 1 (bs.length) (cI (tab bs.length (Fo bs F))),.row 3 1 (bs.length) (cI (tab bs.length (LP bs F))),.row 3 1 (bs.length) (cI (tab bs.length (CI bs))),.row 3 1 ((dlK bs bs.length).length) (cI (Br (dlK bs bs.length))),.row 3 1 ((cpK bs bs.length).length) (cI (Br (cpK bs bs.length))),.row 121 7 (Ge ps bs F).length (cD (Ar Vm (Ge ps bs F)))]) (n0:=(Ge ps bs F).length) ⟨0,af _,rfl,rfl,rfl,rfl⟩ ?_)
 rintro n Fr H ⟨t,ht,rfl,hsh,rfl,rfl⟩
 by_cases hlt:t<(Ge ps bs F).length
 case pos =>
  obtain ⟨x,hx⟩:∃ x,(Ge ps bs F)[t]?=some x:=⟨_,gE hlt⟩
  repeat' (with_reducible first|refine qq ?_|(refine Tx 77 ?_;refine gO xLt ?_)|(refine Tx 78 ?_;refine gO (xIo Bi) <| gO (by first|exact Pg rfl rfl (At.row rfl) FE (Aoz hx) rfl|exact xLa FE) <| gN (xAl Ca) <| gZ (xSk FE) ?_))
  by_cases hs:Aua x=true
  case pos =>
   have hs1:=of_decide_eq_true hs
   obtain ⟨q1,q2,q3,q4⟩:=hs1
   repeat' (with_reducible first|refine qq ?_|refine Xx ?_)
   refine ⟨_,_,Bz 10,_,?_,t+1,by omega,rfl,TW hx hsh hs,rfl,rfl⟩
   ·omega
  case neg =>
   have hV1:RJ ps bs os F=3:=hV4.trans (if_neg (fun ha=>hs (List.all_eq_true.1 ha x (gM hx))))
   have hs1:¬ (-62≤x.sa∧x.sa≤30 ∧ -62≤x.sb∧x.sb≤30):=fun h=>hs (decide_eq_true h)
   by_cases c27:x.sa < -62
   case pos =>
    repeat' (with_reducible first|refine qq ?_|refine Xx ?_)
    exact Ru
   by_cases c245:30<x.sa
   case pos =>
    repeat' (with_reducible first|refine qq ?_|refine Xx ?_)
    exact Ru
   by_cases c521:x.sb < -62
   case pos =>
    repeat' (with_reducible first|refine qq ?_|refine Xx ?_)
    exact Ru
   repeat' (with_reducible first|refine qq ?_|refine Xx ?_)
   exact Ru
 obtain rfl:t=(Ge ps bs F).length:=by omega
 rw [az] at hsh
 have hV5:=hV4.trans (if_pos hsh)
 repeat' (with_reducible first|refine qq ?_|(refine Tx 77 ?_;refine gO xLt ?_)|(refine Tx 82 ?_;refine gO (by exact Ql rfl Aa) <| gO xF <| gO xD <| gO (by exact Nv rfl rfl (.inl rfl) rfl (Xk _) Aa BK (hl.l3) (by decide) (by decide)) <| gO xF <| gZ Api ?_)|(refine Tx 83 ?_;refine gO xL <| gZ (xSk Bs) <| gO xA ?_))
 skip
 exact AN rfl (.cons_ (ZS rfl rfl Bs rfl (show AfH false (Ahk (RJ ps bs os F) ps) (Ahk (RJ ps bs os F) (NT bs F)) (Ahk (RJ ps bs os F) (Ge ps bs F)) (Ahk (RJ ps bs os F) os)=.agg [CU false ps,AM false (NT bs F),Ahh false (Ge ps bs F),AM false os] by rw [Xv hV5,Xv hV5,Xv hV5,Xv hV5];rfl) (AX rfl rfl (Bp rfl (fun _=>Dn.row (Ce TZ _))) (AX rfl rfl (YV rfl rfl hM rfl) (AX rfl rfl (Aay rfl rfl rfl fun _=>Ce ZR _) (AX rfl rfl (Bp rfl (fun _=>ZQ _)) (BM rfl rfl)))))) (.cons_ (Fv rfl hV5) .nil_))
end Go.Proofs.YtjlkgfeepocjfaaGreatDoor
