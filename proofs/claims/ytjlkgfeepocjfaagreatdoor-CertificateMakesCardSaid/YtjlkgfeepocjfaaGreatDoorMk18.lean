/- What the proofs of this claim share, part 18. No conditions. -/
import Derived.Test.YtjlkgfeepocjfaaGreatDoorMk17
import Derived.Test.YtjlkgfeepocjfaaGreatDoorMk16
import Derived.Test.YtjlkgfeepocjfaaGreatDoorMk12
import Derived.Test.YtjlkgfeepocjfaaGreatDoorMk15
import Derived.Test.YtjlkgfeepocjfaaGreatDoorMk9
import Derived.Test.YtjlkgfeepocjfaaGreatDoorMk11
import Derived.Test.YtjlkgfeepocjfaaGreatDoorMk5
set_option maxRecDepth 100000
set_option maxHeartbeats 8000000
set_option linter.all false
open Go.Proofs.Tryz
namespace Go.Proofs.YtjlkgfeepocjfaaGreatDoor
open Go.RowKit
variable {p p':Prop} {F:List Int} {n:Nat} {o:Oper} {E:List Pq} {a s:Int} {y:Bk} {w:Bool} {r:Iq}
theorem AgT (h:p:=by first|exact xIr Ae (Ay (LH hi))|exact xIo (i:=i) Ae):p:=h
theorem Aaj (h:p:=by first|exact AhT rfl rfl rfl rfl Aa tl stV|exact xSk Aa):p:=h
theorem AgU (h:p:=by first|exact AcL rfl rfl rfl ldV Aa|exact xLa DM):p:=h
theorem En (h:p:=by first|exact AcL rfl rfl rfl ldV Aa|exact xLa Aa):p:=h
theorem YK (h:p:=by first|exact AcL rfl rfl rfl ldV Aa|exact xLa Bd):p:=h
theorem AiN (k:p') (h:Hd9 p'→p:=by with_reducible first|(intro Z9;refine Tx 8 ?_;refine gO AgT <| gO xD <| gO xA ?_;exact Z9.o)|(intro Z9;refine Tx 9 ?_;refine gO xM <| gO xM <| gO AgU <| gO YK <| gO xM <| gO xM <| gO (xCl func62 BD (ha:=by with_unfolding_all first|((repeat' first|exact Br rfl rfl|refine AO rfl rfl ?_ ?_|refine Dn rfl rfl ?_|refine Cf rfl rfl ?_|exact Bi rfl (fun h=>by cases h)|exact Tb rfl rfl rfl) <;> fail)|fail)) <| gO (xCl func89 (UP)) <| gO (xIo (i:=i) Ag) <| gZ Aaj ?_;exact Z9.o)|(intro Z9;refine Tx 10 ?_;refine gO xM <| gO xM <| gO (xIo (i:=i) Ag) <| gO En <| gO (xCl func90 (FR)) ?_;exact Z9.o)|fail):p:=h ⟨k⟩
theorem Ve (k:p') (h:Hd9 p'→p:=by with_reducible first|(intro Z9;refine Tx 15 ?_;refine gO AgT <| gO xD <| gO xA ?_;exact Z9.o)|(intro Z9;refine Ax (id:=16) 12 AC (by kernel_rfl) ?_;dsimp only [List.take,List.drop];refine gP xM <| gP xM <| gP (xIo (i:=i) Ag) <| gP En <| gP AgU <| gP YK <| gP xM <| gP xM <| gP (xCl func62 BD (ha:=by with_unfolding_all first|((repeat' first|exact Br rfl rfl|refine AO rfl rfl ?_ ?_|refine Dn rfl rfl ?_|refine Cf rfl rfl ?_|exact Bi rfl (fun h=>by cases h)|exact Tb rfl rfl rfl) <;> fail)|fail)) <| gP (xCl func89 (UP)) <| gP (xCl func91 (MX)) <| gQ (xAl Aj) ?_;refine Ke ?_;refine gZ (xSk Aa) ?_;exact Z9.o)|(intro Z9;refine Bl (id:=17) AC (by kernel_rfl) ?_;refine gP En <| gP xM <| gP xM <| gP (xIo (i:=i) Ag) <| gP En <| gP (xCl func9 (CM)) <| gP xEq ?_;refine Ke ?_;exact Z9.o)|fail):p:=h ⟨k⟩
theorem YL (k:p') (h:Hd9 p'→p:=by with_reducible first|(intro Z9;refine Tx 18 ?_;refine gO xA ?_;exact Z9.o)|(intro Z9;refine Tx 19 ?_;refine gO xM <| gO xGe ?_;exact Z9.o)|(intro Z9;refine Tx 21 ?_;refine gO En <| gO (xCl func90 (FR)) ?_;exact Z9.o)|fail):p:=h ⟨k⟩
theorem YM (h:p:=by
 refine ⟨_,_,Gw _ 3 ?_ ?_ ?_,_,by omega,j+1,_,_,by omega,rfl,ho,hE.set (YF sX nX hf) nX i,rfl,rfl⟩
 ·rfl
 ·exact mB rfl rfl
 ·exact ⟨BS rfl,BS rfl,Pv,trivial⟩):p:=h
theorem YN (h:p:=by
 exact ⟨.inl rfl,[],by decide,.nil_,.tup (congrArg Array.toList results40) (.cons_ (.tmp rfl ⟨rfl,.val _⟩) (.cons_ (.tmp rfl ⟨rfl,.val _⟩) .nil_))⟩):p:=h
theorem AiO (h:p:=by
 refine ⟨_,_,Gw _ 3 ?_ ?_ ?_,_,by omega,j+1,_,by omega,rfl,ho,hE.set (YF sx nx hf) nx i,rfl,rfl⟩
 ·rfl
 ·exact mB rfl rfl
 ·exact ⟨BS rfl,BS rfl,Pv,trivial⟩):p:=h
theorem AiP (h:p:=by
 refine ⟨_,_,Gw _ 3 ?_ ?_ ?_,_,by omega,j+1,_,_,by omega,rfl,ho,hE,rfl,rfl⟩
 ·rfl
 ·exact mB rfl rfl
 ·exact ⟨BS rfl,BS rfl,Pv,trivial⟩):p:=h
theorem AiQ (h:p:=by
 refine ⟨_,_,Gw _ 3 ?_ ?_ ?_,m,by omega,r+1,E,by omega,hres,hE,rfl,rfl⟩
 ·rfl
 ·exact mB rfl rfl
 ·exact ⟨BS rfl,BS rfl,Pv,trivial⟩):p:=h
theorem AiR (h:p:=by first|exact Agk (n:=bs.length) rfl rfl rfl Ag Aj (by omega) (by decide)|exact BG rfl rfl rfl Ag Aj (by omega) (by decide)):p:=h
theorem DH (h:p:=by first|exact xNt|exact xNg):p:=h
theorem Vf (t:Bool) {ps:List Prt} {bs:List Bk} {os:List Int} (hl:Dx ps bs os) (h0:AY ps bs os=0) (c:Ct) (xd:D) (hF:WD bs c.F) (hR:c.R.length=bs.length) (sR:∀ p∈c.R,IwS p LB LB) {res:Option (List Pq)} (hres:erA ps bs c.F c.R=res):CVN prog Ah 40 [aDg t ps bs os,.agg (dCx true c xd),.one (AU false (BU (Co bs))),.one (AU false (BU (AX bs)))] (erW bs.length res) (erY bs.length res):=by
 refine Ny NL func40 rfl ntmps40 (ax rfl) ?_
 have hn:=hl.l2
 have hpn:=hl.l1
 have hnl:=BP (AX bs)
 have hol:=BP (Co bs)
 have hob:=Sl (bs:=bs)
 have hdb:=Fp bs
 repeat' (with_reducible first|refine qq ?_|(refine Tx 0 ?_;refine gN xBo <| gN xBo <| gO xA <| gO xA ?_)|(refine Tx 1 ?_;refine gO xF <| gO xD <| gO xN <| gN AiR <| gO xA ?_)|(refine Tx 2 ?_;refine gO xM ?_))
 refine AJ (YH 2 rfl fun _ _=>WE) ?_
 refine AJ (Be 3) (Al (fun n Fr H=>∃ (r:Nat) (E:List Pq),r+n=128∧erR ps bs c.F c.R n r E=res∧LZ bs E∧Fr=ofL [(2,vd (AU false (BU (Co bs)))),(3,vd (AU false (BU (AX bs)))),(4,vr 0),(5,vr 1),(10,vo 2 bs.length),(22,vi ((r:Nat)))]∧H=[.box 26 [.d (CY t ps),.d (Cw t bs),.d (AU t os)],.box 30 [.d (AU true c.F),.d (.row false 6 c.R.length (An (dIw false) c.R)),.d xd],.row 43 3 bs.length (cVs (E.map some))]) (n0:=128) ⟨0,_,rfl,hres,.zero bs,rfl,rfl⟩ ?_)
 clear hres
 rintro n Fr H ⟨r,E,hrn,hres,hE,rfl,rfl⟩
 cases n
 case zero =>
  have hres:none=res:=hres
  subst hres
  repeat' (with_reducible first|refine qq ?_|(refine Tx 3 ?_;refine gO xLt ?_)|(refine Tx 28 ?_;refine gO xA <| gO xA ?_))
  exact YN
 rename_i m
 unfold erR at hres
 obtain ⟨o,ho⟩:∃ o,erO ps bs c.F c.R (Co bs) E=o:=⟨_,rfl⟩
 rw [ho] at hres
 repeat' (with_reducible first|refine qq ?_|(refine Tx 3 ?_;refine gO xLt ?_)|(refine Tx 4 ?_;refine gO xM <| gO xA ?_)|(refine Tx 5 ?_;refine gO xA ?_)|(refine Tx 6 ?_;refine gO xM <| gO xN <| gO xM ?_))
 refine AJ (Be 3 (h:=by rw [←hol];exact mB rfl rfl)) (Al (fun n Fr H=>∃ (j:Nat) (E:List Pq),j≤(Co bs).length∧n=(Co bs).length - j∧erO ps bs c.F c.R ((Co bs).drop j) E=o∧LZ bs E∧Fr=ofL [(2,vd (AU false (BU (Co bs)))),(3,vd (AU false (BU (AX bs)))),(4,vr 0),(5,vr 1),(10,vo 2 bs.length),(11,vi ((r:Nat))),(12,vd (.val (.bool false))),(22,vi ((r:Nat))),(25,vd (AU false (BU (Co bs)))),(26,vi ((Co bs).length)),(27,vi ((j:Nat)))]∧H=[.box 26 [.d (CY t ps),.d (Cw t bs),.d (AU t os)],.box 30 [.d (AU true c.F),.d (.row false 6 c.R.length (An (dIw false) c.R)),.d xd],.row 43 3 bs.length (cVs (E.map some))]) (n0:=(Co bs).length) ⟨0,E,ad _,rfl,ho,hE,rfl,rfl⟩ ?_)
 clear ho hE
 rintro n Fr H ⟨j,E,hj,rfl,ho,hE,rfl,rfl⟩
 by_cases hlj:j<(Co bs).length
 case pos =>
  obtain ⟨i,hi⟩:∃ i,(Co bs)[j]?=some i:=⟨_,gE hlj⟩
  have hil:=(Pt hi).1
  obtain ⟨y,hy⟩:∃ y,bs[i]?=some y:=⟨_,gE hil⟩
  have B:=Aac h0 hy
  have hs2:=hF.sc i hil
  have hsa:y.kind≠0→∀ a∈y.args,0≤sG c.F a∧sG c.F a≤30:=fun k0 a ha=>by have:=B.all k0 a ha;exact hF.sc a.toNat (by omega)
  have BD:=Nq true xd t true os c E hE.len (WB hE.sm) i hy B hF.len hR sR hn hpn hs2 hsa
  unfold AgO at BD
  rw [hE.len] at BD
  obtain ⟨sb,sx,nx⟩:=Rn h0 hy hs2 sR hE
  have UP:=AdS _ (sb.more (by decide) (by decide))
  have hB:erB ps bs c.F c.R E i=upQ (AP ps c.F c.R E y (scA c.F i)):=by unfold erB;rw [LF hy]
  rw [←hB] at UP
  rw [Qd hi] at ho
  have tl:i<(E.map some).length:=by rw [af,hE.len];exact hil
  unfold erO at ho
  have FR:=YA (erB ps bs c.F c.R E i) (sx.more (by decide) (by decide))
  have stV:(E.map some).set i (some (erB ps bs c.F c.R E i))=(E.set i (erB ps bs c.F c.R E i)).map some:=(fg ..).symm
  have ldV:((E.set i (erB ps bs c.F c.R E i)).map some)[i]?=some (some (erB ps bs c.F c.R E i)):=by rw [ag,gy (by rw [hE.len];exact hil)];rfl
  clear hB hs2 hsa B sb
  generalize AP ps c.F c.R E y (scA c.F i)=b at *
  generalize erB ps bs c.F c.R E i=x at *
  cases hf:Rk x
  case true =>
   rw [hf] at FR ho
   rw [if_pos rfl] at ho
   subst ho
   have hres:none=res:=hres
   subst hres
   repeat' (with_reducible first|refine qq ?_|(refine Tx 7 ?_;refine gO xLt ?_)|refine AiN ?_|(refine Tx 11 ?_;refine gO xA <| gO xA ?_))
   exact YN
  rw [hf] at FR ho
  rw [if_neg (by decide)] at ho
  repeat' (with_reducible first|refine qq ?_|(refine Tx 7 ?_;refine gO xLt ?_)|refine AiN ?_|(refine Tx 12 ?_;refine gO xAd <| gO xM ?_))
  exact AiO
 obtain rfl:j=(Co bs).length:=by omega
 clear hlj hj
 rw [ew] at ho
 have ho:some E=o:=ho
 subst ho
 dsimp only at hres
 obtain ⟨w,hw⟩:∃ w,decide (64≤r)=w:=⟨_,rfl⟩
 rw [hw] at hres
 obtain ⟨o,ho⟩:∃ o,erD ps bs c.F c.R w (AX bs) E false=o:=⟨_,rfl⟩
 rw [ho] at hres
 repeat' (with_reducible first|refine qq ?_|(refine Tx 7 ?_;refine gO xLt ?_)|(refine Tx 13 ?_;refine gO xM <| gO xN <| gO xM ?_))
 refine AJ (Be 3 (h:=by rw [←hnl];exact mB rfl rfl)) (Al (fun n Fr H=>∃ (j:Nat) (E:List Pq) (b:Bool),j≤(AX bs).length∧n=(AX bs).length - j∧erD ps bs c.F c.R w ((AX bs).drop j) E b=o∧LZ bs E∧Fr=ofL [(2,vd (AU false (BU (Co bs)))),(3,vd (AU false (BU (AX bs)))),(4,vr 0),(5,vr 1),(10,vo 2 bs.length),(11,vi ((r:Nat))),(12,vd (.val (.bool b))),(22,vi ((r:Nat))),(46,vd (AU false (BU (AX bs)))),(47,vi ((AX bs).length)),(48,vi ((j:Nat)))]∧H=[.box 26 [.d (CY t ps),.d (Cw t bs),.d (AU t os)],.box 30 [.d (AU true c.F),.d (.row false 6 c.R.length (An (dIw false) c.R)),.d xd],.row 43 3 bs.length (cVs (E.map some))]) (n0:=(AX bs).length) ⟨0,E,false,ad _,rfl,ho,hE,rfl,rfl⟩ ?_)
 clear ho hE
 rintro n Fr H ⟨j,E,b,hj,rfl,ho,hE,rfl,rfl⟩
 by_cases hlj:j<(AX bs).length
 case pos =>
  obtain ⟨i,hi⟩:∃ i,(AX bs)[j]?=some i:=⟨_,gE hlj⟩
  have hil:=(Hv hi).1
  obtain ⟨y,hy⟩:∃ y,bs[i]?=some y:=⟨_,gE hil⟩
  have B:=Aac h0 hy
  have hs2:=hF.sc i hil
  have hsa:y.kind≠0→∀ a∈y.args,0≤sG c.F a∧sG c.F a≤30:=fun k0 a ha=>by have:=B.all k0 a ha;exact hF.sc a.toNat (by omega)
  have BD:=Nq true xd t true os c E hE.len (WB hE.sm) i hy B hF.len hR sR hn hpn hs2 hsa
  unfold AgO at BD
  rw [hE.len] at BD
  obtain ⟨sb,sx,nx⟩:=Rn h0 hy hs2 sR hE
  have UP:=AdS _ (sb.more (by decide) (by decide))
  have hB:erB ps bs c.F c.R E i=upQ (AP ps c.F c.R E y (scA c.F i)):=by unfold erB;rw [LF hy]
  rw [←hB] at UP
  rw [Qd hi] at ho
  have tl:i<(E.map some).length:=by rw [af,hE.len];exact hil
  obtain ⟨sM,nM⟩:=Aea h0 hy hs2 sR hE
  obtain ⟨sX,nX⟩:=Aeb h0 hy hs2 sR hE w
  obtain ⟨se,_⟩:=hE.at_ i
  unfold erD at ho
  have hX:erX ps bs c.F c.R w E i=if w=true then Tl (erM ps bs c.F c.R E i) else erM ps bs c.F c.R E i:=rfl
  have ldV:(E.map some)[i]?=some (some (E[i]?.getD (0,0))):=by rw [ag,gE (by rw [hE.len];exact hil)];rfl
  have MX:=FI (E[i]?.getD (0,0)).1 (E[i]?.getD (0,0)).2 (erB ps bs c.F c.R E i).1 (erB ps bs c.F c.R E i).2 se.ok sx.ok se.lz sx.lz
  rw [show FX (E[i]?.getD (0,0)).1 (E[i]?.getD (0,0)).2 (erB ps bs c.F c.R E i).1 (erB ps bs c.F c.R E i).2=erM ps bs c.F c.R E i from rfl] at MX
  have CM:=Ck (erM ps bs c.F c.R E i).1 (erM ps bs c.F c.R E i).2 (E[i]?.getD (0,0)).1 (E[i]?.getD (0,0)).2 sM.ok se.ok sM.lz se.lz
  have hq:Gf (erM ps bs c.F c.R E i) (E[i]?.getD (0,0))=Bm (erM ps bs c.F c.R E i).1 (erM ps bs c.F c.R E i).2 (E[i]?.getD (0,0)).1 (E[i]?.getD (0,0)).2:=rfl
  rw [hq] at ho
  have FR:=YA (erX ps bs c.F c.R w E i) (sX.more (by decide) (by decide))
  have stV:(E.map some).set i (some (erX ps bs c.F c.R w E i))=(E.set i (erX ps bs c.F c.R w E i)).map some:=(fg ..).symm
  have PW:=Aah (erM ps bs c.F c.R E i) sM
  clear hB hs2 hsa B sb hq
  generalize Bm (erM ps bs c.F c.R E i).1 (erM ps bs c.F c.R E i).2 (E[i]?.getD (0,0)).1 (E[i]?.getD (0,0)).2=q at *
  generalize AP ps c.F c.R E y (scA c.F i)=bb at *
  generalize erX ps bs c.F c.R w E i=X at *
  generalize erM ps bs c.F c.R E i=M at *
  generalize erB ps bs c.F c.R E i=x at *
  generalize hee:E[i]?.getD (0,0)=e at *
  by_cases hc:q=0
  case pos =>
   rw [if_pos hc] at ho
   repeat' (with_reducible first|refine qq ?_|(refine Tx 14 ?_;refine gO xLt ?_)|refine Ve ?_|(refine Tx 24 ?_;refine gO xAd <| gO xM ?_))
   exact AiP
  rw [if_neg hc] at ho
  cases w
  case false =>
   have hX:X=M:=hX
   subst hX
   have hw:=of_decide_eq_false hw
   cases hf:Rk X
   case true =>
    rw [hf] at FR ho
    rw [if_pos rfl] at ho
    subst ho
    have hres:none=res:=hres
    subst hres
    repeat' (with_reducible first|refine qq ?_|(refine Tx 14 ?_;refine gO xLt ?_)|refine Ve ?_|refine YL ?_|(refine Tx 22 ?_;refine gO xA <| gO xA ?_))
    exact YN
   rw [hf] at FR ho
   rw [if_neg (by decide)] at ho
   repeat' (with_reducible first|refine qq ?_|(refine Tx 14 ?_;refine gO xLt ?_)|refine Ve ?_|refine YL ?_|(refine Tx 23 ?_;refine gO xM <| gO xM <| gO En <| gO (xIo (i:=i) Ag) <| gZ Aaj ?_)|(refine Tx 24 ?_;refine gO xAd <| gO xM ?_))
   exact YM
  case true =>
   have hX:X=Tl M:=hX
   subst hX
   have hw:=of_decide_eq_true hw
   cases hf:Rk (Tl M)
   case true =>
    rw [hf] at FR ho
    rw [if_pos rfl] at ho
    subst ho
    have hres:none=res:=hres
    subst hres
    repeat' (with_reducible first|refine qq ?_|(refine Tx 14 ?_;refine gO xLt ?_)|refine Ve ?_|refine YL ?_|(refine Tx 20 ?_;refine gO En <| gO (xCl func92 (PW)) <| gZ (xSk Aa) ?_)|(refine Tx 22 ?_;refine gO xA <| gO xA ?_))
    exact YN
   rw [hf] at FR ho
   rw [if_neg (by decide)] at ho
   repeat' (with_reducible first|refine qq ?_|(refine Tx 14 ?_;refine gO xLt ?_)|refine Ve ?_|refine YL ?_|(refine Tx 20 ?_;refine gO En <| gO (xCl func92 (PW)) <| gZ (xSk Aa) ?_)|(refine Tx 23 ?_;refine gO xM <| gO xM <| gO En <| gO (xIo (i:=i) Ag) <| gZ Aaj ?_)|(refine Tx 24 ?_;refine gO xAd <| gO xM ?_))
   exact YM
 obtain rfl:j=(AX bs).length:=by omega
 clear hlj hj
 rw [ew] at ho
 have ho:some (E,b)=o:=ho
 subst ho
 dsimp only at hres
 cases b
 case false =>
  rw [if_neg (by decide)] at hres
  subst hres
  repeat' (with_reducible first|refine qq ?_|(refine Tx 14 ?_;refine gO xLt ?_)|(refine Tx 25 ?_;refine gO xM <| gO DH ?_)|(refine Tx 26 ?_;refine gO xM <| gO xA <| gO xA ?_))
  exact ⟨.inl rfl,[2],by decide,.cons_ ⟨congrArg some (congrArg (Ob.row _ 3 _) (YI _)),Ej _⟩ .nil_,.tup (congrArg Array.toList results40) (.cons_ (.tmp rfl ⟨2,_,rfl,rfl,rfl,rfl⟩) (.cons_ (.tmp rfl ⟨rfl,.val _⟩) .nil_))⟩
 rw [if_pos rfl] at hres
 repeat' (with_reducible first|refine qq ?_|(refine Tx 14 ?_;refine gO xLt ?_)|(refine Tx 25 ?_;refine gO xM <| gO DH ?_)|(refine Tx 27 ?_;refine gO xAd <| gO xM ?_))
 exact AiQ
theorem YO {xs:List Int} {k:Nat} {z:Int} (h:xs[k]?=some z):xs.set k z=xs:=by
 refine ef fun q=>?_
 rw [cn]
 split
 ·rename_i hq;subst hq;rw [if_pos (gS.1 h).1];exact h.symm
 ·rfl
theorem Tc (h:∀ f∈F,f≤((n+1:Nat):Int) - 1) (hl:Va F=true):1≤n:=by
 obtain ⟨f,hf,hp⟩:=List.any_eq_true.1 hl
 have:=h f hf
 have:=of_decide_eq_true hp
 omega
theorem AiS (h:∀ f∈F,f≤((n+1:Nat):Int) - 1) (n1:1≤n):∀ f∈Tm F,f≤(n:Int) - 1:=fun f hf=>by
 obtain ⟨g,hg,rfl⟩:=List.mem_map.1 hf
 have:=h g hg
 unfold AiJ
 split <;> omega
theorem Aen (k:p') (h:Hd9 p'→p:=by with_reducible first|(intro Z9;refine Tx 0 ?_;refine gN xBo <| gN (xAl DZ) <| gO xA <| gO xA ?_;exact Z9.o)|(intro Z9;refine Tx 1 ?_;refine gO xL <| gO (xCl func35 (OC)) <| gO xMt <| gO xEx <| gO xEx <| gO xA <| gO xA ?_;exact Z9.o)|(intro Z9;refine Tx 2 ?_;refine gO xM <| gO (xNE Am) ?_;exact Z9.o)|(intro Z9;refine Tx 4 ?_;refine gO xL <| gO (xCl func36 (DC)) <| gO xMt <| gO xEx <| gO xEx <| gO xA <| gO xA ?_;exact Z9.o)|(intro Z9;refine Tx 5 ?_;refine gO xM <| gO (xNE Am) ?_;exact Z9.o)|(intro Z9;refine Tx 7 ?_;refine gO xM <| gO xLt <| gO xM ?_;(first|iterate 2 refine Jd ?_|(refine Jy xM1 ?_;refine Jy xGt ?_));refine gO xPk ?_;exact Z9.o)|(intro Z9;refine Tx 9 ?_;refine gO xL <| gO xM <| gO (xCl func37 (RI)) <| gO xMt <| gO xEx <| gO xEx <| gO xA <| gO xA ?_;exact Z9.o)|fail):p:=h ⟨k⟩
theorem YP (h:p:=by first|exact Aeg rfl rfl rfl|exact xEx):p:=h
theorem AiT (k:p') (h:Hd9 p'→p:=by with_reducible first|(intro Z9;refine Tx 10 ?_;refine gO xM <| gO (xNE Am) ?_;exact Z9.o)|(intro Z9;refine Tx 12 ?_;refine gN (xAl DZ) ?_;exact Z9.o)|(intro Z9;refine Tx 13 ?_;refine gO xL <| gO xM <| gO (xCl func38 (EV)) <| gO xMt <| gO xEx <| gO xEx <| gO xF <| gZ (by first|exact xS1 Bg|exact xSk Bg) <| gO xA ?_;exact Z9.o)|(intro Z9;refine Tx 14 ?_;refine gO xM <| gO (xNE Am) ?_;exact Z9.o)|(intro Z9;refine Tx 16 ?_;refine gO xL <| gO xF <| gO xD ?_;refine Jl (by exact FN rfl func39 (by kernel_rfl) (by with_unfolding_all exact rfl) CH (by with_unfolding_all first|((repeat' first|exact Br rfl rfl|refine AO rfl rfl ?_ ?_|refine Dn rfl rfl ?_|refine Cf rfl rfl ?_|exact Bi rfl (fun h=>by cases h)|fail) <;> fail)|fail)) ?_;refine gO (by first|exact Aeh rfl rfl|exact Xo rfl rfl) <| gO YP <| gO YP <| gO xF <| gZ (by first|exact xS1 BJ|exact xSk BJ) <| gO xA ?_;exact Z9.o)|fail):p:=h ⟨k⟩
theorem Aeo (k:p') (h:Hd9 p'→p:=by with_reducible first|(intro Z9;refine Tx 19 ?_;refine gO xL <| gO xL <| gO xM <| gO xM ?_;refine Jl (by exact FN rfl func40 (by kernel_rfl) (by with_unfolding_all exact rfl) EC (by with_unfolding_all first|((repeat' first|exact Br rfl rfl|refine AO rfl rfl ?_ ?_|refine Dn rfl rfl ?_|refine Cf rfl rfl ?_|exact Bi rfl (fun h=>by cases h)|exact WF rfl rfl rfl) <;> fail)|fail)) ?_;refine gO (by first|exact Aeh rfl rfl|exact Xo rfl rfl) <| gO YP <| gO YP <| gO xA <| gO xA ?_;exact Z9.o)|(intro Z9;refine Tx 20 ?_;refine gO xM ?_;exact Z9.o)|fail):p:=h ⟨k⟩
theorem AiU (k:p') (h:Hd9 p'→p:=by with_reducible first|(intro Z9;refine Tx 28 ?_;refine gO xM <| gO (xIo (i:=k) Ae) <| gO (by first|exact xLi hla Az|exact xLd Az) <| gO xA <| gO xA ?_;exact Z9.o)|(intro Z9;refine Tx 29 ?_;refine gO xM <| gO xGt ?_;exact Z9.o)|(intro Z9;refine Tx 32 ?_;refine gO xAd <| gO xM ?_;exact Z9.o)|fail):p:=h ⟨k⟩
theorem AqC (k:p') (h:Hd9 p'→p:=by with_reducible first|(intro Z9;refine Tx 30 ?_;refine gO xF <| gO xD <| gO xM <| gO (xIo (i:=k) Ae) <| gO (by first|exact xLi hla Az|exact xLd Az) <| gO xSb <| gO (xIo (i:=k) Ae) <| gZ (by first|exact Ahx rfl rfl rfl rfl Az (by omega) hls|exact xS1 Az|exact xSk Az) ?_;exact Z9.o)|(intro Z9;refine Tx 31 ?_;refine gO xA ?_;exact Z9.o)|fail):p:=h ⟨k⟩
theorem AiV (k:p') (h:Hd9 p'→p:=by with_reducible first|(intro Z9;refine Tx 21 ?_;refine gO xM <| gO xF <| gZ (by first|exact xS1 AG|exact xSk AG) ?_;exact Z9.o)|(intro Z9;refine Tx 23 ?_;refine gO xM <| gO (by first|exact Dz rfl Am rfl (Qn rfl)|exact Dz rfl Am rfl (Qn (by first|rfl|omega))|exact Dz rfl Am rfl (TU (by first|assumption|omega))|exact Dz rfl Am rfl rfl) <| gO xM ?_;(first|refine Jd ?_|refine Jy xM1 ?_);refine gO xPk ?_;exact Z9.o)|fail):p:=h ⟨k⟩
theorem AiW (h:p:=by
 refine AJ (Be 4 (hH:=by rw [←hx2];rfl)) (Al (fun n Fr H=>∃ k:Nat,k≤bs.length∧n=bs.length - k∧Fr=ofL [(2,vr 0),(4,vr 1),(7,vd (AU false (BU (Co bs)))),(9,vd (AU false (BU (AX bs)))),(11,vr 2),(17,vd (.val (.bool (Va (F.take k))))),(101,vo 3 bs.length),(102,vi bs.length),(103,vi ((k:Nat)))]∧H=[.box 26 [.d (CY t ps),.d (Cw t bs),.d (AU t os)],.box 30 [.d (.val (.slice none 0 0)),.d (.val (.slice none 0 0)),.d (.val (.slice none 0 0))],.box 30 [.own 3 bs.length,.d (.row false 6 bs.length (An (dIw false) R)),.d x2],.row 3 1 bs.length (cI (Vd F (k)))]) (n0:=bs.length) ⟨0,ad _,rfl,rfl,rfl⟩ ?_)
 rintro m Fr H ⟨k,hk,rfl,rfl,rfl⟩
 have hFl:=hF.len
 by_cases hlt:k<bs.length
 case pos =>
  obtain ⟨z,hz⟩:∃ z,F[k]?=some z:=⟨_,gE (by omega)⟩
  obtain ⟨hla,hls,hlb2⟩:=Aem hz
  have hz2:=hF.in_ z (gM hz)
  have hll2:=YJ F k
  by_cases hzp:0<z
  case pos =>
   rw [show AiJ z=z - 1 from if_pos hzp] at hls
   rw [decide_eq_true hzp,Bool.or_true] at hlb2
   repeat' (with_reducible first|refine qq ?_|(refine Tx 27 ?_;refine gO xLt ?_)|refine AiU ?_|refine AqC ?_)
   refine ⟨_,_,Be 4 (h:=by rw [hlb2];exact mB rfl rfl),_,?_,k+1,by omega,rfl,rfl,rfl⟩
   ·omega
  rw [show AiJ z=z from if_neg hzp,show (Vd F k).set k z=Vd F k from YO hla] at hls
  rw [decide_eq_false hzp,Bool.or_false] at hlb2
  repeat' (with_reducible first|refine qq ?_|(refine Tx 27 ?_;refine gO xLt ?_)|refine AiU ?_)
  refine ⟨_,_,Be 4 (hH:=by rw [←hls];rfl) (h:=by rw [hlb2];exact mB rfl rfl),_,?_,k+1,by omega,rfl,rfl,rfl⟩
  ·omega
 obtain rfl:k=bs.length:=by omega
 have hle:Vd F bs.length=Tm F:=by unfold Vd;rw [aj (by omega),List.drop_of_length_le (by omega),bc]
 have hlt2:Va (F.take bs.length)=Va F:=by rw [aj (by omega)]
 rw [hle,hlt2]
 cases hlow:Va F
 case false =>
  rw [hlow,if_neg (by decide)] at hres
  subst hres
  repeat' (with_reducible first|refine qq ?_|(refine Tx 27 ?_;refine gO xLt ?_)|(refine Tx 33 ?_;refine gO xM <| gO DH ?_)|(refine Tx 34 ?_;refine gO (by exact AF rfl EO rfl rfl) <| gZ (xSk Bd) <| gO xA <| gO xA ?_))
  exact ⟨.inl rfl,[],by decide,.nil_,.tup (congrArg Array.toList results12) (.cons_ (IH Bd rfl rfl rfl (.cons_ ⟨rfl,.val _⟩ (.cons_ ⟨rfl,.val _⟩ (.cons_ ⟨rfl,.val _⟩ .nil_)))) (.cons_ (.tmp rfl ⟨rfl,.val _⟩) (.cons_ (.tmp rfl ⟨rfl,.val _⟩) .nil_)))⟩
 rw [hlow,if_pos rfl] at hres
 repeat' (with_reducible first|refine qq ?_|(refine Tx 27 ?_;refine gO xLt ?_)|(refine Tx 33 ?_;refine gO xM <| gO DH ?_))
 refine ⟨_,_,Gw _ 4 ?_ ?_ ?_,n,by omega,Tm F,x2,Tc hFn hlow,AiS hFn (Tc hFn hlow),hres,hF.low,rfl,rfl⟩
 ·rfl
 ·exact mB rfl rfl
 ·exact ⟨BS rfl,BS rfl,BS rfl,OY,trivial⟩):p:=h
theorem AiX (h:p:=by
 exact ⟨.inl rfl,[],by decide,.nil_,.tup (congrArg Array.toList results12) (.cons_ (IH Bd rfl rfl rfl (.cons_ ⟨rfl,.val _⟩ (.cons_ ⟨rfl,.val _⟩ (.cons_ ⟨rfl,.val _⟩ .nil_)))) (.cons_ (.tmp rfl ⟨rfl,.val _⟩) (.cons_ (.tmp rfl ⟨rfl,.val _⟩) .nil_)))⟩):p:=h
theorem Aak (t:Bool) {ps:List Prt} {bs:List Bk} {os:List Int} (hl:Dx ps bs os) (h0:AY ps bs os=0) (rd:Int) (r0:1≤rd) (r1:rd≤16) {f:Nat} {e:Int} {l:List Iq} (hf:f≤1000000000) (hres:La ps bs rd f=some (e,l)) (hI:(e=0∧PP bs l∧Dt ps bs l=false∧Wx ps bs l=true)∨((e=4∨e=22)∧l=[])):CVN prog Ah 12 [aDg t ps bs os,aI rd] (mkW bs.length (mkC ps bs os e l)) (mkY bs.length (mkC ps bs os e l)):=by
 refine Ny NL func12 rfl ntmps12 (ax rfl) ?_
 have OC:=(Sj t hl (ps:=ps) (bs:=bs) (os:=os)).cv
 have DC:=(Hr t hl (ps:=ps) (bs:=bs) (os:=os)).cv
 rw [if_pos h0,h0] at OC DC
 have RI:=Aab t hl h0 rd r0 r1 (e,l) f hf hres
 dsimp only at RI
 have hn:=hl.l2
 have hdb:=Fp bs
 rcases hI with ⟨rfl,hI,hb,_⟩|⟨hne,rfl⟩
 case inr =>
  have hne:e≠0:=by omega
  rw [show mkC ps bs os e []=none from if_neg fun h=>hne h.1]
  repeat' (with_reducible first|refine qq ?_|refine Aen ?_|(refine Tx 10 ?_;refine gO xM <| gO (by first|exact BN rfl Am rfl (Hl hne)|exact BN rfl Am rfl (OX (by first|rfl|omega))|exact BN rfl Am rfl (Hl (by first|assumption|omega))|exact BN rfl Am rfl rfl) ?_)|(refine Tx 11 ?_;refine gO (by exact AF rfl EO rfl rfl) <| gZ (xSk Bd) <| gO xA <| gO xA ?_))
  exact AiX
 have hlb:=hI.lb hb
 have hll:=hI.len
 have EV:=UI t hl (l.map Rh) (Ri hI.iw (by decide)) (by rw [af];omega)
 rw [Yv h0 hI.iw hll,IC,LM,if_neg (by rw [hb];decide),Un rfl] at EV
 unfold AeT at EV RI
 have hR:(rgV ps bs l).length=bs.length:=LL
 have sR:=Wy h0 hlb hll hb
 have hm:mkC ps bs os 0 l=if (rgV ps bs l).all pkB=true then mkL ps bs os (rgV ps bs l) 31 ((rgV ps bs l).map pkS) else none:=by
  by_cases h:(rgV ps bs l).all pkB=true
  ·rw [if_pos h];exact if_pos ⟨rfl,h⟩
  ·rw [if_neg h];exact if_neg fun hc=>h hc.2
 rw [hm]
 clear hm hres
 generalize rgV ps bs l=R at *
 have CH:=Aai t hl h0 R hR sR
 rw [hR] at CH EV
 cases hp:R.all pkB
 case false =>
  rw [hp] at CH
  rw [if_neg (by decide)]
  repeat' (with_reducible first|refine qq ?_|refine Aen ?_|refine AiT ?_|(refine Tx 17 ?_;refine gO xM <| gO (by first|exact BN rfl Am rfl (Hl (by decide))|exact BN rfl Am rfl (OX (by first|rfl|omega))|exact BN rfl Am rfl (Hl (by first|assumption|omega))|exact BN rfl Am rfl rfl) ?_)|(refine Tx 18 ?_;refine gO (by exact AF rfl EO rfl rfl) <| gZ (xSk Bd) <| gO xA <| gO xA ?_))
  exact AiX
 rw [hp] at CH
 rw [if_pos rfl]
 have hF0:=Amm hR hp
 repeat' (with_reducible first|refine qq ?_|refine Aen ?_|refine AiT ?_|(refine Tx 17 ?_;refine gO xM <| gO (xNE Am) ?_))
 refine AJ (Be 4 (hH:=by rw [Amo];rfl)) (Al (fun n Fr H=>∃ (F:List Int) (xd:D),1≤n∧(∀ f∈F,f≤(n:Int) - 1)∧mkL ps bs os R n F=mkL ps bs os R 31 (R.map pkS)∧WD bs F∧Fr=ofL [(2,vr 0),(4,vr 1),(7,vd (AU false (BU (Co bs)))),(9,vd (AU false (BU (AX bs)))),(11,vr 2)]∧H=[.box 26 [.d (CY t ps),.d (Cw t bs),.d (AU t os)],.box 30 [.d (.val (.slice none 0 0)),.d (.val (.slice none 0 0)),.d (.val (.slice none 0 0))],.box 30 [.own 3 bs.length,.d (.row false 6 bs.length (An (dIw false) R)),.d xd],.row 3 1 bs.length (cI F)]) (n0:=31) ⟨R.map pkS,_,by decide,fun f hf=>by have:=hF0.in_ f hf;omega,rfl,hF0,rfl,rfl⟩ ?_)
 clear CH EV RI OC DC
 rintro n Fr H ⟨F,xd,n1,hFn,hres,hF,rfl,rfl⟩
 cases n
 case zero=>omega
 rename_i n
 generalize mkL ps bs os R 31 (R.map pkS)=res at *
 unfold mkL mkT at hres
 have EC:=fun r (h:erA ps bs F R=r)=>Vf t hl h0 ⟨F,R,[]⟩ xd hF hR sR h
 unfold dCx AU at EC
 dsimp only at EC
 rw [hF.len,hR] at EC
 rcases hA:erA ps bs F R with _|E
 case none =>
  have EC:=EC _ hA
  rw [hA] at hres
  have hres:(if Va F=true then mkL ps bs os R n (Tm F) else none)=res:=hres
  repeat' (with_reducible first|refine qq ?_|refine Aeo ?_|(refine Tx 25 ?_;refine gO xA ?_)|(refine Tx 26 ?_;refine gO xF <| gO xD <| gO xN <| gO xM ?_))
  obtain ⟨x2,hx2⟩:∃ x2,xd=x2:=⟨_,rfl⟩
  exact AiW
 have EC:=EC _ hA
 rw [hA] at hres
 have hE:=Aed h0 hF.sc sR hA
 have VC:=LS t hl F (R.map Rh) (E.map DU) (Ri sR (by decide)) (er_L hE) (by rw [hF.len];exact hn) (by rw [af,hR];exact hn) (by rw [af,hE.len];exact hn)
 rw [Aef h0 hF hR sR hE,ArV] at VC
 generalize vfP ps bs os F (R.map Rh) (E.map DU)=vp at VC
 unfold dCt AU at VC
 dsimp only at VC
 rw [hF.len,hE.len,hR] at VC
 have hres:(match (if vfA ps bs os F R E=true then some E else none) with|some E=>some ⟨F,R,E⟩|none=>if Va F=true then mkL ps bs os R n (Tm F) else none)=res:=hres
 have hv2:vfE ps bs os F (R.map Rh) (E.map DU)=vfA ps bs os F R E:=rfl
 rw [hv2] at VC
 cases hv:vfA ps bs os F R E
 case true =>
  rw [hv] at VC hres
  rw [if_pos rfl] at hres
  dsimp only at hres
  subst hres
  repeat' (with_reducible first|refine qq ?_|refine Aeo ?_|refine AiV ?_|(refine Tx 22 ?_;refine gO xL <| gO xL <| gO (by exact IG rfl func6 (by kernel_rfl) (by with_unfolding_all exact rfl) rfl VC (by with_unfolding_all exact AO rfl rfl ⟨true,Cf rfl rfl (AO rfl rfl (Bi rfl (fun h=>by cases h)) (AO rfl rfl (Bi rfl (fun h=>by cases h)) (AO rfl rfl (Bi rfl (fun h=>by cases h)) (Br rfl rfl))))⟩ (AO rfl rfl ⟨false,Cf rfl rfl (AO rfl rfl (WF rfl rfl rfl) (AO rfl rfl (Bi rfl (fun _=>.row (BV (f:=dIw false) Eh R))) (AO rfl rfl (Dc rfl rfl rfl (Fe rfl (Ej E))) (Br rfl rfl))))⟩ (Br rfl rfl)))) <| gO xMt <| gO xEx <| gO (by exact CQ rfl rfl rfl) <| gO xEx <| gN (xAl CN) <| gO xA <| gZ (xSk AV) <| gO xA ?_)|(refine Tx 24 ?_;refine gO xL <| gZ (xSk Bd) <| gO xA <| gO xA ?_))
  exact ⟨.inl rfl,[3,4],by decide,.cons_ ⟨congrArg some (congrArg (Ob.row _ 1 _) (Amo _)),Di _⟩ (.cons_ ⟨rfl,Ej _⟩ .nil_),.tup (congrArg Array.toList results12) (.cons_ (IH Bd rfl rfl rfl (.cons_ ⟨3,_,rfl,rfl,rfl,rfl⟩ (.cons_ ⟨rfl,.row (BV (f:=dIw false) Eh _)⟩ (.cons_ ⟨4,_,rfl,rfl,rfl,rfl⟩ .nil_)))) (.cons_ (.tmp rfl ⟨rfl,.val _⟩) (.cons_ (.tmp rfl ⟨rfl,.val _⟩) .nil_)))⟩
 rw [hv] at VC hres
 rw [if_neg (by decide)] at hres
 dsimp only at hres
 repeat' (with_reducible first|refine qq ?_|refine Aeo ?_)
 refine AJ (EG (ds:=An dyP E) 12 4 rfl rfl) ?_
 repeat' (with_reducible first|refine qq ?_|refine AiV ?_|(refine Tx 22 ?_;refine gO xL <| gO xL <| gO (by exact IG rfl func6 (by kernel_rfl) (by with_unfolding_all exact rfl) rfl VC (by with_unfolding_all exact AO rfl rfl ⟨true,Cf rfl rfl (AO rfl rfl (Bi rfl (fun h=>by cases h)) (AO rfl rfl (Bi rfl (fun h=>by cases h)) (AO rfl rfl (Bi rfl (fun h=>by cases h)) (Br rfl rfl))))⟩ (AO rfl rfl ⟨false,Cf rfl rfl (AO rfl rfl (WF rfl rfl rfl) (AO rfl rfl (Bi rfl (fun _=>.row (BV (f:=dIw false) Eh R))) (AO rfl rfl (Bi rfl (fun _=>.row (Ej E))) (Br rfl rfl))))⟩ (Br rfl rfl)))) <| gO xMt <| gO xEx <| gO (by exact CQ rfl rfl rfl) <| gO xEx <| gN (xAl CN) <| gO xA <| gZ (xSk AV) <| gO xA ?_)|(refine Tx 25 ?_;refine gO xA ?_)|(refine Tx 26 ?_;refine gO xF <| gO xD <| gO xN <| gO xM ?_))
 obtain ⟨x2,hx2⟩:∃ x2,D.row false 3 bs.length (An dyP E)=x2:=⟨_,rfl⟩
 exact AiW
theorem Amp {ps:List Prt} {bs:List Bk} {os:List Int} (h0:AY ps bs os=0) {e:Int} {l:List Iq} (hI:(e=0∧PP bs l∧Dt ps bs l=false∧Wx ps bs l=true)∨((e=4∨e=22)∧l=[])) {c:Ct} (hm:mkC ps bs os e l=some c):AgQ ps bs os c∧WD bs c.F∧c.R.length=bs.length∧(∀ p∈c.R,IwS p LB LB)∧LZ bs c.E∧vfA ps bs os c.F c.R c.E=true:=by
 unfold mkC at hm
 by_cases hc:e=0∧(rgV ps bs l).all pkB=true
 case neg=>rw [if_neg hc] at hm;cases hm
 rw [if_pos hc] at hm
 rcases hI with ⟨_,hI,hb,_⟩|⟨hne,_⟩
 ·have sR:=Wy h0 (hI.lb hb) hI.len hb
  obtain ⟨a,b,d,f,g⟩:=Aee h0 sR _ _ _ (Amm LL hc.2) hm
  rw [←d] at sR g
  exact ⟨a,b,by rw [d];exact LL,sR,f,g⟩
 ·omega
theorem Qe (x:Int) (d den:Nat) (hn:Nf x d) (hl:(Ac x.natAbs).length≤40000) (hd:den≤65536):CVF prog Ah 177 [aDy false x d,aI (den:Int)] [aDy false (Bo x d den).1 (Bo x d den).2,aI 0]:=fun w S vs hg hlt ha=>by
 obtain ⟨v,vs',rfl,h1,ha⟩:=ha.uncons
 obtain ⟨u,hu,h2⟩:=BM ha
 subst hu
 cases h2
 exact (Ug (Hd h1 hlt hn) (aa _) (lT hl (by decide)) hd).mono fun r w' ⟨v,he,hd,hb⟩=>⟨_,he,Na (FG hd) (Bx.val rfl),hb⟩
theorem AiY (h:p:=by first|exact xCl func105 (N1.cv)|exact xCl func105 (N2.cv)):p:=h
theorem YQ (x:Int) (d den:Nat) (hn:Nf x d) (hl:(Ac x.natAbs).length≤40000) (hd:den≤65536):CV prog Ah 178 [aDy false x d,aI (den:Int)] [aDy false (ZR (x,d) den).1 (ZR (x,d) den).2,aI 0]:=by
 refine cvz func178 ntmps178 ?_
 have N1:=LD Ah false x d hn (lT hl (by decide))
 have hn2:Nf (-x) d:=⟨hn.1,fun h0=>by have:=hn.2 h0;omega⟩
 have hl2:(Ac (-x).natAbs).length≤40000:=by rw [jb];exact hl
 have FL:=Qe (-x) d den hn2 hl2 hd
 have hn3:=Ya (x := -x) (d:=d) (den:=den) hn2 hd
 have hl3:=PB (d:=d) (den:=den) hl2
 have N2:=LD Ah false _ _ hn3 (lT hl3 (by decide))
 repeat' (with_reducible first|refine qq ?_|(refine Tx 0 ?_;refine gN xBo <| gN (xAl Aj) <| gO xA ?_)|(refine Tx 1 ?_;refine gO xL <| gO AiY <| gO xM <| gO (xCl func177 (FL.cv)) <| gO xMt <| gO (by exact CQ rfl rfl rfl) <| gO xEx <| gN (xAl Aj) <| gZ (xSk Aa) <| gO xA ?_)|(refine Tx 2 ?_;refine gO xL <| gO AiY <| gO xM <| gZ (xSk Aa) <| gO xA ?_))
 exact Au rfl (.cons_ (rvW Aa rfl) (.cons_ (Lw rfl rfl) .nil_))
theorem CJ (h:p:=by
 exact Au rfl (.cons_ (rvW Aa rfl) .nil_)):p:=h
theorem AiZ (x:Pq) (sx:Sm x 40064 40000):CV prog Ah 113 [aDy false x.1 x.2] [aDy false (upQ x).1 (upQ x).2]:=by
 refine cvz func113 ntmps113 ?_
 have CE:=YQ x.1 x.2 62 sx.ok sx.lz (by decide)
 repeat' (with_reducible first|refine qq ?_|(refine Tx 0 ?_;refine gN xBo <| gN (xAl Aj) ?_)|(refine Tx 1 ?_;refine gO xL <| gO (xCl func178 (CE)) <| gO xMt <| gO (by exact CQ rfl rfl rfl) <| gO xEx <| gN (xAl Aj) <| gZ (xSk Aa) <| gO xA ?_)|(refine Tx 2 ?_;refine gO xL <| gZ (xSk Aa) ?_))
 exact CJ
section
variable {P:Program} {G:World→Prop} {ops:Array Oper}
theorem AZ.pre {F:Frm} {H H':List Ob} {x:X} (h:AZ P G o F H x []) (hp:H <+: H'):AZ P G o F H' x []:=fun b0 m a h1 h2 h3 h4 h5 h6 K Q hK=>by
 rw [bc] at h1
 refine h b0 m a (by rw [bc];exact hp.trans h1) h2 h3 h4 (fun k hk=>absurd hk (fo _)) h6 K Q fun v w' es hn hv=>?_
 have he:es=[]:=bz hn.len
 subst he
 have e:m.plus w' H.length []=m.plus w' H'.length []:=by
  unfold Mm.plus
  congr 1
  funext id
  rw [if_neg (by simp),if_neg (by simp)]
 rw [e] at hv
 exact hK v w' [] ⟨rfl,hn.below,fun k e he=>by simp at he,.nil⟩ hv
structure AgV (b0 N:Nat) (w0:World) (S0:SD) (ops:Array Oper) (Fs:Nat→Frm) (H H1 H2:List Ob) (s:Nat) (listed:Array Bool) (a:Act) (m:Mm):Prop where
 H:m.H=if listed.getD (s+1) true=true then H2 else if listed.getD s true=true then H1 else H
 seq:listed.getD (s+1) true=true→listed.getD s true=true
 cx:Cx b0 m
 tot:Tot m
 frame:∀ t,(∀ (i:Nat) (o:Oper),ops[i]?=some o→listed.getD i true=false→o.dst≠some t)→FU m (Fs ops.size t) (a.tmps.getD t undef)
 size:a.tmps.size=N
 defers:a.defers=S0.ds
 below:Below b0 w0 m.w
 base:b0≤w0.heap.size
 S:∀ b,m.S false b→S0 false b∨b0≤b
 T:m.S true=S0 true
 ls:listed.size=ops.size
theorem AgW {b0 N:Nat} {w0:World} {S0:SD} (hG:∀ w',Below b0 w0 w'→G w') {md:Region.Mode} {Q:Exit→Act→World→Prop} (hC:VF md ops=true) (hd:Th N ops.toList=true)
  {Fs:Nat→Frm} {H H1 H2:List Ob} {xs:Nat→X} {s:Nat} (hss:s+1<ops.size) (p1:H <+: H1) (p2:H <+: H2) (hws:∀ o,ops[s+1]?=some o→∃ e∈o.after,Region.binds md e=true∧e.on=s)
  (hs:∀ (i:Nat) (o:Oper),ops[i]?=some o→Fs (i+1)=(Fs i).put o.dst (xs i)∧((CS ops o (Fs i) false∧xs i=.tup []∧i≠s∧i≠s+1)∨(CS ops o (Fs i) true∧((i≠s∧i≠s+1∧AZ P G o (Fs i) H (xs i) [])∨(i=s∧TOk P G o (Fs i) H (xs i) H1)∨(i=s+1∧TOk P G o (Fs i) H1 (xs i) H2)))))
  (hq:∀ a m,m.H=H2→St b0 N w0 S0 (Fs ops.size) a m→Q .normal a m.w) :
  ∀ (f:Nat) (listed:Array Bool) (a:Act) (m:Mm),AgV b0 N w0 S0 ops Fs H H1 H2 s listed a m→Afe listed≤f→wpAny P md ops Q f listed a m.w:=by
 have opAt:∀ i,i<ops.size→∃ o,ops[i]?=some o:=fun i hi=>⟨_,ir hi⟩
 have keep:∀ t d i,i+d≤ops.size→(∀ (k:Nat) (o:Oper),i≤k→k<i+d→ops[k]?=some o→o.dst≠some t)→Fs (i+d) t=Fs i t:=fun t d=>by
  induction d with
  | zero=>intro i _ _;rfl
  | succ d ih =>
   intro i hi hk
   obtain ⟨o,ho⟩:=opAt (i+d) (by omega)
   rw [show i+(d+1)=i+d+1 by omega,(hs _ o ho).1,IQ,if_neg (hk (i+d) o (by omega) (by omega) ho)]
   exact ih i (by omega) fun k o' h1 h2=>hk k o' h1 (by omega)
 have look:∀ i o t,ops[i]?=some o→t∈o.looksAt ops→Fs ops.size t=Fs i t:=fun i o t ho ht=>by
  have hi:=(Array.getElem?_eq_some_iff.1 ho).1
  have:=keep t (ops.size - i) i (by omega) fun k o' h1 _ hk hdst=>by
   have:=((FA hC ho).2 k o' t hk hdst).1 ht
   omega
  rwa [show i+(ops.size - i)=ops.size by omega] at this
 have out:∀ i o t,ops[i]?=some o→o.dst=some t→Fs ops.size t=xs i:=fun i o t ho ht=>by
  have hi:=(Array.getElem?_eq_some_iff.1 ho).1
  have:=keep t (ops.size - (i+1)) (i+1) (by omega) fun k o' h1 _ hk hdst=>((FA hC ho).2 k o' t hk hdst).2 (by omega) ht
  rw [show i+1+(ops.size - (i+1))=ops.size by omega,(hs i o ho).1,IQ,if_pos ht] at this
  exact this
 have fin:∀ (listed:Array Bool) (a:Act) (m:Mm),AgV b0 N w0 S0 ops Fs H H1 H2 s listed a m→Region.ready md ops listed=[]→Q .normal a m.w:=fun listed a m inv hr=>by
  have all:∀ i,i<ops.size→listed.getD i true=true:=by
   intro i
   induction i using Nat.strongRecOn with
   | _ i ih =>
    intro hi
    cases hl:listed.getD i true with
    | true=>rfl
    | false =>
     exfalso
     obtain ⟨o,ho⟩:=opAt i hi
     have:i∈Region.ready md ops listed:=mem_ready.2 ⟨hl,o,ho,fun e he hb=>by
      have hlt:=(FA hC ho).1 e he hb
      have:=ih e.on hlt (by omega)
      have hsz:=inv.ls
      rw [←Fz (by omega)]
      exact this⟩
     rw [hr] at this
     cases this
  refine hq a m (by rw [inv.H,if_pos (all (s+1) hss)]) ⟨inv.cx,inv.tot,fun t=>inv.frame t fun i o ho hl=>?_,inv.size,inv.defers,inv.below,inv.base,inv.S,inv.T⟩
  have:=all i (Array.getElem?_eq_some_iff.1 ho).1
  rw [hl] at this
  cases this
 have next:∀ (listed:Array Bool) (i:Nat) (a:Act) (m:Mm),AgV b0 N w0 S0 ops Fs H H1 H2 s listed a m→i∈Region.ready md ops listed→∀ K:Act→World→Prop,
   (∀ a' m',AgV b0 N w0 S0 ops Fs H H1 H2 s (listed.setIfInBounds i true) a' m'→K a' m'.w)→wpOp P ops Q i K a m.w:=fun listed i a m inv hr K hK=>by
  obtain ⟨hun,o,ho,hall⟩:=mem_ready.1 hr
  have hi:=(Array.getElem?_eq_some_iff.1 ho).1
  have hd0:∀ d,o.dst=some d→d<N:=VE hd (by simpa using Array.mem_of_getElem? ho)
  have getSet:∀ j,j≠i→(listed.setIfInBounds i true).getD j true=listed.getD j true:=fun j hj=>getD_set_ne true (Ne.symm hj)
  have getSame:(listed.setIfInBounds i true).getD i true=true:=by simp [Array.getD,inv.ls,hi]
  have hlook:∀ t∈o.looksAt ops,FU m (Fs i t) (a.tmps.getD t undef):=fun t ht=>by
   rw [←look i o t ho ht]
   refine inv.frame t fun k ok hok hkl hdst=>?_
   obtain ⟨h1,e,he,hb,hon⟩:=((FA hC ho).2 k ok t hok hdst).1 ht
   have h2:=hall e he hb
   rw [hon] at h2
   have hsz:=inv.ls
   rw [←Fz (by have:=(Array.getElem?_eq_some_iff.1 hok).1;omega),hkl] at h2
   cases h2
  have reFrame:∀ (m':Mm) (v:Value),Le m m'→FU m' (xs i) v→∀ t,(∀ (k:Nat) (ok:Oper),ops[k]?=some ok→(listed.setIfInBounds i true).getD k true=false→ok.dst≠some t)→FU m' (Fs ops.size t) ((a.put o.dst v).tmps.getD t undef):=fun m' v hle hv t ht=>by
   rw [RD inv.size hd0]
   split
   ·rename_i hdst
    rw [out i o t ho hdst]
    exact hv
   ·rename_i hdst
    refine (inv.frame t fun k ok hok hkl=>?_).le hle
    by_cases hki:k=i
    ·subst hki
     rw [ho] at hok
     cases hok
     exact hdst
    ·exact ht k ok hok (by rw [getSet k hki];exact hkl)
  obtain ⟨hF,hcase⟩:=hs i o ho
  unfold wpOp
  simp only [ho]
  rcases hcase with ⟨hw,hx,his,his2⟩|⟨hw,hok⟩
  ·rw [if_neg (by rw [hw.is (m:=m) (tmps:=a.tmps) hlook];simp)]
   exact hK _ m ⟨by rw [getSet s (fun h=>his h.symm),getSet (s+1) (fun h=>his2 h.symm)];exact inv.H,by rw [getSet s (fun h=>his h.symm),getSet (s+1) (fun h=>his2 h.symm)];exact inv.seq,inv.cx,inv.tot,reFrame m undef (Le.refl m) (by rw [hx];exact ⟨[],rfl,.nil_⟩),by rw [Ij];exact inv.size,by rw [Eq];exact inv.defers,inv.below,inv.base,inv.S,inv.T,by simp [inv.ls]⟩
  ·rw [if_pos (hw.is (m:=m) (tmps:=a.tmps) hlook)]
   have go:∀ (Ha Hb:List Ob),m.H=Ha→(Hb=if (listed.setIfInBounds i true).getD (s+1) true=true then H2 else if (listed.setIfInBounds i true).getD s true=true then H1 else H)→((listed.setIfInBounds i true).getD (s+1) true=true→(listed.setIfInBounds i true).getD s true=true)→TOk P G o (Fs i) Ha (xs i) Hb→(o.wp P a m.w K Q):=fun Ha Hb e1 e2 e3 ht=>by
    refine ht b0 m a e1 inv.cx inv.tot (hG _ inv.below) (lT inv.base inv.below.size) (fun t ht=>hlook t (TE ht)) _ _ fun v m' hH hx ht' hle hb hS hv=>?_
    exact hK _ m' ⟨by rw [hH,e2],e3,hx,ht',reFrame m' v hle hv,by rw [Ij];exact inv.size,by rw [Eq];exact inv.defers,inv.below.trans hb,inv.base,fun b hb'=>(hS b hb').elim (inv.S b) .inr,hle.T.trans inv.T,by simp [inv.ls]⟩
   refine .inl ?_
   rcases hok with ⟨his,his2,h1⟩|⟨his,h1⟩|⟨his,h1⟩
   ·have g1:=getSet s (fun h=>his h.symm)
    have g2:=getSet (s+1) (fun h=>his2 h.symm)
    have hp:H <+: m.H:=by
     rw [inv.H]
     split
     ·exact p2
     split
     ·exact p1
     exact ks _
    exact go m.H m.H rfl (by rw [g1,g2];exact inv.H) (by rw [g1,g2];exact inv.seq) (h1.pre hp).tok0
   ·subst his
    have g2:=getSet (i+1) (by omega)
    have h0:listed.getD (i+1) true=false:=by
     cases hl:listed.getD (i+1) true with
     | false=>rfl
     | true=>have:=inv.seq hl;rw [hun] at this;cases this
    exact go H H1 (by rw [inv.H,hun,h0];simp) (by rw [g2,h0,getSame];simp) (fun _=>getSame) h1
   ·subst his
    have g1:=getSet s (by omega)
    obtain ⟨e,he,hbe,hon⟩:=hws o ho
    have h3:=hall e he hbe
    rw [hon] at h3
    have h4:listed.getD s true=true:=by rw [Fz (by have:=inv.ls;omega)];exact h3
    exact go H1 H2 (by rw [inv.H,hun,h4];simp) (by rw [getSame];simp) (fun _=>by rw [g1];exact h4) h1
 intro f
 induction f with
 | zero =>
  intro listed a m inv hc
  have hr:Region.ready md ops listed=[]:=by
   cases hr:Region.ready md ops listed with
   | nil=>rfl
   | cons i r =>
    have h1:=(mem_ready.1 (show i∈Region.ready md ops listed by rw [hr];simp)).1
    have:=NZ h1
    omega
  exact ⟨hr,fin listed a m inv hr⟩
 | succ f ih =>
  intro listed a m inv hc
  refine ⟨fun hr=>fin listed a m inv hr,fun i hi=>next listed i a m inv hi _ fun a' m' inv'=>ih _ a' m' inv' ?_⟩
  have:=NZ (mem_ready.1 hi).1
  omega
end
section
variable {P:Program} {G:World→Prop} {N:Nat} {F:Frm} {H:List Ob} {Q:Aas}
theorem ArZ {id:Nat} {l:List Oper} (s:Nat) (ob2:Ob) (hm:P.follows .mixedOrders=true) (hB:(Th N l && VF .any (l.take (s+2)).toArray && MO .any l.toArray (s+2) && (l[s+1]?.any fun o=>o.after.any fun e=>Region.binds .any e && decide (e.on=s)))=true)
  (h:Ch2 P G (l.take (s+2)).toArray (l.take s) F H H fun F1=>∃ o d x o2 ob,l[s]?=some o∧o.dst=some d∧o.guard=none∧AZ P G o F1 H x [ob]∧l[s+1]?=some o2∧o2.dst=none∧o2.guard=none∧TOk P G o2 (F1.put (some d) x) (H++[ob]) .any (H++[ob2])∧Ti P G l.toArray (l.drop (s+2)) (F1.put (some d) x) (H++[ob2]) (Q .normal)):CW P G N (.region id l.toArray true) F H Q:=fun b0 w0 S0 a m hG hH hs=>by
 subst hH
 simp only [ai] at hB
 obtain ⟨⟨⟨hd,hC⟩,hp⟩,hwt⟩:=hB
 have hd1:Th N (l.take (s+2))=true:=List.all_eq_true.2 fun o ho=>List.all_eq_true.1 hd o (fe ho)
 have hd2:Th N (l.drop (s+2))=true:=List.all_eq_true.2 fun o ho=>List.all_eq_true.1 hd o (jl ho)
 have hn:s+2<l.length:=by
  have:=hp
  simp only [MO,ai,decide_eq_true_eq,kt] at this
  exact this.1.1.1.1
 have hsz:(l.take (s+2)).toArray.size=s+2:=by simp;omega
 refine FP (s+2) hm hp ?_
 obtain ⟨Fs,xs,h1,⟨o,d,x,o2,ob,ho,hdst,hgd,hT,ho2,hdst2,hgd2,hT2,hTi⟩,h4⟩:=h.seq
 have hls:(l.take s).length=s:=by simp;omega
 rw [hls] at hT hT2 hTi
 have hs':=hs.drew
 let Fs':Nat→Frm:=fun i=>if i≤s then Fs i else (Fs s).put (some d) x
 let xs':Nat→X:=fun i=>if i<s then xs i else if i=s then x else .any
 have hget:∀ i o',(l.take (s+2)).toArray[i]?=some o'→(i<s∧(l.take s)[i]?=some o')∨(i=s∧o'=o)∨(i=s+1∧o'=o2):=fun i o' hi=>by
  rw [kw] at hi
  have hlt:=(gS.1 hi).1
  have hlt:i<s+2:=by simp at hlt;omega
  rw [kh hlt] at hi
  rcases Nat.lt_trichotomy i s with h|h|h
  ·exact .inl ⟨h,by rw [kh h];exact hi⟩
  ·subst h
   rw [ho] at hi
   cases hi
   exact .inr (.inl ⟨rfl,rfl⟩)
  ·obtain rfl:i=s+1:=by omega
   rw [ho2] at hi
   cases hi
   exact .inr (.inr ⟨rfl,rfl⟩)
 refine AgW (G:=G) (w0:=w0) (S0:=S0) (b0:=b0) hG hC (N:=N) (by simpa using hd1) (Fs:=Fs') (xs:=xs') (H:=m.H) (H1:=m.H++[ob]) (H2:=m.H++[ob2]) (s:=s) (by rw [hsz];omega) (jo _ _) (jo _ _) (fun o' ho'=>?_) (fun i o' hi=>?_) (fun a' m' hH' hst=>?_) (s+2) (Array.replicate (s+2) false) a { m with w:=m.w.drew } ?_ (by simp [Afe])
 ·rcases hget _ _ ho' with ⟨h,_⟩|⟨h,_⟩|⟨_,rfl⟩
  ·omega
  ·omega
  rw [ho2] at hwt
  simp only [Option.any_some,Array.any_eq_true',ai,decide_eq_true_eq] at hwt
  obtain ⟨e,e1,e2,e3⟩:=hwt
  exact ⟨e,e1,e2,e3⟩
 ·rcases hget i o' hi with ⟨hlt,hg⟩|⟨rfl,rfl⟩|⟨rfl,rfl⟩
  ·obtain ⟨h5,h6⟩:=h4 i o' hg
   have e1:Fs' (i+1)=Fs (i+1):=if_pos (by omega)
   have e2:Fs' i=Fs i:=if_pos (by omega)
   have e3:xs' i=xs i:=if_pos hlt
   rw [e1,e2,e3]
   refine ⟨h5,?_⟩
   rcases h6 with ⟨h7,h8⟩|⟨h7,h8,h9⟩
   ·exact .inl ⟨h7,h8,by omega,by omega⟩
   ·exact .inr ⟨h7,.inl ⟨by omega,by omega,h8⟩⟩
  ·have e1:Fs' (i+1)=(Fs i).put (some d) x:=if_neg (by omega)
   have e2:Fs' i=Fs i:=if_pos (aa _)
   have e3:xs' i=x:=by
    show (if i<i then _ else if i=i then x else _)=x
    rw [if_neg (by omega),if_pos rfl]
   rw [e1,e2,e3,hdst]
   exact ⟨rfl,.inr ⟨by unfold CS;rw [hgd],.inr (.inl ⟨rfl,hT.tok⟩)⟩⟩
  ·have e1:Fs' (s+1+1)=(Fs s).put (some d) x:=if_neg (by omega)
   have e2:Fs' (s+1)=(Fs s).put (some d) x:=if_neg (by omega)
   have e3:xs' (s+1)=.any:=by
    show (if s+1<s then _ else if s+1=s then x else _)=_
    rw [if_neg (by omega),if_neg (by omega)]
   rw [e1,e2,e3,hdst2]
   exact ⟨rfl,.inr ⟨by unfold CS;rw [hgd2],.inr (.inr ⟨rfl,hT2⟩)⟩⟩
 ·rw [hsz] at hst
  have e1:Fs' (s+2)=(Fs s).put (some d) x:=if_neg (by omega)
  rw [e1] at hst
  rw [←hH'] at hTi
  exact Zm hG (l.drop (s+2)) _ a' m' (Q .normal) hd2 hst hTi fun F'' a'' m'' k1 k2=>⟨F'',m'',rfl,k1,k2⟩
 ·refine ⟨?_,?_,hs'.cx,hs'.tot,fun t ht=>?_,hs'.size,hs'.defers,hs'.below,hs'.base,hs'.S,hs'.T,by simp;omega⟩
  ·have e0:(Array.replicate (s+2) false).getD s true=false:=by simp [Array.getD]
   have e1:(Array.replicate (s+2) false).getD (s+1) true=false:=by simp [Array.getD]
   rw [e0,e1]
   rfl
  ·intro h
   have e1:(Array.replicate (s+2) false).getD (s+1) true=false:=by simp [Array.getD]
   rw [e1] at h
   cases h
  ·rw [hsz]
   have hno:∀ (i:Nat) (o':Oper),i<s+2→l[i]?=some o'→o'.dst≠some t:=fun i o' hlt hi=>by
    refine ht i o' ?_ (by simp [Array.getD];omega)
    rw [kw,kh hlt]
    exact hi
   have ka:∀ k,k≤s→Fs k t=F t:=fun k hk=>by
    induction k with
    | zero=>rw [h1]
    | succ k ih =>
     have hk2:(l.take s)[k]?=some ((l.take s)[k]'(by simp;omega)):=gE _
     have hk3:=hk2
     rw [kh (by omega)] at hk3
     rw [(h4 k _ hk2).1,IQ,if_neg (hno k _ (by omega) hk3)]
     exact ih (by omega)
   have e1:Fs' (s+2) t=F t:=by
    show (if s+2≤s then Fs (s+2) else (Fs s).put (some d) x) t=F t
    rw [if_neg (by omega),IQ,if_neg (by rw [←hdst];exact hno s o (by omega) ho)]
    exact ka s (aa _)
   rw [e1]
   exact hs'.frame t
theorem Aal {G:World→Prop} {F:Frm} {H H2:List Ob} {t:TypeId} {x y:Operand} {id off k:Nat} {kk:Option Nat} {ob:Ob} {cy:List C} {b:Bool} (ho:o.op=.store t x y) (hx:F.ev x=.one (.ref id off kk)) (hH:H[id]?=some ob) (hk:ob.k=some kk) (hy:ES (F.ev y)=some cy) (hty:TyK P t b k) (hlen:Nat.beq cy.length k=true) (hoff:off+cy.length≤ob.cs.length) (h2:H.set id (ob.setC (ob.cs.take off++cy++ob.cs.drop (off+cy.length)))=H2) :
  TOk P G o F H .any H2:=h2 ▸ Mi ho hx hH hk hy hty hlen hoff
theorem Asa {l:List Oper} {s:Nat} {o2:Oper} {d:Tmp} {x:X} {F:Frm} {H:List Ob} {ob ob2:Ob} {K:Frm→List Ob→Prop} {ops:Array Oper} {l2:List Oper} (ho:l[s]?=some o) (hd:o.dst=some d) (hg:o.guard=none) (ht:AZ P G o F H x [ob]) (ho2:l[s+1]?=some o2) (hd2:o2.dst=none) (hg2:o2.guard=none) (ht2:TOk P G o2 (F.put (some d) x) (H++[ob]) .any (H++[ob2])) (hk:Ti P G ops l2 (F.put (some d) x) (H++[ob2]) K) :
  ∃ o d x o2 ob,l[s]?=some o∧o.dst=some d∧o.guard=none∧AZ P G o F H x [ob]∧l[s+1]?=some o2∧o2.dst=none∧o2.guard=none∧TOk P G o2 (F.put (some d) x) (H++[ob]) .any (H++[ob2])∧Ti P G ops l2 (F.put (some d) x) (H++[ob2]) K   := ⟨o,d,x,o2,ob,ho,hd,hg,ht,ho2,hd2,hg2,ht2,hk⟩
end
theorem Aep {q:Pq} (hq:Nf q.1 q.2):decide (q=Bo q.1 q.2 0)=decide (q.2=0):=by
 by_cases h:q.2=0
 ·rw [decide_eq_true h]
  refine decide_eq_true ?_
  unfold Bo
  rw [if_pos (gz h)]
 ·rw [decide_eq_false h]
  refine decide_eq_false fun he=>h ?_
  have h2:(Bo q.1 q.2 0).2≤0:=by
   unfold Bo
   rw [if_neg (by omega)]
   exact Vv _ _
  rw [←he] at h2
  omega
theorem Asb (hE:∀ p∈E,Sm p LB LB):mvP F E s a=DP (eG E a) (ixP (decide (s<sG F a)) s):=by
 unfold mvP ixP
 by_cases h:sG F a≤s
 ·rw [if_pos h,decide_eq_false (by omega),if_neg (by decide)]
  exact (FW (Fy hE a).ok.2).symm
 ·rw [if_neg h,decide_eq_true (by omega),if_pos rfl]
theorem Aeq (s:Int) (s0 : -30≤s) (s1:s≤30):CV prog Ah 116 [aI s] [aDy false (pw s).1 (pw s).2]:=by
 refine cvz func116 ntmps116 ?_
 have OF:=(Nd (G:=Ah) 1 (by decide) (by decide)).cv
 have SH:=(Ee (G:=Ah) false 1 0 s ⟨by decide,fun h=>absurd rfl h⟩ (lT (Aw (k:=2) (by decide)) (by decide)) (by omega)).cv
 repeat' (with_reducible first|refine qq ?_|(refine Tx 0 ?_;refine gN (xAl Aj) ?_)|(refine Tx 1 ?_;refine gO (xCl func34 (OF)) <| gO xM <| gO (xCl func33 (SH)) <| gZ (xSk Aa) ?_))
 exact CJ
theorem Ew (s:Int) (s0:0≤s) (s1:s≤30) (b:Bool):CV prog Ah 192 [aI s,aB b] [aDy false (ixP b s).1 (ixP b s).2]:=by
 refine cvz func192 ntmps192 ?_
 have OF:=(Nd (G:=Ah) 0 (by decide) (by decide)).cv
 have PW:=Aeq (-s) (by omega) (by omega)
 cases b
 case true =>
  rw [show ixP true s=pw (-s) from rfl]
  repeat' (with_reducible first|refine qq ?_|(refine Tx 0 ?_;refine gN (xAl Aj) ?_)|(refine Tx 1 ?_;refine gO xM <| gO DH ?_)|(refine Tx 3 ?_;refine gO xM <| gO DH <| gO (xCl func116 (PW)) <| gZ (xSk Aa) ?_))
  exact CJ
 case false =>
  rw [show ixP false s=(0,0) from rfl]
  repeat' (with_reducible first|refine qq ?_|(refine Tx 0 ?_;refine gN (xAl Aj) ?_)|(refine Tx 1 ?_;refine gO xM <| gO DH ?_)|(refine Tx 2 ?_;refine gO (xCl func34 (OF)) <| gZ (xSk Aa) ?_))
  exact CJ
theorem Dg (h:p:=by
 exact Au rfl (.cons_ (Db rfl (rfl)) .nil_)):p:=h
theorem GJ (n e f:Int) (hs:DN n e) (f0:0≤f) (f1:f≤30):CV prog Ah 193 [.agg [dI n,dI e],aI f] [aB (Bn n e f)]:=by
 refine cvz func193 ntmps193 ?_
 have hs2:=hs
 unfold DN at hs2
 have RV:=(EF (G:=Ah) n e (by omega) (by omega)).cv
 have sm:=EP hs
 have SH:=(Ee (G:=Ah) false (Af n 0 e).1 (Af n 0 e).2 f sm.ok sm.lz (by have:=sm.ok.1;omega)).cv
 have sq:=Fq sm f0 f1
 obtain ⟨q,hq⟩:∃ q,GN (Af n 0 e) f=q:=⟨_,rfl⟩
 rw [show Af (Af n 0 e).1 (Af n 0 e).2 f=q from hq] at SH
 rw [hq] at sq
 have FL:=(Qe q.1 q.2 0 sq.ok sq.lz (by decide)).cv
 have lf:=PB (d:=q.2) (den:=0) (k:=700) (sq.lenN 700 (by decide))
 have SM:=GH false false q (Bo q.1 q.2 0) sq.lz (lT lf (by decide))
 rw [Aep sq.ok] at SM
 rw [show Bn n e f=decide (q.2=0) by unfold Bn;rw [hq]]
 generalize Bo q.1 q.2 0=w at *
 repeat' (with_reducible first|refine qq ?_|(refine Tx 0 ?_;refine gN xBo <| gO xA ?_)|(refine Tx 1 ?_;refine gO xL <| gO (xCl func173 (RV)) <| gO xM <| gO (xCl func33 (SH)) <| gN (xAl Aj) <| gZ (xSk Aa) ?_)|(refine Tx 2 ?_;refine gO xL <| gO (xCl func177 (FL)) <| gO xMt <| gO (by exact CQ rfl rfl rfl) <| gO xEx <| gN (xAl Aj) <| gZ (xSk Aa) <| gO xA ?_)|(refine Tx 3 ?_;refine gO xL <| gO xL <| gO (xCl func99 (SM)) <| gO xA ?_))
 exact Dg
theorem Ex (p q:Pq) {n d n2 d2:Nat} (h:Sm p n d) (h2:Sm q n2 d2) (l1:n≤640000) (l2:n2≤640000):CV prog Ah 191 [aDy false p.1 p.2,aDy false q.1 q.2] [aDy false (DP p q).1 (DP p q).2]:=by
 refine cvz func191 ntmps191 ?_
 have AD:=(Po Ah false false p.1 p.2 q.1 q.2 h.ok h2.ok (lT (h.lenN 20000 (by omega)) (by decide)) (lT (h2.lenN 20000 (by omega)) (by decide))).cv
 repeat' (with_reducible first|refine qq ?_|(refine Tx 0 ?_;refine gN xBo <| gN xBo <| gN (xAl Aj) ?_)|(refine Tx 1 ?_;refine gO xL <| gO xL <| gO (xCl func197 (AD)) <| gZ (xSk Aa) ?_))
 exact CJ
theorem GK (p q:Pq) {n d n2 d2:Nat} (h:Sm p n d) (h2:Sm q n2 d2) (l1:n≤640000) (l2:n2≤640000) (hd:d+d2≤65536):CV prog Ah 195 [aDy false p.1 p.2,aDy false q.1 q.2] [aDy false (CG p q).1 (CG p q).2]:=by
 refine cvz func195 ntmps195 ?_
 have AD:=Pn p.1 p.2 q.1 q.2 h.ok h2.ok (lT (h.lenN 20000 (by omega)) (by decide)) (lT (h2.lenN 20000 (by omega)) (by decide)) (by have:=h.d;have:=h2.d;omega)
 repeat' (with_reducible first|refine qq ?_|(refine Tx 0 ?_;refine gN xBo <| gN xBo <| gN (xAl Aj) ?_)|(refine Tx 1 ?_;refine gO xL <| gO xL <| gO (xCl func217 (AD)) <| gZ (xSk Aa) ?_))
 exact CJ
theorem Qf (x:Pq) (f:Int) (sx:Sm x 20000 20000) (f0:0≤f) (f1:f≤30):CV prog Ah 202 [aDy false x.1 x.2,aI f] [aB (GS x f)]:=by
 refine cvz func202 ntmps202 ?_
 have SH:=(Ee (G:=Ah) false x.1 x.2 f sx.ok sx.lz (by have:=sx.ok.1;omega)).cv
 have st:=Fq sx f0 f1
 obtain ⟨T,hT⟩:∃ T,GN x f=T:=⟨_,rfl⟩
 rw [show Af x.1 x.2 f=T from hT] at SH
 rw [hT] at st
 have OF:=(Nd (G:=Ah) 2147483647 (by decide) (by decide)).cv
 have CM:=(Ef (G:=Ah) false false T.1 T.2 2147483647 0 st.ok ⟨by decide,fun h=>absurd rfl h⟩ st.lz (lT (Aw (k:=2) (by decide)) (by decide))).cv
 have hb:GS x f=decide (Bm T.1 T.2 2147483647 0≤0):=by unfold GS;rw [hT]
 rw [hb]
 generalize Bm T.1 T.2 2147483647 0=q at *
 repeat' (with_reducible first|refine qq ?_|(refine Tx 0 ?_;refine gN xBo <| gO xA ?_)|(refine Tx 1 ?_;refine gO xL <| gO xM <| gO (xCl func33 (SH)) <| gO (xCl func34 (OF)) <| gO (xCl func115 (CM)) <| gO xLe <| gO xA ?_))
 exact Dg
theorem MF (a:Iq) (h:IwS a 20000 20000):CV prog Ah 174 [aIw false a] [aDy false (Fu a).1 (Fu a).2]:=by
 refine cvz func174 ntmps174 ?_
 have AB:=Yj a h
 repeat' (with_reducible first|refine qq ?_|(refine Tx 0 ?_;refine gN xBo <| gN (xAl Aj) ?_)|(refine Tx 1 ?_;refine gO xL <| gO (xCl func189 (AB)) <| gO (by exact TG rfl rfl AI Aa rfl) <| gZ (xSk Aa) ?_))
 exact CJ
def abQ (x:Pq):Pq:=pw (min (NT 50000 (-62) x) 64)
theorem Aja {k:Int} (h0:41≤k) (h1:k≤40064):Rk (pw k)=true:=by
 refine decide_eq_true (Int.not_le.1 fun h=>?_)
 have h2:=(Hx (p:=pw k) (q:=(1099511627776,0)) (ME (by omega) h1).le (by decide)).1 h
 rw [Py,EL (by omega) (by omega)] at h2
 have e:(1099511627776:Int)*2 ^ GQ=2 ^ (40+GQ):=by rw [ak];congr 1
 rw [e] at h2
 have h3:(2:Int) ^ (40+GQ)<2 ^ (65536+k).toNat:=by
  have h4:(2:Int) ^ (41+GQ)≤2 ^ (65536+k).toNat:=Ta (by have:GQ=65536:=rfl;omega)
  have h5:(2:Int) ^ (41+GQ)=2 ^ (40+GQ)*2:=by rw [show 41+GQ=40+GQ+1 by omega,fw]
  have h6:=Bf (40+GQ)
  omega
 omega
theorem Amq {x:Pq} (hx:Sm x 40064 62):Rk (abQ x)=Rk (Tl x)∧(Rk (Tl x)=false→abQ x=Tl x)∧Sm (abQ x) 40065 62:=by
 obtain ⟨h0,h1⟩:=AdZ hx 50000 (-62) (by decide) (by decide)
 unfold abQ Tl
 generalize NT 50000 (-62) x=K at *
 by_cases hk:K≤64
 ·rw [show min K 64=K by omega]
  exact ⟨rfl,fun _=>rfl,ME h0 h1⟩
 ·rw [show min K 64=64 by omega,Aja (k:=64) (by decide) (by decide),Aja (k:=K) (by omega) h1]
  exact ⟨rfl,(fun h=>by cases h),ME (by decide) (by decide)⟩
theorem Aer {x:Pq}:∀ (n:Nat) (k:Int),k≤NT n k x
 | 0,k=>ci _
 | n+1,k=>by
  unfold NT
  split
  ·have:=Aer (x:=x) n (k+1)
   omega
  ·exact ci _
theorem Asc {x:Pq} {k:Int} (k0 : -62≤k) (k1:k≤64) (h:NT (50000 - (k+62).toNat) k x=NT 50000 (-62) x):(Gf (pw k) x<0→NT (50000 - (k+1+62).toNat) (k+1) x=NT 50000 (-62) x)∧(¬ Gf (pw k) x<0→abQ x=pw k)∧(k=64→abQ x=pw k):=by
 obtain ⟨m,hm⟩:∃ m,50000 - (k+62).toNat=m+1:=⟨50000 - (k+62).toNat - 1,by omega⟩
 have hm2:50000 - (k+1+62).toNat=m:=by omega
 rw [hm] at h
 rw [hm2]
 refine ⟨fun hc=>?_,fun hc=>?_,fun hk=>?_⟩
 ·rw [←h,NT,if_pos hc]
 ·rw [NT,if_neg hc] at h
  unfold abQ
  rw [←h,show min k 64=k by omega]
 ·have:=Aer (x:=x) (m+1) k
  rw [h] at this
  unfold abQ
  rw [show min (NT 50000 (-62) x) 64=k by omega]
theorem AgX {i:Nat} {a:Pq}:((List.replicate n a).map some).set i (some a)=(List.replicate n a).map some:=by
 rw [List.map_replicate]
 refine ef fun j=>?_
 rw [cn]
 by_cases h:i=j
 ·subst h
  rw [if_pos rfl,jm,ep]
 ·rw [if_neg h]
theorem pw40:pw 40=(1099511627776,0):=by decide
theorem YS (s:Int) (s0 : -64≤s) (s1:s≤64):CV prog Ah 116 [aI s] [aDy false (pw s).1 (pw s).2]:=by
 refine cvz func116 ntmps116 ?_
 have OF:=(Nd (G:=Ah) 1 (by decide) (by decide)).cv
 have SH:=(Ee (G:=Ah) false 1 0 s ⟨by decide,fun h=>absurd rfl h⟩ (lT (Aw (k:=2) (by decide)) (by decide)) (by omega)).cv
 repeat' (with_reducible first|refine qq ?_|(refine Tx 0 ?_;refine gN (xAl Aj) ?_)|(refine Tx 1 ?_;refine gO (xCl func34 (OF)) <| gO xM <| gO (xCl func33 (SH)) <| gZ (xSk Aa) ?_))
 exact CJ
theorem Aes (k:p') (h:Hd9 p'→p:=by with_reducible first|(intro Z9;refine Bl (id:=2) AC (by kernel_rfl) ?_;refine gP xM <| gP (xCl func116 (PW)) <| gP xL <| gP (xCl func115 (CM)) <| gP xLt <| gP xM ?_;(first|iterate 2 refine Kd ?_|(refine Ky xM1 ?_;refine Ky xLt ?_));refine gP xPk ?_;refine Ke ?_;exact Z9.o)|fail):p:=h ⟨k⟩
theorem WG (x:Pq) (sx:Sm x 40064 62):CV prog Ah 118 [aDy false x.1 x.2] [aDy false (abQ x).1 (abQ x).2]:=by
 refine cvz func118 ntmps118 ?_
 repeat' (with_reducible first|refine qq ?_|(refine Tx 0 ?_;refine gN xBo <| gN (xAl Aj) ?_)|(refine Tx 1 ?_;refine gO xA ?_))
 refine AJ (Be 2) (Al (fun n Fr H=>∃ k:Int,-62≤k∧k≤64∧n=(64 - k).toNat∧NT (50000 - (k+62).toNat) k x=NT 50000 (-62) x∧Fr=ofL [(1,vr 0),(2,vr 1),(3,vi k)]∧H=[.box 43 ((dyP x).map C.d),.box 43 [.d (.val (.bool false)),.d (.val (.slice none 0 0)),.d (.val (.int .i64 0))]]) (n0:=126) ⟨-62,by decide,by decide,by decide,rfl,rfl,rfl⟩ ?_)
 rintro n Fr H ⟨k,k0,k1,rfl,hres,rfl,rfl⟩
 obtain ⟨g1,g2,g3⟩:=Asc k0 k1 hres
 have sp:=ME k0 (show k≤40064 by omega)
 have PW:=YS k (by omega) (by omega)
 have CM:=(Ef (G:=Ah) false false (pw k).1 (pw k).2 x.1 x.2 sp.ok sx.ok sp.lz sx.lz).cv
 have hqe:Gf (pw k) x=Bm (pw k).1 (pw k).2 x.1 x.2:=rfl
 rw [hqe] at g1 g2
 clear hqe sp
 generalize Bm (pw k).1 (pw k).2 x.1 x.2=q at *
 by_cases hc:q<0
 case neg =>
  rw [g2 hc]
  repeat' (with_reducible first|refine qq ?_|refine Aes ?_|(refine Tx 4 ?_;refine gO xM <| gO (xCl func116 (PW)) <| gZ (xSk Aa) ?_))
  exact CJ
 by_cases hk:k<64
 case neg =>
  rw [g3 (by omega)]
  repeat' (with_reducible first|refine qq ?_|refine Aes ?_|(refine Tx 4 ?_;refine gO xM <| gO (xCl func116 (PW)) <| gZ (xSk Aa) ?_))
  exact CJ
 repeat' (with_reducible first|refine qq ?_|refine Aes ?_|(refine Tx 3 ?_;refine gO xM <| gO xAd <| gO xA ?_))
 refine ⟨_,_,Be 2,_,by omega,k+1,by omega,by omega,rfl,g1 hc,rfl,rfl⟩
def mvL (F:List Int) (E:List Pq) (s:Int) (y:Bk):List Pq:=y.args.map (mvP F E s)
theorem AqD {u:Nat} (h:y.args[u]?=some a):(mvL F E s y)[u]?=some (mvP F E s a):=by unfold mvL;rw [ag,h];rfl
theorem Amr:(mvL F E s y).length=y.args.length:=af ..
theorem AgY (h:y.args[0]?=some a):∃ X,mvL F E s y=mvP F E s a::X:=by
 unfold mvL
 cases hl:y.args with
 | nil=>rw [hl] at h;cases h
 | cons x l=>rw [hl] at h;cases h;exact ⟨_,rfl⟩
theorem AgZ {b:Int} (h:y.args[0]?=some a) (h1:y.args[1]?=some b):∃ X,mvL F E s y=mvP F E s a::mvP F E s b::X:=by
 unfold mvL
 rcases hl:y.args with _|⟨x,_|⟨z,l⟩⟩
 ·rw [hl] at h;cases h
 ·rw [hl] at h1;cases h1
 ·rw [hl] at h h1;cases h;cases h1;exact ⟨_,rfl⟩
theorem Ajb (k:p') (h:Hd9 p'→p:=by with_reducible first|(intro Z9;refine Tx 0 ?_;refine gN xBo <| gN xBo <| gN (xAl Aj) ?_;exact Z9.o)|(intro Z9;refine ArZ (id:=1) 10 (.box 65 [.d (.val (.int .i64 y.kind)),.d (AU t y.args),.d (.val (.int .i64 y.vn)),.d (.val (.int .i64 y.ve)),.d (.val (.int .i64 y.un)),.d (.val (.int .i64 y.ue))]) AC (by kernel_rfl) ?_;dsimp only [List.take,List.drop];refine AeQ rfl rfl (xFa CU Bt) (xFa CU Bt) ?_;refine AeQ rfl rfl (xLd Bt) (xLd Bt) ?_;refine AeQ rfl rfl xM1 xM1 ?_;refine AeQ rfl rfl (xIr Ak (Dq hy)) (xIr Ak (Dq hy)) ?_;refine AeQ rfl rfl (xLa Bh) (xLa Bh) ?_;refine AeQ rfl rfl (xFa Oc BJ) (xFa Oc BJ) ?_;refine AeQ rfl rfl (xLd BJ) (xLd BJ) ?_;refine AeQ rfl rfl xM1 xM1 ?_;refine AeQ rfl rfl (xIr Ae (Ay hFi)) (xIr Ae (Ay hFi)) ?_;refine AeQ rfl rfl (xLd Az) (xLd Az) ?_;refine AnO ?_;refine Asa rfl rfl rfl (by with_unfolding_all exact Xj rfl Bu) rfl rfl rfl (by with_unfolding_all exact Aal rfl rfl rfl rfl rfl Bh rfl (ax rfl) rfl) ?_;refine gO xA ?_;exact Z9.o)|(intro Z9;refine Tx 2 ?_;refine gO xA ?_;exact Z9.o)|(intro Z9;refine Tx 3 ?_;refine gO xF <| gO xD <| gO xNe ?_;exact Z9.o)|fail):p:=h ⟨k⟩
theorem Gq (k:p') (h:Hd9 p'→p:=by with_reducible first|(intro Z9;refine Tx 9 ?_;refine gO xF <| gO xD ?_;exact Z9.o)|(intro Z9;refine Tx 10 ?_;refine gO xEq <| gO xA ?_;exact Z9.o)|fail):p:=h ⟨k⟩
theorem GV (k:p') (h:Hd9 p'→p:=by with_reducible first|(intro Z9;refine Tx 12 ?_;refine gO xEq <| gO xA ?_;exact Z9.o)|fail):p:=h ⟨k⟩
theorem Ic (k:p') (h:Hd9 p'→p:=by with_reducible first|(intro Z9;refine Tx 14 ?_;refine gO xEq <| gO xA ?_;exact Z9.o)|fail):p:=h ⟨k⟩
theorem Lj (k:p') (h:Hd9 p'→p:=by with_reducible first|(intro Z9;refine Tx 15 ?_;refine gO xEq <| gO xA ?_;exact Z9.o)|fail):p:=h ⟨k⟩
theorem Ajc (k:p') (h:Hd9 p'→p:=by with_reducible first|(intro Z9;refine Ax (id:=16) 7 AC (by kernel_rfl) ?_;dsimp only [List.take,List.drop];refine gP xM <| gP (xIo (i:=0) Ag) <| gP xL <| gP xM <| gP (xIo (i:=1) Ag) <| gP xL <| gP (xCl func191 (C)) ?_;refine Ke ?_;refine gZ (xSk Aa) ?_;exact Z9.o)|fail):p:=h ⟨k⟩
theorem Ajd (k:p') (h:Hd9 p'→p:=by with_reducible first|(intro Z9;refine Ax (id:=22) 7 AC (by kernel_rfl) ?_;dsimp only [List.take,List.drop];refine gP xM <| gP (xIo (i:=0) Ag) <| gP xL <| gP xM <| gP (xIo (i:=1) Ag) <| gP xL <| gP (xCl func117 (C)) ?_;refine Ke ?_;refine gZ (xSk Aa) ?_;exact Z9.o)|fail):p:=h ⟨k⟩
theorem Aje (h:p:=by first|exact xCl func193 (WH)|exact xCl func193 (WU)):p:=h
theorem Ajf (k:p') (h:Hd9 p'→p:=by with_reducible first|(intro Z9;refine Ax (id:=31) 18 AC (by kernel_rfl) ?_;dsimp only [List.take,List.drop];refine gP xM <| gP (xIo (i:=0) Ag) <| gP xL <| gP xM <| gP xF <| gP xL <| gP xM <| gP Aje <| gP DH <| gP xM ?_;(first|iterate 5 refine Kd ?_|(refine Ky (xFa Eb AM) ?_;refine Ky (xLa AM) ?_;refine Ky xM1 ?_;refine Ky Aje ?_;refine Ky DH ?_));refine gP xPk <| gP (xCl func192 (IX)) <| gP (xCl func117 (C)) ?_;refine Ke ?_;refine gZ (xSk Aa) ?_;exact Z9.o)|fail):p:=h ⟨k⟩
theorem Ajg (h:p:=by first|exact xIr Ae (Ay hFi)|exact xIr Ae (Ay hF0)|exact xIr Ae (Ay hF1)|exact xIr Ae (hE0)|exact xIr Ae (hE1)|exact xIr Ae (hI0)|exact xIr Ae (hI1)):p:=h
theorem Ajh (h:p:=by first|exact xIr Ad (hE0)|exact xIr Ad (hE1)|exact xIr Ad (hI0)|exact xIr Ad (hI1)):p:=h
theorem YU (h:p:=by first|exact xIr Ag (hE0)|exact xIr Ag (hE1)|exact xIr Ag (hI0)|exact xIr Ag (hI1)):p:=h
theorem Aji (h:p:=by first|exact xIr Ae (Ay ha)|exact xIr Ae (Ay hFa)|exact xIr Ae (hEa)):p:=h
theorem Aet (h:p:=by first|exact xCl func195 (MA)|exact xCl func195 (MB)|exact xCl func195 (MC)):p:=h
theorem Aeu (h:p:=by first|exact xCl func191 (D1)|exact xCl func191 (D2)|exact xCl func191 (D3)):p:=h
theorem Ajj (h:p:=by first|exact xCl func174 (MG0)|exact xCl func174 (MG1)):p:=h
theorem Ajk (h:p:=by first|exact xIr Ae (Ay hA0)|exact xIr Ae (hEa)):p:=h
theorem YV (h:p:=by first|exact Abn rfl rfl rfl|exact xLt):p:=h
theorem LU (mk t u:Bool) {ps:List Prt} {bs:List Bk} (os:List Int) (c:Ct) (hE:c.E.length=bs.length) (sE:∀ p∈c.E,Sm p LB LB) (i:Nat) {y:Bk} (hy:bs[i]?=some y) (B:AeV ps bs.length y) (hF:c.F.length=bs.length) (hR:c.R.length=bs.length) (sR:∀ p∈c.R,IwS p LB LB) (hn:bs.length≤1000000) (hpn:ps.length≤1000000) (hs2:0≤scA c.F i∧scA c.F i≤30) (hsa:y.kind≠0→∀ a∈y.args,0≤sG c.F a∧sG c.F a≤30):CV prog Ah 114 [aDg t ps bs os,.agg (dCx u c (.row mk 3 c.E.length (An dyP c.E))),aI (i:Int)] [aDy false (AP ps c.F c.R c.E y (scA c.F i)).1 (AP ps c.F c.R c.E y (scA c.F i)).2]:=by
 refine cvz func114 ntmps114 ?_
 have hil:=(gS.1 hy).1
 have hFi:=My (F:=c.F) (k:=i) (by omega)
 obtain ⟨s,hs⟩:∃ s,scA c.F i=s:=⟨_,rfl⟩
 rw [hs] at hFi
 have hBl:=B.len
 obtain ⟨s0,s1⟩:=hs2
 rw [hs] at s0 s1
 rw [hs]
 have um:=UU s0 s1
 by_cases h:y.kind=0
 case pos =>
  obtain ⟨j,pp,hA0,ha0,hp,PS⟩:=B.port h
  have l3:=(gS.1 hp).1
  have hL0:=(gS.1 hA0).1
  rw [show AP ps c.F c.R c.E y s=ixP (decide (s<pp.fr)) s by unfold AP;rw [if_pos h,ha0,SW hp]]
  have UN:=Ew s s0 s1 (decide (s<pp.fr))
  repeat' (with_reducible first|refine qq ?_|refine Ajb ?_|refine Gq ?_|(refine Ax (id:=11) 13 AC (by kernel_rfl) ?_;dsimp only [List.take,List.drop];refine gP xM <| gP xM <| gP xF <| gP xD <| gP xF <| gP xD <| gP (xIr Ae (Ay hA0)) <| gP xD <| gP (xIr Ci (IV hp)) <| gP xF <| gP xD <| gP YV <| gP (xCl func192 (UN)) ?_;refine Ke ?_;refine gZ (xSk Aa) ?_))
  exact CJ
 repeat' (with_reducible first|refine qq ?_|refine Ajb ?_)
 refine AJ (Fh 9 43 3 rfl) ?_
 repeat' (with_reducible first|refine qq ?_|(refine Tx 4 ?_;refine gO xF <| gO xD <| gO xN <| gO xM ?_))
 refine AJ (Be 5) (Al (fun n Fr H=>∃ q:Nat,q≤y.args.length∧n=y.args.length - q∧Fr=ofL [(3,vr 0),(4,vr 1),(6,vr 2),(7,vr 3),(8,vi s),(9,vo 4 (((mvL c.F c.E s y).take q).length)),(30,vd (AU t y.args)),(31,vi y.args.length),(32,vi ((q:Nat)))]∧H=[.box 26 [.d (CY t ps),.d (Cw t bs),.d (AU t os)],.box 30 [.d (AU u c.F),.d (.row false 6 c.R.length (An (dIw false) c.R)),.d (.row mk 3 c.E.length (An dyP c.E))],.box 43 [.d (.val (.bool false)),.d (.val (.slice none 0 0)),.d (.val (.int .i64 0))],.box 65 [.d (.val (.int .i64 y.kind)),.d (AU t y.args),.d (.val (.int .i64 y.vn)),.d (.val (.int .i64 y.ve)),.d (.val (.int .i64 y.un)),.d (.val (.int .i64 y.ue))],.row 43 3 ((mvL c.F c.E s y).take (q)).length ((An dyP ((mvL c.F c.E s y).take (q))).map C.d)]) (n0:=y.args.length) ⟨0,ad _,rfl,rfl,rfl⟩ ?_)
 rintro n Fr H ⟨q,hu,rfl,rfl,rfl⟩
 by_cases hlu:q<y.args.length
 case pos =>
  obtain ⟨z,ha⟩:∃ z,y.args[q]?=some z:=⟨_,gE hlu⟩
  obtain ⟨z0,z1⟩:=B.all h z (gM ha)
  obtain ⟨a,rfl⟩:=gm z0
  have hat:=AqD (F:=c.F) (E:=c.E) (s:=s) ha
  rw [Asb sE,Cm,HJ] at hat
  have hFa:=My (F:=c.F) (k:=a) (by omega)
  have hEa:=Yy (E:=c.E) (k:=a) (by omega)
  have se:=DA sE a
  obtain ⟨e,he⟩:∃ e,c.E[a]?.getD (0,0)=e:=⟨_,rfl⟩
  obtain ⟨r,hr⟩:∃ r,scA c.F a=r:=⟨_,rfl⟩
  rw [he] at se hEa hat
  rw [hr] at hFa hat
  have UN:=Ew s s0 s1 (decide (s<r))
  have PL:=Ex e (ixP (decide (s<r)) s) se (Mx s0 s1) (by decide) (by decide)
  obtain ⟨hap,hap2,hoL⟩:=Mr hat
  repeat' (with_reducible first|refine qq ?_|(refine Tx 5 ?_;refine gO xLt ?_)|(refine Tx 6 ?_;refine gO Aji <| gO xD <| gO xA ?_)|(refine Ax (id:=7) 17 AC (by kernel_rfl) ?_;dsimp only [List.take,List.drop];refine gP xM <| gP xF <| gP xD <| gP xM <| gP (xIr Ag (hEa)) <| gP xL <| gP xM <| gP xM <| gP xF <| gP xD <| gP xM <| gP Aji <| gP xD <| gP YV <| gP (xCl func192 (UN)) <| gP (xCl func191 (PL)) <| gQ (by exact BH rfl Ag Aj rfl rfl (by decide) (by decide)) ?_;refine Ke ?_;refine gT (by exact Mj rfl rfl rfl rfl rfl rfl Ag Aj (by omega) (by decide) (by decide) rfl hap hap2) <| gO xA ?_)|(refine Tx 8 ?_;refine gO xAd <| gO xM ?_))
  refine ⟨_,_,Be 5,_,by omega,q+1,by omega,rfl,rfl,rfl⟩
 obtain rfl:q=y.args.length:=by omega
 clear hlu hu
 rw [←Amr (F:=c.F) (E:=c.E) (s:=s),aq]
 repeat' (with_reducible first|refine qq ?_|(refine Tx 5 ?_;refine gO xLt ?_))
 rcases B.hk with k|k|k|k|k|k|k|k|k|k|k|k
 ·
  exact absurd k h
 ·
  have WH:=GJ y.vn y.ve s (B.sv (by omega)) s0 s1
  have IX:=Ew s s0 s1 (!Bn y.vn y.ve s)
  rw [show AP ps c.F c.R c.E y s=ixP (!Bn y.vn y.ve s) s by unfold AP;rw [if_neg (by omega),if_pos k]]
  repeat' (with_reducible first|refine qq ?_|refine Gq ?_|refine GV ?_|(refine Tx 13 ?_;refine gO xM <| gO xF <| gO xL <| gO xM <| gO (xCl func193 (WH)) <| gO DH <| gO (xCl func192 (IX)) <| gZ (xSk Aa) ?_))
  exact CJ
 ·
  obtain ⟨a,hA0,ha0,hl0⟩:=B.a0 (by omega)
  have hl0:=hl0 (by omega)
  have hL0:=(gS.1 hA0).1
  obtain ⟨m0,hm0⟩:∃ m,mvP c.F c.E s (a:Int)=m:=⟨_,rfl⟩
  have t0:=Ev (F:=c.F) s0 s1 sE (a:Int)
  rw [hm0] at t0
  obtain ⟨X,hX⟩:=AgY (F:=c.F) (E:=c.E) (s:=s) hA0
  rw [hX,hm0]
  refine AJ (F':=ofL [(3,vr 0),(4,vr 1),(6,vr 2),(7,vr 3),(8,vi s),(9,vo 4 ((X.length+1)))]) (H':=[.box 26 [.d (CY t ps),.d (Cw t bs),.d (AU t os)],.box 30 [.d (AU u c.F),.d (.row false 6 c.R.length (An (dIw false) c.R)),.d (.row mk 3 c.E.length (An dyP c.E))],.box 43 [.d (.val (.bool false)),.d (.val (.slice none 0 0)),.d (.val (.int .i64 0))],.box 65 [.d (.val (.int .i64 y.kind)),.d (AU t y.args),.d (.val (.int .i64 y.vn)),.d (.val (.int .i64 y.ve)),.d (.val (.int .i64 y.un)),.d (.val (.int .i64 y.ue))],.row 43 3 (X.length+1) ((An dyP (m0::X)).map C.d)]) (Be 5) ?_
  have WH:=GJ y.vn y.ve s (B.sv (by omega)) s0 s1
  have ib:=Mx (b:=(!Bn y.vn y.ve s)) s0 s1
  have IX:=Ew s s0 s1 (!Bn y.vn y.ve s)
  have C:=(Hq Ah false false m0.1 m0.2 (ixP (!Bn y.vn y.ve s) s).1 (ixP (!Bn y.vn y.ve s) s).2 t0.ok ib.ok t0.lz ib.lz).cv
  rw [show AP ps c.F c.R c.E y s=GG m0 (ixP (!Bn y.vn y.ve s) s) by unfold AP;rw [if_neg (by omega),if_neg (by omega),if_neg (by omega),if_neg (by omega),if_neg (by omega),if_neg (by omega),if_neg (by omega),if_neg (by omega),ha0,hm0]]
  repeat' (with_reducible first|refine qq ?_|refine Gq ?_|refine GV ?_|refine Ic ?_|refine Lj ?_|(refine Tx 17 ?_;refine gO xEq <| gO xA ?_)|(refine Tx 18 ?_;refine gO xEq <| gO xA ?_)|(refine Tx 20 ?_;refine gO xEq <| gO xA ?_)|(refine Tx 21 ?_;refine gO xEq <| gO xA ?_)|(refine Tx 23 ?_;refine gO xEq <| gO xA ?_)|(refine Tx 26 ?_;refine gO xEq <| gO xA ?_)|(refine Tx 30 ?_;refine gO xEq <| gO xA ?_)|(refine Ax (id:=32) 11 AC (by kernel_rfl) ?_;dsimp only [List.take,List.drop];refine gP xM <| gP (xIo (i:=0) Ag) <| gP xL <| gP xM <| gP xF <| gP xL <| gP xM <| gP (xCl func193 (WH)) <| gP DH <| gP (xCl func192 (IX)) <| gP (xCl func117 (C)) ?_;refine Ke ?_;refine gZ (xSk Aa) ?_))
  exact CJ
 ·
  obtain ⟨a,hA0,ha0,hl0⟩:=B.a0 (by omega)
  have hl0:=hl0 (by omega)
  have hL0:=(gS.1 hA0).1
  obtain ⟨b,hA1,ha1,hl1⟩:=B.a1 (by omega)
  have hL1:=(gS.1 hA1).1
  obtain ⟨m0,hm0⟩:∃ m,mvP c.F c.E s (a:Int)=m:=⟨_,rfl⟩
  have t0:=Ev (F:=c.F) s0 s1 sE (a:Int)
  rw [hm0] at t0
  obtain ⟨m1,hm1⟩:∃ m,mvP c.F c.E s (b:Int)=m:=⟨_,rfl⟩
  have t1:=Ev (F:=c.F) s0 s1 sE (b:Int)
  rw [hm1] at t1
  obtain ⟨X,hX⟩:=AgZ (F:=c.F) (E:=c.E) (s:=s) hA0 hA1
  rw [hX,hm0,hm1]
  refine AJ (F':=ofL [(3,vr 0),(4,vr 1),(6,vr 2),(7,vr 3),(8,vi s),(9,vo 4 ((X.length+2)))]) (H':=[.box 26 [.d (CY t ps),.d (Cw t bs),.d (AU t os)],.box 30 [.d (AU u c.F),.d (.row false 6 c.R.length (An (dIw false) c.R)),.d (.row mk 3 c.E.length (An dyP c.E))],.box 43 [.d (.val (.bool false)),.d (.val (.slice none 0 0)),.d (.val (.int .i64 0))],.box 65 [.d (.val (.int .i64 y.kind)),.d (AU t y.args),.d (.val (.int .i64 y.vn)),.d (.val (.int .i64 y.ve)),.d (.val (.int .i64 y.un)),.d (.val (.int .i64 y.ue))],.row 43 3 (X.length+2) ((An dyP (m0::m1::X)).map C.d)]) (Be 5) ?_
  have C:=Ex m0 m1 t0 t1 (by decide) (by decide)
  rw [show AP ps c.F c.R c.E y s=DP m0 m1 by unfold AP;rw [if_neg (by omega),if_neg (by omega),if_pos (by omega),ha0,ha1,hm0,hm1]]
  repeat' (with_reducible first|refine qq ?_|refine Gq ?_|refine GV ?_|refine Ic ?_|refine Ajc ?_)
  exact CJ
 ·
  obtain ⟨a,hA0,ha0,hl0⟩:=B.a0 (by omega)
  have hl0:=hl0 (by omega)
  have hL0:=(gS.1 hA0).1
  obtain ⟨b,hA1,ha1,hl1⟩:=B.a1 (by omega)
  have hL1:=(gS.1 hA1).1
  obtain ⟨m0,hm0⟩:∃ m,mvP c.F c.E s (a:Int)=m:=⟨_,rfl⟩
  have t0:=Ev (F:=c.F) s0 s1 sE (a:Int)
  rw [hm0] at t0
  obtain ⟨m1,hm1⟩:∃ m,mvP c.F c.E s (b:Int)=m:=⟨_,rfl⟩
  have t1:=Ev (F:=c.F) s0 s1 sE (b:Int)
  rw [hm1] at t1
  obtain ⟨X,hX⟩:=AgZ (F:=c.F) (E:=c.E) (s:=s) hA0 hA1
  rw [hX,hm0,hm1]
  refine AJ (F':=ofL [(3,vr 0),(4,vr 1),(6,vr 2),(7,vr 3),(8,vi s),(9,vo 4 ((X.length+2)))]) (H':=[.box 26 [.d (CY t ps),.d (Cw t bs),.d (AU t os)],.box 30 [.d (AU u c.F),.d (.row false 6 c.R.length (An (dIw false) c.R)),.d (.row mk 3 c.E.length (An dyP c.E))],.box 43 [.d (.val (.bool false)),.d (.val (.slice none 0 0)),.d (.val (.int .i64 0))],.box 65 [.d (.val (.int .i64 y.kind)),.d (AU t y.args),.d (.val (.int .i64 y.vn)),.d (.val (.int .i64 y.ve)),.d (.val (.int .i64 y.un)),.d (.val (.int .i64 y.ue))],.row 43 3 (X.length+2) ((An dyP (m0::m1::X)).map C.d)]) (Be 5) ?_
  have C:=Ex m0 m1 t0 t1 (by decide) (by decide)
  rw [show AP ps c.F c.R c.E y s=DP m0 m1 by unfold AP;rw [if_neg (by omega),if_neg (by omega),if_pos (by omega),ha0,ha1,hm0,hm1]]
  repeat' (with_reducible first|refine qq ?_|refine Gq ?_|refine GV ?_|refine Ic ?_|refine Lj ?_|refine Ajc ?_)
  exact CJ
 ·
  obtain ⟨a,hA0,ha0,hl0⟩:=B.a0 (by omega)
  have hl0:=hl0 (by omega)
  have hL0:=(gS.1 hA0).1
  obtain ⟨m0,hm0⟩:∃ m,mvP c.F c.E s (a:Int)=m:=⟨_,rfl⟩
  have t0:=Ev (F:=c.F) s0 s1 sE (a:Int)
  rw [hm0] at t0
  obtain ⟨X,hX⟩:=AgY (F:=c.F) (E:=c.E) (s:=s) hA0
  rw [hX,hm0]
  refine AJ (F':=ofL [(3,vr 0),(4,vr 1),(6,vr 2),(7,vr 3),(8,vi s),(9,vo 4 ((X.length+1)))]) (H':=[.box 26 [.d (CY t ps),.d (Cw t bs),.d (AU t os)],.box 30 [.d (AU u c.F),.d (.row false 6 c.R.length (An (dIw false) c.R)),.d (.row mk 3 c.E.length (An dyP c.E))],.box 43 [.d (.val (.bool false)),.d (.val (.slice none 0 0)),.d (.val (.int .i64 0))],.box 65 [.d (.val (.int .i64 y.kind)),.d (AU t y.args),.d (.val (.int .i64 y.vn)),.d (.val (.int .i64 y.ve)),.d (.val (.int .i64 y.un)),.d (.val (.int .i64 y.ue))],.row 43 3 (X.length+1) ((An dyP (m0::X)).map C.d)]) (Be 5) ?_
  rw [show AP ps c.F c.R c.E y s=m0 by unfold AP;rw [if_neg (by omega),if_neg (by omega),if_neg (by omega),if_pos (by omega),ha0,hm0]]
  repeat' (with_reducible first|refine qq ?_|refine Gq ?_|refine GV ?_|refine Ic ?_|refine Lj ?_|(refine Tx 17 ?_;refine gO xEq <| gO xA ?_)|(refine Tx 19 ?_;refine gO xM <| gO (xIo (i:=0) Ag) <| gO xL <| gZ (xSk Aa) ?_))
  exact CJ
 ·
  obtain ⟨a,hA0,ha0,hl0⟩:=B.a0 (by omega)
  have hl0:=hl0 (by omega)
  have hL0:=(gS.1 hA0).1
  have hF0:=My (F:=c.F) (k:=a) (by omega)
  have hr0:=hsa (by omega) a (gM hA0)
  rw [Cm] at hr0
  have hv:=B.sv (by omega)
  have sv:=EP hv
  have hv2:=hv
  unfold DN at hv2
  have RV:=(EF (G:=Ah) y.vn y.ve (by omega) (by omega)).cv
  have hEa:=Yy (E:=c.E) (k:=a) (by omega)
  have se:=DA sE a
  obtain ⟨e,he⟩:∃ e,c.E[a]?.getD (0,0)=e:=⟨_,rfl⟩
  rw [he] at se hEa
  obtain ⟨r,hr⟩:∃ r,scA c.F a=r:=⟨_,rfl⟩
  rw [hr] at hF0 hr0
  obtain ⟨v,hvv⟩:∃ v,Af y.vn 0 y.ve=v:=⟨_,rfl⟩
  rw [hvv] at RV sv
  have AB:=(Wc Ah false v.1 v.2 sv.ok sv.lz).cv
  have sa:=sv.abs
  have MU:=GK (GF v) e sa se (by decide) (by decide) (by decide)
  have sm:=Sm.mul sa se (by decide)
  have ib:=Mx (b:=decide (s - r+y.ve<0)) s0 s1
  have IX:=Ew s s0 s1 (decide (s - r+y.ve<0))
  have AD:=Ex (CG (GF v) e) (ixP (decide (s - r+y.ve<0)) s) sm ib (by decide) (by decide)
  rw [show AP ps c.F c.R c.E y s=DP (CG (GF v) e) (ixP (decide (s - r+y.ve<0)) s) by unfold AP;rw [if_neg (by omega),if_neg (by omega),if_neg (by omega),if_neg (by omega),if_neg (by omega),if_pos k,ha0,Cm,HJ,he,hr,hvv]]
  repeat' (with_reducible first|refine qq ?_|refine Gq ?_|refine GV ?_|refine Ic ?_|refine Lj ?_|(refine Tx 17 ?_;refine gO xEq <| gO xA ?_)|(refine Tx 18 ?_;refine gO xEq <| gO xA ?_)|(refine Tx 20 ?_;refine gO xEq <| gO xA ?_)|(refine Tx 21 ?_;refine gO xEq <| gO xA ?_)|(refine Tx 23 ?_;refine gO xEq <| gO xA ?_)|(refine Tx 24 ?_;refine gO xF <| gO xL <| gO (xCl func173 (RV)) <| gO (xCl func194 (AB)) <| gN (xAl Aj) <| gZ (xSk Aa) ?_)|(refine Ax (id:=25) 28 AC (by kernel_rfl) ?_;dsimp only [List.take,List.drop];refine gP xL <| gP xF <| gP xD <| gP xF <| gP xD <| gP Ajk <| gP xD <| gP (xIr Ag (hEa)) <| gP xL <| gP (xCl func195 (MU)) <| gP xM <| gP xM <| gP xF <| gP xD <| gP xF <| gP xD <| gP Ajk <| gP xD <| gP (by first|exact xIr Ae (Ay hFi)|exact xIr Ae (Ay hF0)|exact xIr Ae (hEa)) <| gP xD <| gP xSb <| gP xF <| gP xF <| gP xD <| gP xAd <| gP YV <| gP (xCl func192 (IX)) <| gP (xCl func191 (AD)) ?_;refine Ke ?_;refine gZ (xSk Aa) ?_))
  exact CJ
 ·
  obtain ⟨a,hA0,ha0,hl0⟩:=B.a0 (by omega)
  have hl0:=hl0 (by omega)
  have hL0:=(gS.1 hA0).1
  obtain ⟨b,hA1,ha1,hl1⟩:=B.a1 (by omega)
  have hL1:=(gS.1 hA1).1
  have hF0:=My (F:=c.F) (k:=a) (by omega)
  have hr0:=hsa (by omega) a (gM hA0)
  rw [Cm] at hr0
  have hE0:=Yy (E:=c.E) (k:=a) (by omega)
  have se0:=DA sE a
  obtain ⟨e0,he0⟩:∃ e,c.E[a]?.getD (0,0)=e:=⟨_,rfl⟩
  rw [he0] at se0 hE0
  obtain ⟨r0,hq0⟩:∃ r,scA c.F a=r:=⟨_,rfl⟩
  rw [hq0] at hF0 hr0
  have hI0:=Yz (R:=c.R) (k:=a) (by omega)
  have si0:=BE sR a
  obtain ⟨P0,hP0⟩:∃ P,c.R[a]?.getD iZ=P:=⟨_,rfl⟩
  rw [hP0] at si0 hI0
  have MG0:=MF P0 (si0.more LBx LBx)
  have sg0:=Lc si0
  obtain ⟨G0,hG0⟩:∃ G,Fu P0=G:=⟨_,rfl⟩
  rw [hG0] at MG0 sg0
  have hF1:=My (F:=c.F) (k:=b) (by omega)
  have hr1:=hsa (by omega) b (gM hA1)
  rw [Cm] at hr1
  have hE1:=Yy (E:=c.E) (k:=b) (by omega)
  have se1:=DA sE b
  obtain ⟨e1,he1⟩:∃ e,c.E[b]?.getD (0,0)=e:=⟨_,rfl⟩
  rw [he1] at se1 hE1
  obtain ⟨r1,hq1⟩:∃ r,scA c.F b=r:=⟨_,rfl⟩
  rw [hq1] at hF1 hr1
  have hI1:=Yz (R:=c.R) (k:=b) (by omega)
  have si1:=BE sR b
  obtain ⟨P1,hP1⟩:∃ P,c.R[b]?.getD iZ=P:=⟨_,rfl⟩
  rw [hP1] at si1 hI1
  have MG1:=MF P1 (si1.more LBx LBx)
  have sg1:=Lc si1
  obtain ⟨G1,hG1⟩:∃ G,Fu P1=G:=⟨_,rfl⟩
  rw [hG1] at MG1 sg1
  have MA:=GK G0 e1 sg0 se1 (by decide) (by decide) (by decide)
  have sMA:Sm (CG G0 e1) (LB+LB) (LB+LB):=Sm.mul sg0 se1 (by decide)
  have MB:=GK G1 e0 sg1 se0 (by decide) (by decide) (by decide)
  have sMB:Sm (CG G1 e0) (LB+LB) (LB+LB):=Sm.mul sg1 se0 (by decide)
  have MC:=GK e0 e1 se0 se1 (by decide) (by decide) (by decide)
  have sMC:Sm (CG e0 e1) (LB+LB) (LB+LB):=Sm.mul se0 se1 (by decide)
  obtain ⟨A,hA⟩:∃ q,CG G0 e1=q:=⟨_,rfl⟩
  rw [hA] at MA
  rw [hA] at sMA
  obtain ⟨Bq,hBq⟩:∃ q,CG G1 e0=q:=⟨_,rfl⟩
  rw [hBq] at MB
  rw [hBq] at sMB
  obtain ⟨Cq,hCq⟩:∃ q,CG e0 e1=q:=⟨_,rfl⟩
  rw [hCq] at MC
  rw [hCq] at sMC
  have D1:=Ex A Bq sMA sMB (by decide) (by decide)
  have t1:Sm (DP A Bq) 16385 8192:=Sm.sum sMA sMB (by decide)
  obtain ⟨S1,hS⟩:∃ q,DP A Bq=q:=⟨_,rfl⟩
  rw [hS] at D1 t1
  have D2:=Ex S1 Cq t1 sMC (by decide) (by decide)
  have t2:Sm (DP S1 Cq) 24578 8192:=Sm.sum t1 (sMC.more (by decide) (by decide)) (by decide)
  obtain ⟨S2,hT⟩:∃ q,DP S1 Cq=q:=⟨_,rfl⟩
  rw [hT] at D2 t2
  have ib:=Mx (b:=decide (s - r0 - r1<0)) s0 s1
  have IX:=Ew s s0 s1 (decide (s - r0 - r1<0))
  have D3:=Ex S2 (ixP (decide (s - r0 - r1<0)) s) t2 ib (by decide) (by decide)
  rw [show AP ps c.F c.R c.E y s=DP S2 (ixP (decide (s - r0 - r1<0)) s) by unfold AP;rw [if_neg (by omega),if_neg (by omega),if_neg (by omega),if_neg (by omega),if_neg (by omega),if_neg (by omega),if_pos k,ha0,ha1,Cm,Cm,HJ,HJ,Nx,Nx,he0,he1,hq0,hq1,hP0,hP1,hG0,hG1,hA,hBq,hCq,hS,hT]]
  repeat' (with_reducible first|refine qq ?_|refine Gq ?_|refine GV ?_|refine Ic ?_|refine Lj ?_|(refine Tx 17 ?_;refine gO xEq <| gO xA ?_)|(refine Tx 18 ?_;refine gO xEq <| gO xA ?_)|(refine Tx 20 ?_;refine gO xEq <| gO xA ?_)|(refine Tx 21 ?_;refine gO xEq <| gO xA ?_)|(refine Tx 23 ?_;refine gO xEq <| gO xA ?_)|(refine Tx 26 ?_;refine gO xEq <| gO xA ?_)|(refine Bl (id:=27) AC (by kernel_rfl) ?_;refine gP xF <| gP xD <| gP (by first|exact xIr Ae (Ay hA0)|exact xIr Ae (hE0)|exact xIr Ae (hE1)|exact xIr Ae (hI0)|exact xIr Ae (hI1)) <| gP xD <| gP xF <| gP xD <| gP (by first|exact xIr Ae (Ay hA1)|exact xIr Ae (hE0)|exact xIr Ae (hE1)|exact xIr Ae (hI0)|exact xIr Ae (hI1)) <| gP xD <| gP xA <| gP xA ?_;refine Ke ?_)|(refine Ax (id:=28) 26 AC (by kernel_rfl) ?_;dsimp only [List.take,List.drop];refine gP xF <| gP xD <| gP xM <| gP Ajh <| gP xL <| gP Ajj <| gP xF <| gP xD <| gP xM <| gP YU <| gP xL <| gP Aet <| gP xF <| gP xD <| gP xM <| gP Ajh <| gP xL <| gP Ajj <| gP xF <| gP xD <| gP xM <| gP YU <| gP xL <| gP Aet <| gP Aeu <| gQ (xAl Aj) ?_;refine Ke ?_;refine gZ (xSk Aa) ?_)|(refine Ax (id:=29) 30 AC (by kernel_rfl) ?_;dsimp only [List.take,List.drop];refine gP xL <| gP xF <| gP xD <| gP xM <| gP YU <| gP xL <| gP xF <| gP xD <| gP xM <| gP YU <| gP xL <| gP Aet <| gP Aeu <| gP xM <| gP xM <| gP xF <| gP xD <| gP xM <| gP Ajg <| gP xD <| gP xSb <| gP xF <| gP xD <| gP xM <| gP Ajg <| gP xD <| gP xSb <| gP YV <| gP (xCl func192 (IX)) <| gP Aeu ?_;refine Ke ?_;refine gZ (xSk Aa) ?_))
  exact CJ
 ·
  obtain ⟨a,hA0,ha0,hl0⟩:=B.a0 (by omega)
  have hl0:=hl0 (by omega)
  have hL0:=(gS.1 hA0).1
  obtain ⟨b,hA1,ha1,hl1⟩:=B.a1 (by omega)
  have hL1:=(gS.1 hA1).1
  obtain ⟨m0,hm0⟩:∃ m,mvP c.F c.E s (a:Int)=m:=⟨_,rfl⟩
  have t0:=Ev (F:=c.F) s0 s1 sE (a:Int)
  rw [hm0] at t0
  obtain ⟨m1,hm1⟩:∃ m,mvP c.F c.E s (b:Int)=m:=⟨_,rfl⟩
  have t1:=Ev (F:=c.F) s0 s1 sE (b:Int)
  rw [hm1] at t1
  obtain ⟨X,hX⟩:=AgZ (F:=c.F) (E:=c.E) (s:=s) hA0 hA1
  rw [hX,hm0,hm1]
  refine AJ (F':=ofL [(3,vr 0),(4,vr 1),(6,vr 2),(7,vr 3),(8,vi s),(9,vo 4 ((X.length+2)))]) (H':=[.box 26 [.d (CY t ps),.d (Cw t bs),.d (AU t os)],.box 30 [.d (AU u c.F),.d (.row false 6 c.R.length (An (dIw false) c.R)),.d (.row mk 3 c.E.length (An dyP c.E))],.box 43 [.d (.val (.bool false)),.d (.val (.slice none 0 0)),.d (.val (.int .i64 0))],.box 65 [.d (.val (.int .i64 y.kind)),.d (AU t y.args),.d (.val (.int .i64 y.vn)),.d (.val (.int .i64 y.ve)),.d (.val (.int .i64 y.un)),.d (.val (.int .i64 y.ue))],.row 43 3 (X.length+2) ((An dyP (m0::m1::X)).map C.d)]) (Be 5) ?_
  have C:=(Hq Ah false false m0.1 m0.2 m1.1 m1.2 t0.ok t1.ok t0.lz t1.lz).cv
  rw [show AP ps c.F c.R c.E y s=GG m0 m1 by unfold AP;rw [if_neg (by omega),if_neg (by omega),if_neg (by omega),if_neg (by omega),if_pos (by omega),ha0,ha1,hm0,hm1]]
  repeat' (with_reducible first|refine qq ?_|refine Gq ?_|refine GV ?_|refine Ic ?_|refine Lj ?_|(refine Tx 17 ?_;refine gO xEq <| gO xA ?_)|(refine Tx 18 ?_;refine gO xEq <| gO xA ?_)|(refine Tx 20 ?_;refine gO xEq <| gO xA ?_)|refine Ajd ?_)
  exact CJ
 ·
  obtain ⟨a,hA0,ha0,hl0⟩:=B.a0 (by omega)
  have hl0:=hl0 (by omega)
  have hL0:=(gS.1 hA0).1
  obtain ⟨b,hA1,ha1,hl1⟩:=B.a1 (by omega)
  have hL1:=(gS.1 hA1).1
  obtain ⟨m0,hm0⟩:∃ m,mvP c.F c.E s (a:Int)=m:=⟨_,rfl⟩
  have t0:=Ev (F:=c.F) s0 s1 sE (a:Int)
  rw [hm0] at t0
  obtain ⟨m1,hm1⟩:∃ m,mvP c.F c.E s (b:Int)=m:=⟨_,rfl⟩
  have t1:=Ev (F:=c.F) s0 s1 sE (b:Int)
  rw [hm1] at t1
  obtain ⟨X,hX⟩:=AgZ (F:=c.F) (E:=c.E) (s:=s) hA0 hA1
  rw [hX,hm0,hm1]
  refine AJ (F':=ofL [(3,vr 0),(4,vr 1),(6,vr 2),(7,vr 3),(8,vi s),(9,vo 4 ((X.length+2)))]) (H':=[.box 26 [.d (CY t ps),.d (Cw t bs),.d (AU t os)],.box 30 [.d (AU u c.F),.d (.row false 6 c.R.length (An (dIw false) c.R)),.d (.row mk 3 c.E.length (An dyP c.E))],.box 43 [.d (.val (.bool false)),.d (.val (.slice none 0 0)),.d (.val (.int .i64 0))],.box 65 [.d (.val (.int .i64 y.kind)),.d (AU t y.args),.d (.val (.int .i64 y.vn)),.d (.val (.int .i64 y.ve)),.d (.val (.int .i64 y.un)),.d (.val (.int .i64 y.ue))],.row 43 3 (X.length+2) ((An dyP (m0::m1::X)).map C.d)]) (Be 5) ?_
  have C:=(Hq Ah false false m0.1 m0.2 m1.1 m1.2 t0.ok t1.ok t0.lz t1.lz).cv
  rw [show AP ps c.F c.R c.E y s=GG m0 m1 by unfold AP;rw [if_neg (by omega),if_neg (by omega),if_neg (by omega),if_neg (by omega),if_pos (by omega),ha0,ha1,hm0,hm1]]
  repeat' (with_reducible first|refine qq ?_|refine Gq ?_|refine GV ?_|refine Ic ?_|refine Lj ?_|(refine Tx 17 ?_;refine gO xEq <| gO xA ?_)|(refine Tx 18 ?_;refine gO xEq <| gO xA ?_)|(refine Tx 20 ?_;refine gO xEq <| gO xA ?_)|(refine Tx 21 ?_;refine gO xEq <| gO xA ?_)|refine Ajd ?_)
  exact CJ
 ·
  obtain ⟨a,hA0,ha0,hl0⟩:=B.a0 (by omega)
  have hl0:=hl0 (by omega)
  have hL0:=(gS.1 hA0).1
  obtain ⟨m0,hm0⟩:∃ m,mvP c.F c.E s (a:Int)=m:=⟨_,rfl⟩
  have t0:=Ev (F:=c.F) s0 s1 sE (a:Int)
  rw [hm0] at t0
  obtain ⟨X,hX⟩:=AgY (F:=c.F) (E:=c.E) (s:=s) hA0
  rw [hX,hm0]
  refine AJ (F':=ofL [(3,vr 0),(4,vr 1),(6,vr 2),(7,vr 3),(8,vi s),(9,vo 4 ((X.length+1)))]) (H':=[.box 26 [.d (CY t ps),.d (Cw t bs),.d (AU t os)],.box 30 [.d (AU u c.F),.d (.row false 6 c.R.length (An (dIw false) c.R)),.d (.row mk 3 c.E.length (An dyP c.E))],.box 43 [.d (.val (.bool false)),.d (.val (.slice none 0 0)),.d (.val (.int .i64 0))],.box 65 [.d (.val (.int .i64 y.kind)),.d (AU t y.args),.d (.val (.int .i64 y.vn)),.d (.val (.int .i64 y.ve)),.d (.val (.int .i64 y.un)),.d (.val (.int .i64 y.ue))],.row 43 3 (X.length+1) ((An dyP (m0::X)).map C.d)]) (Be 5) ?_
  rw [show AP ps c.F c.R c.E y s=m0 by unfold AP;rw [if_neg (by omega),if_neg (by omega),if_neg (by omega),if_pos (by omega),ha0,hm0]]
  repeat' (with_reducible first|refine qq ?_|refine Gq ?_|refine GV ?_|refine Ic ?_|refine Lj ?_|(refine Tx 17 ?_;refine gO xEq <| gO xA ?_)|(refine Tx 18 ?_;refine gO xEq <| gO xA ?_)|(refine Tx 19 ?_;refine gO xM <| gO (xIo (i:=0) Ag) <| gO xL <| gZ (xSk Aa) ?_))
  exact CJ
 ·
  obtain ⟨a,hA0,ha0,hl0⟩:=B.a0 (by omega)
  have hl0:=hl0 (by omega)
  have hL0:=(gS.1 hA0).1
  obtain ⟨m0,hm0⟩:∃ m,mvP c.F c.E s (a:Int)=m:=⟨_,rfl⟩
  have t0:=Ev (F:=c.F) s0 s1 sE (a:Int)
  rw [hm0] at t0
  obtain ⟨X,hX⟩:=AgY (F:=c.F) (E:=c.E) (s:=s) hA0
  rw [hX,hm0]
  refine AJ (F':=ofL [(3,vr 0),(4,vr 1),(6,vr 2),(7,vr 3),(8,vi s),(9,vo 4 ((X.length+1)))]) (H':=[.box 26 [.d (CY t ps),.d (Cw t bs),.d (AU t os)],.box 30 [.d (AU u c.F),.d (.row false 6 c.R.length (An (dIw false) c.R)),.d (.row mk 3 c.E.length (An dyP c.E))],.box 43 [.d (.val (.bool false)),.d (.val (.slice none 0 0)),.d (.val (.int .i64 0))],.box 65 [.d (.val (.int .i64 y.kind)),.d (AU t y.args),.d (.val (.int .i64 y.vn)),.d (.val (.int .i64 y.ve)),.d (.val (.int .i64 y.un)),.d (.val (.int .i64 y.ue))],.row 43 3 (X.length+1) ((An dyP (m0::X)).map C.d)]) (Be 5) ?_
  have WH:=GJ y.vn y.ve s (B.sv (by omega)) s0 s1
  have WU:=GJ y.un y.ue s (B.su k) s0 s1
  have ib:=Mx (b:=(!Bn y.vn y.ve s || !Bn y.un y.ue s)) s0 s1
  have IX:=Ew s s0 s1 (!Bn y.vn y.ve s || !Bn y.un y.ue s)
  have C:=(Hq Ah false false m0.1 m0.2 (ixP (!Bn y.vn y.ve s || !Bn y.un y.ue s) s).1 (ixP (!Bn y.vn y.ve s || !Bn y.un y.ue s) s).2 t0.ok ib.ok t0.lz ib.lz).cv
  rw [show AP ps c.F c.R c.E y s=GG m0 (ixP (!Bn y.vn y.ve s || !Bn y.un y.ue s) s) by unfold AP;rw [if_neg (by omega),if_neg (by omega),if_neg (by omega),if_neg (by omega),if_neg (by omega),if_neg (by omega),if_neg (by omega),if_pos k,ha0,hm0]]
  cases hw:Bn y.vn y.ve s
  case false =>
   rw [hw] at WH IX C
   simp only [dg,df,fd,cj] at IX C
   simp only [dg,df,fd,cj]
   repeat' (with_reducible first|refine qq ?_|refine Gq ?_|refine GV ?_|refine Ic ?_|refine Lj ?_|(refine Tx 17 ?_;refine gO xEq <| gO xA ?_)|(refine Tx 18 ?_;refine gO xEq <| gO xA ?_)|(refine Tx 20 ?_;refine gO xEq <| gO xA ?_)|(refine Tx 21 ?_;refine gO xEq <| gO xA ?_)|(refine Tx 23 ?_;refine gO xEq <| gO xA ?_)|(refine Tx 26 ?_;refine gO xEq <| gO xA ?_)|(refine Tx 30 ?_;refine gO xEq <| gO xA ?_)|refine Ajf ?_)
   exact CJ
  case true =>
   rw [hw] at WH IX C
   simp only [dg,df,fd,cj] at IX C
   simp only [dg,df,fd,cj]
   repeat' (with_reducible first|refine qq ?_|refine Gq ?_|refine GV ?_|refine Ic ?_|refine Lj ?_|(refine Tx 17 ?_;refine gO xEq <| gO xA ?_)|(refine Tx 18 ?_;refine gO xEq <| gO xA ?_)|(refine Tx 20 ?_;refine gO xEq <| gO xA ?_)|(refine Tx 21 ?_;refine gO xEq <| gO xA ?_)|(refine Tx 23 ?_;refine gO xEq <| gO xA ?_)|(refine Tx 26 ?_;refine gO xEq <| gO xA ?_)|(refine Tx 30 ?_;refine gO xEq <| gO xA ?_)|refine Ajf ?_)
   exact CJ
section
variable {x:Pq} {n:Nat}
theorem AqE (h:Sm x n n) (hn:n≤65000) (k:Int) (k0 : -30≤k) (k1:k≤64) (h1:gv x ≤ -gv (pw k)) (h2:¬ gv x ≤ -gv (pw (k+1))):upP x=Em (pw k):=by
 have hp:=Bf (GQ - x.2)
 have hd:=h.d
 rw [EL (by omega) (by omega)] at h1 h2
 have q1:=Bf (65536+k).toNat
 have ex:gv x=x.1*2 ^ (GQ - x.2):=rfl
 have hx:x.1<0:=bu fun hc=>by
  have:=ia (show 0≤x.1 by omega) (bg hp)
  omega
 obtain ⟨b1,b2,b3⟩:=SQ (x:=x) (by omega)
 have hk:upK x=(Bj x.1.natAbs:Int) - 1 - x.2:=rfl
 have hG:GQ=65536:=rfl
 generalize hb:Bj x.1.natAbs=b at *
 have ha:x.1 = -((x.1.natAbs:Nat):Int):=by omega
 have c2:(2:Int) ^ (b - 1)≤((x.1.natAbs:Nat):Int):=by exact_mod_cast b2
 have c3:((x.1.natAbs:Nat):Int)<2 ^ b:=by exact_mod_cast b3
 generalize ((x.1.natAbs:Nat):Int)=m at *
 rw [ex,ha,di] at h1 h2
 have e1:(2:Int) ^ (65536+k).toNat<2 ^ (b+(GQ - x.2)):=by
  rw [ak]
  have:=kg c3 hp
  omega
 have e2:(2:Int) ^ (b - 1+(GQ - x.2))<2 ^ (65536+(k+1)).toNat:=by
  rw [ak]
  have:=eh c2 (bg hp)
  omega
 have f1:=Qa e1
 have f2:=Qa e2
 have hbn:x.2≤65000:=by omega
 have:upK x=k:=by omega
 unfold upP
 rw [if_neg (by omega),if_pos hx,if_neg (by omega),this]
theorem Aha (h:Sm x n n) (hn:n≤65000) (h0:gv x≤0) (h2:¬ gv x ≤ -gv (pw (-30))):upP x=(0,0):=by
 have hp:=Bf (GQ - x.2)
 have hd:=h.d
 have ex:gv x=x.1*2 ^ (GQ - x.2):=rfl
 have hx:x.1≤0:=bu fun hc=>by
  have:=Int.mul_pos (show 0<x.1 by omega) hp
  omega
 by_cases hz:x.1=0
 ·have h3:=h.ok.2
  have h4:x.2=0:=bu fun hc=>by have:=h3 hc;rw [hz] at this;cases this
  unfold upP
  rw [if_pos hz]
  exact Prod.ext hz h4
 rw [EL (by omega) (by omega)] at h2
 obtain ⟨b1,b2,b3⟩:=SQ (x:=x) hz
 have hk:upK x=(Bj x.1.natAbs:Int) - 1 - x.2:=rfl
 have hG:GQ=65536:=rfl
 generalize hb:Bj x.1.natAbs=b at *
 have ha:x.1 = -((x.1.natAbs:Nat):Int):=by omega
 have c2:(2:Int) ^ (b - 1)≤((x.1.natAbs:Nat):Int):=by exact_mod_cast b2
 generalize ((x.1.natAbs:Nat):Int)=m at *
 rw [ex,ha,di] at h2
 have e2:(2:Int) ^ (b - 1+(GQ - x.2))<2 ^ (65536+(-30:Int)).toNat:=by
  rw [ak]
  have:=eh c2 (bg hp)
  omega
 have f2:=Qa e2
 unfold upP
 rw [if_neg hz,if_pos (by omega),if_pos (by omega)]
theorem Ajl (h:p:=by
 rw [EL (by omega) (by omega),EL (by omega) (by omega),show (65536+upK x).toNat=(65536+(upK x - 1)).toNat+1 by omega,fw]
 have:=Bf (65536+(upK x - 1)).toNat
 omega):p:=h
theorem Ams (h:Sm x n n) (hn:n≤65000) (k:Int) (k0 : -30≤k) (k1:k≤64) (hx:0<gv x) (h1:gv x≤gv (pw k)) (h2:k = -30∨¬ gv x≤gv (pw (k - 1))):upP x=pw k:=by
 have hp:=Bf (GQ - x.2)
 have hd:=h.d
 have ex:gv x=x.1*2 ^ (GQ - x.2):=rfl
 have hx1:0<x.1:=bu fun hc=>by
  have:=lh (show x.1≤0 by omega) (bg hp)
  omega
 obtain ⟨b1,b2,b3⟩:=SQ (x:=x) (by omega)
 have hk:upK x=(Bj x.1.natAbs:Int) - 1 - x.2:=rfl
 have hG:GQ=65536:=rfl
 have bn:Bj x.1.natAbs≤n:=Dj.2 h.n
 generalize hb:Bj x.1.natAbs=b at *
 have ha:x.1=((x.1.natAbs:Nat):Int):=by omega
 have c2:(2:Int) ^ (b - 1)≤((x.1.natAbs:Nat):Int):=by exact_mod_cast b2
 have c3:((x.1.natAbs:Nat):Int)<2 ^ b:=by exact_mod_cast b3
 rw [←ha] at c2 c3
 have hlo:gv (pw (upK x))≤gv x:=by
  rw [EL (by omega) (by omega),show (65536+upK x).toNat=b - 1+(GQ - x.2) by omega,ak,ex]
  exact eh c2 (bg hp)
 have hhi:gv x<gv (pw (upK x+1)):=by
  rw [EL (by omega) (by omega),show (65536+(upK x+1)).toNat=b+(GQ - x.2) by omega,ak,ex]
  exact kg c3 hp
 have mono:∀ i j:Int,-65536≤i→i≤65536 → -65536≤j→j≤65536→gv (pw i)<gv (pw j)→i<j:=fun i j i0 i1 j0 j1 hij=>by
  rw [EL i0 i1,EL j0 j1] at hij
  have:=Qa hij
  omega
 have mono2:∀ i j:Int,-65536≤i→j≤65536→i≤j→gv (pw i)≤gv (pw j):=fun i j i0 j1 hij=>by
  rw [EL i0 (by omega),EL (by omega) j1]
  exact Ta (by omega)
 have sk:=(NQ (k:=upK x) (n:=65000) (by omega) (by omega) (by decide)).le
 unfold upP
 rw [if_neg (by omega),if_neg (by omega)]
 have hc:Gf (pw (upK x)) x<0 ↔ gv (pw (upK x))<gv x:=by
  have:0≤Gf (pw (upK x)) x ↔ gv x≤gv (pw (upK x)):=Px (p:=pw (upK x)) (q:=x) sk h.le
  omega
 have key:max (if Gf (pw (upK x)) x<0 then upK x+1 else upK x) (-30)=k:=by
  by_cases hlt:gv (pw (upK x))<gv x
  ·rw [if_pos (hc.2 hlt)]
   have g1:=mono (upK x) k (by omega) (by omega) (by omega) (by omega) (by omega)
   rcases h2 with h2|h2
   ·omega
   ·have g2:=mono (k - 1) (upK x+1) (by omega) (by omega) (by omega) (by omega) (by omega)
    omega
  ·rw [if_neg (fun hh=>hlt (hc.1 hh))]
   have g1:upK x≤k:=bu fun hn=>by
    have:=mono k (upK x) (by omega) (by omega) (by omega) (by omega) (by
     rcases Int.lt_or_le (gv (pw k)) (gv (pw (upK x))) with h|h
     ·exact h
     ·have h3:=mono2 k (upK x - 1) (by omega) (by omega) (by omega)
      have h4:gv (pw (upK x - 1))<gv (pw (upK x)):=by
       exact Ajl
      omega)
    have h3:=mono2 k (upK x - 1) (by omega) (by omega) (by omega)
    have h4:gv (pw (upK x - 1))<gv (pw (upK x)):=by
     exact Ajl
    omega
   rcases h2 with h2|h2
   ·omega
   ·have g2:=mono (k - 1) (upK x) (by omega) (by omega) (by omega) (by omega) (by omega)
    omega
 rw [key]
end
theorem Asd {x:Pq}:sgI x.1≤0 ↔ gv x≤0:=by
 have hp:=Bf (GQ - x.2)
 have h1:sgI x.1≤0 ↔ x.1≤0:=by unfold sgI;(repeat' split) <;> omega
 rw [h1]
 unfold gv
 constructor
 ·intro h
  exact lh h (bg hp)
 ·intro h
  refine bu fun hc=>?_
  have:=Int.mul_pos (show 0<x.1 by omega) hp
  omega
theorem Qg (s:Int) (s0 : -64≤s) (s1:s≤64):CV prog Ah 175 [aI s] [aDy false (pw s).1 (pw s).2]:=by
 refine cvz func175 ntmps175 ?_
 have OF:=(Nd (G:=Ah) 1 (by decide) (by decide)).cv
 have SH:=(Ee (G:=Ah) false 1 0 s ⟨by decide,fun h=>absurd rfl h⟩ (lT (Aw (k:=2) (by decide)) (by decide)) (by omega)).cv
 repeat' (with_reducible first|refine qq ?_|(refine Tx 0 ?_;refine gN (xAl Aj) ?_)|(refine Tx 1 ?_;refine gO (xCl func34 (OF)) <| gO xM <| gO (xCl func33 (SH)) <| gZ (xSk Aa) ?_))
 exact CJ
theorem Qh (a:Iq) (h:IwS a 20000 20000):CV prog Ah 102 [aIw false a] [aB (EQ a)]:=by
 refine cvz func102 ntmps102 ?_
 have MG:=MF a h
 have hm:=h.abs.s2
 have PW:=Qg 40 (by decide) (by decide)
 have hp:=NQ (k:=40) (n:=40) (by decide) (by decide) (by decide)
 have CM:=(Ef (G:=Ah) false false (Fu a).1 (Fu a).2 (pw 40).1 (pw 40).2 hm.ok hp.ok hm.lz hp.lz).cv
 have hf:decide (0<Gf (Fu a) (pw 40))=EQ a:=rfl
 repeat' (with_reducible first|refine qq ?_|(refine Tx 0 ?_;refine gN xBo <| gO xA ?_)|(refine Tx 1 ?_;refine gO xL <| gO (xCl func174 (MG)) <| gO (xCl func175 (PW)) <| gO (xCl func115 (CM)) <| gO (by first|exact Hk rfl rfl rfl hf|exact xGt) <| gO xA ?_))
 exact Au rfl (.cons_ (Db rfl rfl) .nil_)
theorem Qi (x:Pq) (sx:Sm x 20000 20000) (h42:¬ gv x ≤ -gv (pw (41+1))) (h41:gv x≤gv (pw (42 - 1))):CV prog Ah 106 [aDy false x.1 x.2] [aDy false (upP x).1 (upP x).2]:=by
 refine cvz func106 ntmps106 ?_
 have lx:=lT (sx.lenN 625 (by decide)) (show 625≤50000 by decide)
 repeat' (with_reducible first|refine qq ?_|(refine Tx 0 ?_;refine gN xBo <| gN (xAl Aj) ?_)|(refine Tx 1 ?_;refine gO xA ?_))
 refine AJ (Be 2) (Al (fun n Fr H=>∃ k:Int,k≤41 ∧ -31≤k∧n=(k+31).toNat∧¬ gv x ≤ -gv (pw (k+1))∧Fr=ofL [(1,vr 0),(2,vr 1),(3,vi k)]∧H=[.box 43 ((dDy false x.1 x.2).map C.d),.box 43 [.d (.val (.bool false)),.d (.val (.slice none 0 0)),.d (.val (.int .i64 0))]]) (n0:=72) ⟨41,by decide,by decide,by decide,h42,rfl,rfl⟩ ?_)
 rintro n Fr H ⟨k,k1,k0,rfl,hk,rfl,rfl⟩
 by_cases hlt : -30≤k
 case pos =>
  have PW:=Qg k (by omega) (by omega)
  have sp:=NQ (k:=k) (n:=64) (by omega) (by omega) (by decide)
  have NG:=(LD Ah false (pw k).1 (pw k).2 sp.ok sp.lz).cv
  have sn:=sp.neg
  have CM:=(Ef (G:=Ah) false false (-(pw k).1) (pw k).2 x.1 x.2 sn.ok sx.ok sn.lz lx).cv
  have hc:0≤Bm (-(pw k).1) (pw k).2 x.1 x.2 ↔ gv x ≤ -gv (pw k):=by rw [←El];exact Px sn.le sx.le
  obtain ⟨c,hcc⟩:∃ c,Bm (-(pw k).1) (pw k).2 x.1 x.2=c:=⟨_,rfl⟩
  rw [hcc] at CM hc
  by_cases h1:0≤c
  case pos =>
   rw [AqE (n:=20000) sx (by decide) k hlt (by omega) (hc.1 h1) hk]
   repeat' (with_reducible first|refine qq ?_|(refine Tx 2 ?_;refine gO xM <| gO xGe ?_)|(refine Tx 4 ?_;refine gO xM <| gO (xCl func175 (PW)) <| gO (xCl func105 (NG)) <| gN (xAl Aj) <| gZ (xSk Aa) ?_)|(refine Tx 5 ?_;refine gO xL <| gO xL <| gO (xCl func115 (CM)) <| gO xGe ?_)|(refine Tx 6 ?_;refine gO xL <| gZ (xSk Aa) ?_))
   exact CJ
  repeat' (with_reducible first|refine qq ?_|(refine Tx 2 ?_;refine gO xM <| gO xGe ?_)|(refine Tx 4 ?_;refine gO xM <| gO (xCl func175 (PW)) <| gO (xCl func105 (NG)) <| gN (xAl Aj) <| gZ (xSk Aa) ?_)|(refine Tx 5 ?_;refine gO xL <| gO xL <| gO (xCl func115 (CM)) <| gO xGe ?_)|(refine Tx 3 ?_;refine gO xM <| gO xSb <| gO xA ?_))
  refine ⟨_,_,Be 2,_,by omega,k - 1,by omega,by omega,rfl,by rw [Int.sub_add_cancel];exact fun h=>h1 (hc.2 h),rfl,rfl⟩
 obtain rfl:k = -31:=by omega
 have SG:=AgE x.1 x.2 sx.ok sx.lz
 have hsg:sgI x.1≤0 ↔ gv x≤0:=Asd
 obtain ⟨c,hcc⟩:∃ c,sgI x.1=c:=⟨_,rfl⟩
 rw [hcc] at SG hsg
 have OF:=(Nd (G:=Ah) 0 (by decide) (by decide)).cv
 by_cases h1:c≤0
 case pos =>
  rw [Aha (n:=20000) sx (by decide) (hsg.1 h1) hk]
  repeat' (with_reducible first|refine qq ?_|(refine Tx 2 ?_;refine gO xM <| gO xGe ?_)|(refine Tx 7 ?_;refine gO xL <| gO (xCl func179 (SG)) <| gO xLe ?_)|(refine Tx 8 ?_;refine gO (xCl func34 (OF)) <| gZ (xSk Aa) ?_))
  exact CJ
 repeat' (with_reducible first|refine qq ?_|(refine Tx 2 ?_;refine gO xM <| gO xGe ?_)|(refine Tx 7 ?_;refine gO xL <| gO (xCl func179 (SG)) <| gO xLe ?_)|(refine Tx 9 ?_;refine gO xA ?_))
 refine AJ (F':=ofL [(1,vr 0),(2,vr 1),(5,vi (-30))]) (H':=[.box 43 ((dDy false x.1 x.2).map C.d),.box 43 [.d (.val (.bool false)),.d (.val (.slice none 0 0)),.d (.val (.int .i64 0))]]) (Be 2) ?_
 have hx0:0<gv x:=Int.not_le.1 fun h=>h1 (hsg.2 h)
 clear hk SG OF hlt k1 k0
 refine Al (fun n Fr H=>∃ k:Int,k≤42 ∧ -30≤k∧n=(42 - k).toNat∧(k = -30∨¬ gv x≤gv (pw (k - 1)))∧Fr=ofL [(1,vr 0),(2,vr 1),(5,vi k)]∧H=[.box 43 ((dDy false x.1 x.2).map C.d),.box 43 [.d (.val (.bool false)),.d (.val (.slice none 0 0)),.d (.val (.int .i64 0))]]) (n0:=72) ⟨-30,by decide,by decide,by decide,.inl rfl,rfl,rfl⟩ ?_
 rintro n Fr H ⟨k,k1,k0,rfl,hk,rfl,rfl⟩
 by_cases hlt:k≤41
 case pos =>
  have PW:=Qg k (by omega) (by omega)
  have sp:=NQ (k:=k) (n:=64) (by omega) (by omega) (by decide)
  have CM:=(Ef (G:=Ah) false false (pw k).1 (pw k).2 x.1 x.2 sp.ok sx.ok sp.lz lx).cv
  have hc:0≤Bm (pw k).1 (pw k).2 x.1 x.2 ↔ gv x≤gv (pw k):=Px sp.le sx.le
  obtain ⟨c,hcc⟩:∃ c,Bm (pw k).1 (pw k).2 x.1 x.2=c:=⟨_,rfl⟩
  rw [hcc] at CM hc
  by_cases h1:0≤c
  case pos =>
   rw [Ams (n:=20000) sx (by decide) k k0 (by omega) hx0 (hc.1 h1) hk]
   repeat' (with_reducible first|refine qq ?_|(refine Tx 10 ?_;refine gO xM <| gO xLe ?_)|(refine Tx 12 ?_;refine gO xM <| gO (xCl func175 (PW)) <| gN (xAl Aj) <| gZ (xSk Aa) ?_)|(refine Tx 13 ?_;refine gO xL <| gO xL <| gO (xCl func115 (CM)) <| gO xGe ?_)|(refine Tx 14 ?_;refine gO xL <| gZ (xSk Aa) ?_))
   exact CJ
  repeat' (with_reducible first|refine qq ?_|(refine Tx 10 ?_;refine gO xM <| gO xLe ?_)|(refine Tx 12 ?_;refine gO xM <| gO (xCl func175 (PW)) <| gN (xAl Aj) <| gZ (xSk Aa) ?_)|(refine Tx 13 ?_;refine gO xL <| gO xL <| gO (xCl func115 (CM)) <| gO xGe ?_)|(refine Tx 11 ?_;refine gO xM <| gO xAd <| gO xA ?_))
  refine ⟨_,_,Be 2,_,by omega,k+1,by omega,by omega,rfl,.inr (by rw [Int.add_sub_cancel];exact fun h=>h1 (hc.2 h)),rfl,rfl⟩
 obtain rfl:k=42:=by omega
 exact absurd h41 (hk.resolve_left (by decide))
theorem Ajm (h:p:=by first|exact xCl func176 (AA)|exact xCl func176 (AB)):p:=h
theorem Aev (a b:Iq) (h:IwS a 20000 20000) (k:IwS b 20000 20000):CV prog Ah 104 [aIw false a,aIw false b] [aIw false (Gg a b)]:=by
 refine cvz func104 ntmps104 ?_
 have h1:=h.s1
 have h2:=h.s2
 have hl:=lT (h1.l4) (show 40000≤50000 by decide)
 have hm:=lT (h2.l4) (show 40000≤50000 by decide)
 have k1:=k.s1
 have k2:=k.s2
 have kl:=lT (k1.l4) (show 40000≤50000 by decide)
 have km:=lT (k2.l4) (show 40000≤50000 by decide)
 have AA:=Cs a h (by decide)
 have AB:=Cs b k (by decide)
 have h1':Sm a.1 40064 40000:=h1.more (by decide) (by decide)
 have h2':Sm a.2 40064 40000:=h2.more (by decide) (by decide)
 have k1':Sm b.1 40064 40000:=k1.more (by decide) (by decide)
 have k2':Sm b.2 40064 40000:=k2.more (by decide) (by decide)
 have SP:=Gj true [a.1,a.2,b.1,b.2] (by simp) (fun p hp=>by simp only [cr,ct,or_false] at hp;rcases hp with rfl|rfl|rfl|rfl <;> assumption) (ax rfl)
 repeat' (with_reducible first|refine qq ?_|(refine Tx 0 ?_;refine gN xBo <| gN xBo <| gN (xAl Ai) ?_)|(refine Ax (id:=1) 4 AC (by kernel_rfl) ?_;dsimp only [List.take,List.drop];refine gP xL <| gP Ajm <| gP xL <| gP Ajm ?_;refine Ke ?_;refine gZ (xSk Ab) <| gZ (xSk Ab) ?_)|(refine Tx 2 ?_;refine gO xF <| gO xL <| gO xF <| gO xL <| gO xF <| gO xL <| gO xF <| gO xL <| gN (by exact ED rfl rfl Ag Aj (by decide) (by decide) (by decide) rfl rfl rfl) <| gO (xCl func162 (SP)) <| gZ (xSk Ab) ?_))
 exact Au rfl (.cons_ (rvJ Ab rfl) .nil_)
theorem Aam (a:Iq) (den:Nat) (h:IwS a 20000 20000) (hd:den≤65536):CV prog Ah 103 [aIw false a,aI (den:Int)] [aIw false (GO a den),aI 0]:=by
 refine cvz func103 ntmps103 ?_
 have h1:=h.s1
 have h2:=h.s2
 have hl:=lT (h1.l4) (show 40000≤50000 by decide)
 have hm:=lT (h2.l4) (show 40000≤50000 by decide)
 have AA:=Cs a h (by decide)
 have FL:=(Qe a.1.1 a.1.2 den h1.ok h1.lz hd).cv
 have CE:=YQ a.2.1 a.2.2 den h2.ok h2.lz hd
 repeat' (with_reducible first|refine qq ?_|(refine Tx 0 ?_;refine gN xBo <| gN (xAl Ai) <| gO xA ?_)|(refine Tx 1 ?_;refine gO xL <| gO (xCl func176 (AA)) <| gZ (xSk Ab) ?_)|(refine Tx 2 ?_;refine gO xF <| gO xL <| gO xM <| gO (xCl func177 (FL)) <| gO xMt <| gO (by exact CQ rfl rfl rfl) <| gO xEx <| gN (xAl Aj) <| gZ (xSk Aa) <| gO xA ?_)|(refine Tx 3 ?_;refine gO xF <| gO xL <| gO xM <| gO (xCl func178 (CE)) <| gO xMt <| gO (by exact CQ rfl rfl rfl) <| gO xEx <| gN (xAl Aj) <| gZ (xSk Aa) <| gO xA ?_)|(refine Tx 4 ?_;refine gO xM <| gO xNe ?_)|(refine Tx 6 ?_;refine gO xL <| gO xL <| gO (by exact AF rfl BR rfl rfl) <| gZ (xSk Ab) <| gO xA ?_))
 exact Au rfl (.cons_ (rvJ Ab rfl) (.cons_ (Lw rfl rfl) .nil_))
theorem AqF {a:Iq} {d:Nat} (h:IwS a n d) (h1 : -P2 70≤gv a.1) (h2:gv a.2≤P2 70):EQ a=false:=by
 have hp:=NQ (k:=40) (n:=40) (by decide) (by decide) (by decide)
 refine decide_eq_false (Int.not_lt.2 ((Hx (p:=Fu a) (q:=pw 40) h.abs.s2.le hp.le).2 ?_))
 rw [EL (by decide) (by decide),show gv (Fu a)=_ from (Wn h).2]
 have e:(2:Int) ^ (65536+(40:Int)).toNat=P2 70:=by unfold P2;congr 1
 rw [e]
 have:=h.le
 omega
theorem Ahb {a:Iq} (h:IwS a LB LB) (k:IwS r LB LB) (hf:EQ (Cc a r)=true):EQ (Du w a r)=true:=by
 obtain ⟨s,r1,r2,r3,r4⟩:=Re h k
 obtain ⟨u1,u2,u3⟩:Sm (upP (Em (Cc a r).1)) 20000 20000∧gv (Em (Cc a r).1)≤gv (upP (Em (Cc a r).1))∧inU (gv (upP (Em (Cc a r).1))):=Nl s.s1.neg
 obtain ⟨v1,v2,v3⟩:=Nl s.s2
 rw [show gv (Em (Cc a r).1) = -gv (Cc a r).1 from El _] at u2
 rw [←gf]
 intro hc
 have ss:=(PN (w:=w) h k).1
 obtain ⟨g1,g2,g3,g4⟩:=AdF ss hc
 have e1:gv (Du w a r).1≤gv (Cc a r).1:=by
  show gv (if (w && loC a r)=true then _ else _)≤_
  split
  ·rw [El];omega
  ·exact ci _
 have e2:gv (Cc a r).2≤gv (Du w a r).2:=by
  show _≤gv (if (w && hiC a r)=true then _ else _)
  split
  ·exact v2
  ·exact ci _
 rw [AqF s (by omega) (by omega)] at hf
 cases hf
def stD (w:Bool) (a r:Iq):Iq:=if EQ (Cc a r)=true then Cc a r else Du w a r
theorem Amt {a:Iq} (h:IwS a LB LB) (k:IwS r LB LB):EQ (stD w a r)=EQ (Du w a r)∧(EQ (Du w a r)=false→stD w a r=Du w a r)∧IwS (stD w a r) 20000 20000:=by
 unfold stD
 by_cases hf:EQ (Cc a r)=true
 ·rw [if_pos hf,hf,Ahb h k hf]
  exact ⟨rfl,(fun h=>by cases h),(Re h k).1.more (by decide) (by decide)⟩
 ·rw [if_neg hf]
  exact ⟨rfl,fun _=>rfl,(PN h k).1⟩
def nxD (ps:List Prt) (bs:List Bk) (w:Bool) (l:List Iq) (k:Nat):Iq:=stD w (l[k]?.getD iZ) (rgA ps bs l k)
def DD (ps:List Prt) (bs:List Bk) (w:Bool) (l:List Iq):List Iq:=(List.range (AX bs).length).map (nxD ps bs w l)
section
variable {ps:List Prt} {bs:List Bk} {os:List Int} {l:List Iq}
theorem Aew (w:Bool):(DD ps bs w l).length=(AX bs).length:=by unfold DD;rw [af,fb]
theorem Ahc {k i b:Nat} {a:Iq} (hk:k<(AX bs).length) (hi:(AX bs)[k]?=some i) (hy:bs[i]?=some y) (hA:y.args[0]?=some (b:Int)) (ha:l[k]?=some a) (hr:(rgV ps bs l)[b]?=some r):(DD ps bs w l)[k]?=some (stD w a r):=by
 have e1:rgA ps bs l k=r:=by unfold rgA;rw [hi,bf,Wl hy hA,hr,bf]
 unfold DD
 rw [ag,jf hk,dc]
 unfold nxD
 rw [ha,bf,e1]
theorem WJ (h0:AY ps bs os=0) (hI:PP bs l) (hb:Dt ps bs l=false) (w:Bool) {k:Nat} (hk:k<(AX bs).length):EQ (nxD ps bs w l k)=EQ (nxI ps bs w l k)∧(EQ (nxI ps bs w l k)=false→nxD ps bs w l k=nxI ps bs w l k)∧IwS (nxD ps bs w l k) 20000 20000 :=
 Amt (hI.lb hb _ (IB (by rw [hI.len];exact hk) iZ)) (UM h0 hI hb hk)
theorem Aex (h0:AY ps bs os=0) (hI:PP bs l) (hb:Dt ps bs l=false) (w:Bool):(DD ps bs w l).any EQ=(Cv ps bs w l).any EQ:=by
 unfold DD Cv
 have h:∀ k∈List.range (AX bs).length,EQ (nxD ps bs w l k)=EQ (nxI ps bs w l k):=fun k hk=>(WJ h0 hI hb w (List.mem_range.1 hk)).1
 generalize nxD ps bs w l=f at *
 generalize nxI ps bs w l=g at *
 rw [List.any_map,List.any_map,ji,List.any_eq_true,List.any_eq_true]
 constructor
 ·rintro ⟨k,hk,h1⟩
  exact ⟨k,hk,(h k hk).symm.trans h1⟩
 ·rintro ⟨k,hk,h1⟩
  exact ⟨k,hk,(h k hk).trans h1⟩
theorem Ahd (h0:AY ps bs os=0) (hI:PP bs l) (hb:Dt ps bs l=false) (w:Bool) (hf:(Cv ps bs w l).any EQ=false):DD ps bs w l=Cv ps bs w l:=by
 have h1:∀ a∈Cv ps bs w l,EQ a=false:=fun a ha=>by
  have:=List.any_eq_false.1 hf a ha
  rwa [ay] at this
 unfold Cv at h1
 unfold DD Cv
 exact fc fun k hk=>(WJ h0 hI hb w (List.mem_range.1 hk)).2.1 (h1 _ (kc hk))
theorem Ahe (h0:AY ps bs os=0) (hI:PP bs l) (hb:Dt ps bs l=false) (w:Bool):∀ a∈DD ps bs w l,IwS a 20000 20000:=fun a ha=>by
 obtain ⟨k,hk,rfl⟩:=List.mem_map.1 ha
 exact (WJ h0 hI hb w (List.mem_range.1 hk)).2.2
end
theorem AqG {x:Pq} (h1 : -P2 70≤gv x) (h2:gv x≤P2 70):¬ gv x ≤ -gv (pw (41+1))∧gv x≤gv (pw (42 - 1)):=by
 have e0:P2 70=2 ^ 65576:=rfl
 rw [EL (by decide) (by decide),EL (by decide) (by decide)]
 have e1:(2:Int) ^ 65576<2 ^ (65536+(41+1:Int)).toNat:=by
  rw [show (65536+(41+1:Int)).toNat=65576+2 by decide,ak]
  have:=Bf 65576
  omega
 have e2:(2:Int) ^ 65576≤2 ^ (65536+(42 - 1:Int)).toNat:=Ta (by decide)
 omega
theorem Ajn (k:p') (h:Hd9 p'→p:=by with_reducible first|(intro Z9;refine Tx 6 ?_;refine gO (xIr Ag (AfX hp)) <| gO xL <| gN (xAl Aj) <| gZ (xSk Aa) ?_;exact Z9.o)|(intro Z9;refine Tx 7 ?_;refine gO xM <| gO xL <| gO (xCl func101 (PT)) <| gN (by exact BH rfl Ad Ai rfl rfl (by decide) (by decide)) <| gT (by exact Mj rfl rfl rfl rfl rfl rfl Ad Ai (by omega) (by decide) (by decide) rfl hap hap2) <| gO xA ?_;exact Z9.o)|(intro Z9;refine Tx 8 ?_;refine gO xL <| gO (xCl func101 (PT)) <| gO (xCl func102 (FR)) ?_;exact Z9.o)|fail):p:=h ⟨k⟩
theorem Aey (h:p:=by
 exact Au rfl (.cons_ (.tmp (.one (GL rfl rfl))) (.cons_ (Lw rfl rfl) .nil_))):p:=h
theorem WK (t:Bool) {ps:List Prt} {bs:List Bk} {os:List Int} (hl:Dx ps bs os) (h0:AY ps bs os=0) (rd:Int) (r0:1≤rd) (r1:rd≤16) (res:Int × List Iq) (f:Nat) (hf:f≤1000000000) (hres:La ps bs rd f=some res):CV prog Ah 47 [aDg t ps bs os,aI rd] [AeT res.2,aI res.1]:=by
 refine cvz func47 ntmps47 ?_
 have SC:=Adi t hl h0
 have DL:=Iy t hl (ps:=ps) (bs:=bs) (os:=os)
 unfold AmK at SC
 have hnl:=BP (AX bs)
 have hl2:=hl.l2
 have hdb:=Fp bs
 have hso:=Iw h0
 have hsl:=hso.len
 have hsi:(BZ bs).length=(BB bs).length:=af ..
 repeat' (with_reducible first|refine qq ?_|(refine Tx 0 ?_;refine gN xBo <| gO xA <| gO xA ?_)|(refine Tx 1 ?_;refine gO xM <| gO xLt <| gO xM ?_;(first|iterate 2 refine Jd ?_|(refine Jy xM1 ?_;refine Jy xGt ?_));refine gO xPk ?_)|(refine Tx 3 ?_;refine gO xA ?_))
 refine AJ (Fh 6 45 6 rfl) ?_
 repeat' (with_reducible first|refine qq ?_|(refine Tx 4 ?_;refine gO xL <| gO (xCl func100 (SC)) <| gO xN <| gO xM ?_))
 refine AJ (Be 2) (Al (fun n Fr H=>∃ k:Nat,k≤(BB bs).length∧n=(BB bs).length - k∧(∀ p∈((BZ bs).take (k)),EQ p=false)∧Fr=ofL [(1,vd (.val (.int .i64 rd))),(2,vr 0),(6,vo 1 (((BZ bs).take k).length)),(29,vd (.row false 3 (BB bs).length (An dyP (BB bs)))),(30,vi ((BB bs).length)),(31,vi ((k:Nat)))]∧H=[.box 26 [.d (CY t ps),.d (Cw t bs),.d (AU t os)],.row 45 6 ((BZ bs).take (k)).length ((An (dIw false) ((BZ bs).take (k))).map C.d)]) (n0:=(BB bs).length) ⟨0,ad _,rfl,(fun p hp=>by simp at hp),rfl,rfl⟩ ?_)
 rintro n Fr H ⟨k,hk,rfl,hnf,rfl,rfl⟩
 by_cases hlt:k<(BB bs).length
 case pos =>
  obtain ⟨p,hp⟩:∃ p,(BB bs)[k]?=some p:=⟨_,gE hlt⟩
  have hsm:=hso.sm p (gM hp)
  have lp:=lT (hsm.lenN 128 (by decide)) (show 128≤40000 by decide)
  have PT:=Fd p hsm.ok lp
  have FR:=Qh (p,p) ((IwS.pt hsm).more (by decide) (by decide))
  have hsp:(BZ bs)[k]?=some (p,p):=by unfold BZ;rw [ag,hp];rfl
  obtain ⟨hap,hap2,hoL⟩:=Gl hsp
  cases hf:EQ (p,p)
  case true =>
   rw [hf] at FR
   have hany:(BZ bs).any EQ=true:=List.any_eq_true.2 ⟨_,gM hsp,hf⟩
   rw [show La ps bs rd f=some (22,[]) from if_pos hany] at hres
   cases hres
   repeat' (with_reducible first|refine qq ?_|(refine Tx 5 ?_;refine gO xLt ?_)|refine Ajn ?_|(refine Tx 9 ?_;refine gO xA <| gO xA ?_))
   exact Aey
  case false =>
   rw [hf] at FR
   repeat' (with_reducible first|refine qq ?_|(refine Tx 5 ?_;refine gO xLt ?_)|refine Ajn ?_|(refine Tx 10 ?_;refine gO xAd <| gO xM ?_))
   refine ⟨_,_,Be 2,_,?_,k+1,by omega,rfl,Dr hnf hsp hf,rfl,rfl⟩
   ·omega
 obtain rfl:k=(BB bs).length:=by omega
 clear hlt hk
 have htk:(BZ bs).take (BB bs).length=BZ bs:=by rw [←hsi,aq]
 rw [htk] at hnf ⊢
 have hany:(BZ bs).any EQ=false:=List.any_eq_false.2 fun p hp=>by rw [hnf p hp];decide
 rw [show La ps bs rd f=FM ps bs rd f 1 (BZ bs) from if_neg (by rw [hany];decide)] at hres
 have hI0:=Nm h0 hany
 repeat' (with_reducible first|refine qq ?_|(refine Tx 5 ?_;refine gO xLt ?_)|(refine Tx 11 ?_;refine gO xA ?_))
 refine AJ (EG (ds:=An (dIw false) (BZ bs)) 6 1 rfl rfl) ?_
 refine AJ (Be 1) (Al (fun n Fr H=>∃ (r:Nat) (l:List Iq),FM ps bs rd n r l=some res∧PP bs l∧r+n≤1+f∧Fr=ofL [(1,vd (.val (.int .i64 rd))),(2,vr 0),(6,vd (.row false 6 l.length (An (dIw false) l))),(9,vi ((r:Nat)))]∧H=[.box 26 [.d (CY t ps),.d (Cw t bs),.d (AU t os)]]) (n0:=f) ⟨1,_,hres,hI0,aa _,rfl,rfl⟩ ?_)
 clear hres hI0 hnf hany htk
 rintro n Fr H ⟨r,l,hres,hI,hrn,rfl,rfl⟩
 cases n
 case zero =>
  cases hres
 rename_i n
 case succ =>
  unfold FM at hres
  have hll:=hI.len
  have EV:=UT t hl h0 (l.map Rh) (Ri hI.iw (by decide)) (by rw [af];omega)
  rw [Yv h0 hI.iw hll,IC,LM] at EV
  by_cases hb:Dt ps bs l=true
  case pos =>
   rw [if_pos hb] at hres
   cases hres
   rw [if_pos hb,NN (by decide)] at EV
   repeat' (with_reducible first|refine qq ?_|(refine Tx 13 ?_;refine gO xL <| gO xM <| gO (xCl func48 (EV)) <| gO xMt <| gO xEx <| gO xEx <| gO xA <| gO xA ?_)|(refine Tx 14 ?_;refine gO xM <| gO xNe ?_)|(refine Tx 15 ?_;refine gO xM <| gO xA <| gO xA ?_))
   exact Aey
  rw [if_neg hb] at hres
  rw [if_neg hb,Un rfl] at EV
  rw [ay] at hb
  unfold AeT at EV
  have hlb:=hI.lb hb
  have hvl:(rgV ps bs l).length=bs.length:=LL
  obtain ⟨w,hwd⟩:∃ w,decide (rd<(r:Int))=w:=⟨_,rfl⟩
  rw [hwd] at hres
  repeat' (with_reducible first|refine qq ?_|(refine Tx 13 ?_;refine gO xL <| gO xM <| gO (xCl func48 (EV)) <| gO xMt <| gO xEx <| gO xEx <| gO xA <| gO xA ?_)|(refine Tx 14 ?_;refine gO xM <| gO xNe ?_)|(refine Tx 16 ?_;refine gO xA ?_)|(refine Tx 17 ?_;refine gO xA ?_))
  refine AJ (Fh 13 45 6 rfl) ?_
  repeat' (with_reducible first|refine qq ?_|(refine Tx 18 ?_;refine gO xL <| gO (xCl func44 (DL)) <| gO xN <| gO xM ?_))
  refine AJ (Be 2 (h:=by rw [←hnl];exact mB rfl rfl)) (Al (fun n Fr H=>∃ k:Nat,k≤(AX bs).length∧n=(AX bs).length - k∧Fr=ofL [(1,vd (.val (.int .i64 rd))),(2,vr 0),(6,vd (.row false 6 l.length (An (dIw false) l))),(9,vi ((r:Nat))),(10,vd (.row false 6 (rgV ps bs l).length (An (dIw false) (rgV ps bs l)))),(12,vd (.val (.bool (Tk ps bs l k)))),(13,vo 1 (((DD ps bs w l).take k).length)),(56,vd (AU false (BU (AX bs)))),(57,vi ((AX bs).length)),(58,vi ((k:Nat)))]∧H=[.box 26 [.d (CY t ps),.d (Cw t bs),.d (AU t os)],.row 45 6 ((DD ps bs w l).take (k)).length ((An (dIw false) ((DD ps bs w l).take (k))).map C.d)]) (n0:=(AX bs).length) ⟨0,ad _,rfl,rfl,rfl⟩ ?_)
  rintro m Fr H ⟨k,hk,rfl,rfl,rfl⟩
  by_cases hlt:k<(AX bs).length
  case pos =>
   obtain ⟨i,hi⟩:∃ i,(AX bs)[k]?=some i:=⟨_,gE hlt⟩
   have hid:=Hv hi
   have hil:=hid.1
   obtain ⟨y,hy⟩:∃ y,bs[i]?=some y:=⟨_,gE hil⟩
   have hk2:=hid.2
   rw [Hu hy] at hk2
   obtain ⟨b,hA0,hbl⟩:=Wj h0 hy hk2
   obtain ⟨rr,hr,_,hrs⟩:=Yp h0 hlb hll hb hbl
   have hal:=(gS.1 hA0).1
   obtain ⟨a,ha⟩:∃ a,l[k]?=some a:=⟨_,gE (by omega)⟩
   have has:=hlb a (gM ha)
   have has2:=has.more LBx LBx
   have hrs2:=hrs.more LBx LBx
   have HU:=Aev a rr has2 hrs2
   have RO:CV prog Ah 103 [aIw false (Gg a rr),aI (64:Int)] [aIw false (Cc a rr),aI 0]:=Aam (Gg a rr) 64 (has2.hull hrs2) (by decide)
   obtain ⟨hq,_,_,_,_⟩:=Re has hrs
   have q1:=hq.s1
   have q2:=hq.s2
   have l1:=lT (q1.lenN 128 (by decide)) (show 128≤40000 by decide)
   have l2:=lT (q2.lenN 128 (by decide)) (show 128≤40000 by decide)
   have m1:=lT (has.s1.lenN 128 (by decide)) (show 128≤1000000 by decide)
   have m2:=lT (has.s2.lenN 128 (by decide)) (show 128≤1000000 by decide)
   have C1:=GH false false (Cc a rr).1 a.1 (lT l1 (by decide)) m1
   have C2:=GH false false (Cc a rr).2 a.2 (lT l2 (by decide)) m2
   have hb1:decide ((Cc a rr).1=a.1)=!loC a rr:=by unfold loC;simp
   have hb2:decide ((Cc a rr).2=a.2)=!hiC a rr:=by unfold hiC;simp
   rw [hb1] at C1
   rw [hb2] at C2
   have BY:=Qh (Cc a rr) (hq.more (by decide) (by decide))
   have NG1:=(LD Ah false (Cc a rr).1.1 (Cc a rr).1.2 q1.ok (lT l1 (by decide))).cv
   obtain ⟨u1,_,_⟩:Sm (upP (Em (Cc a rr).1)) 20000 20000∧gv (Em (Cc a rr).1)≤gv (upP (Em (Cc a rr).1))∧inU (gv (upP (Em (Cc a rr).1))):=Nl q1.neg
   have NG2:=(LD Ah false (upP (Em (Cc a rr).1)).1 (upP (Em (Cc a rr).1)).2 u1.ok u1.lz).cv
   have UPs:EQ (Cc a rr)=false→CV prog Ah 106 [aDy false (-(Cc a rr).1.1) (Cc a rr).1.2] [aDy false (upP (Em (Cc a rr).1)).1 (upP (Em (Cc a rr).1)).2]∧CV prog Ah 106 [aDy false (Cc a rr).2.1 (Cc a rr).2.2] [aDy false (upP (Cc a rr).2).1 (upP (Cc a rr).2).2]:=fun hf=>by
    obtain ⟨g1,g2,g3,g4⟩:=AdF hq hf
    have e1:=El (Cc a rr).1
    obtain ⟨p1,p2⟩:=AqG (x:=Em (Cc a rr).1) (by show _≤gv (-(Cc a rr).1.1,(Cc a rr).1.2);omega) (by show gv (-(Cc a rr).1.1,(Cc a rr).1.2)≤_;omega)
    obtain ⟨p3,p4⟩:=AqG (x:=(Cc a rr).2) g3 g4
    exact ⟨Qi (Em (Cc a rr).1) (q1.neg.more (by decide) (by decide)) p1 p2,Qi (Cc a rr).2 (q2.more (by decide) (by decide)) p3 p4⟩
   obtain ⟨hck,_⟩:=UO hi hy hA0 ha hr
   have hne:=Ahc (w:=w) hlt hi hy hA0 ha hr
   rw [show stD w a rr=if EQ (Cc a rr)=true then Cc a rr else (if (decide (rd<(r:Int)) && loC a rr)=true then Em (upP (Em (Cc a rr).1)) else (Cc a rr).1,if (decide (rd<(r:Int)) && hiC a rr)=true then upP (Cc a rr).2 else (Cc a rr).2) from by rw [hwd];rfl] at hne
   clear hq
   generalize upP (Em (Cc a rr).1)=u at *
   generalize upP (Cc a rr).2=v at *
   generalize Cc a rr=q at *
   repeat' (with_reducible first|refine qq ?_|(refine Tx 19 ?_;refine gO xLt ?_)|(refine Tx 20 ?_;refine gO xM <| gO (by first|exact xIr Ae (Ay (LH hi))|exact xIr Ae (Cu ha)) <| gO xD <| gO xA <| gO xA ?_)|(refine Im (id:=21) 21 [(21,19)] AC (by kernel_rfl) ?_;dsimp only [List.take,List.drop];refine gP xM <| gP xM <| gP (xIr Ad (Cu ha)) <| gP xL <| gP xM <| gP xF <| gP xD <| gP xM <| gP (by first|exact xIr Ak (Dq hy)|exact xIr Ak (Cu ha)) <| gP xF <| gP xD <| gP (by first|exact xIr Ae (Ay hA0)|exact xIr Ae (Cu ha)) <| gP xD <| gP (by first|exact xIr Ad (Cu hr)|exact xIr Ad (Cu ha)) <| gP xL <| gP (xCl func104 (HU)) <| gP (xCl func103 (RO)) <| gP xMt <| gP (by exact CQ rfl rfl rfl) <| gP xEx <| gQ (xAl Ai) ?_;refine Ke ?_;refine gZ (xSk Ab) <| gO xA ?_))
   refine AJ (F':=ofL [(1,vd (.val (.int .i64 rd))),(2,vr 0),(6,vd (.row false 6 l.length (An (dIw false) l))),(9,vi ((r:Nat))),(10,vd (.row false 6 (rgV ps bs l).length (An (dIw false) (rgV ps bs l)))),(12,vd (.val (.bool (Tk ps bs l k)))),(13,vo 1 (((DD ps bs w l).take k).length)),(56,vd (AU false (BU (AX bs)))),(57,vi ((AX bs).length)),(58,vi ((k:Nat))),(14,vi ((k:Nat))),(16,vr 2)]) (H':=[.box 26 [.d (CY t ps),.d (Cw t bs),.d (AU t os)],.row 45 6 ((DD ps bs w l).take (k)).length ((An (dIw false) ((DD ps bs w l).take (k))).map C.d),.box 45 ((dIw false q).map C.d)]) (Be 3) ?_
   clear hb1 hb2 HU RO m1 m2 SC EV DL
   cases hb1:loC a rr <;> cases hb2:hiC a rr <;> cases hc:Tk ps bs l k <;> cases hf:EQ q <;> by_cases hw:rd<(r:Int)
   all_goals
    rw [hb1] at C1
    rw [hb2] at C2
    rw [hf] at BY UPs
    rw [hb1,hb2,hf] at hne
    simp only [df,dg] at C1 C2
    simp only [hw,decide_true,decide_false,dq,eg,Bool.and_true,je,fz,if_true,if_false] at hne
    obtain ⟨hap,hap2,hoL⟩:=Gl hne
    repeat' (with_reducible first|refine qq ?_|(refine Bl (id:=22) AC (by kernel_rfl) ?_;refine gP xF <| gP xL <| gP xM <| gP xM <| gP (xIr Ad (Cu ha)) <| gP xF <| gP xL <| gP (xCl func99 (C1)) <| gP DH <| gP xF <| gP xL <| gP xM <| gP xM <| gP (xIr Ad (Cu ha)) <| gP xF <| gP xL <| gP (xCl func99 (C2)) <| gP DH <| gP xA <| gP xA ?_;refine Ke ?_)|(refine Tx 23 ?_;refine gO xM <| gO xM ?_;(first|refine Jd ?_|refine Jy xM1 ?_);refine gO xPk <| gO xM ?_;(first|refine Jd ?_|refine Jy xM1 ?_);refine gO xPk <| gO xA ?_)|(refine Tx 24 ?_;refine gO xL <| gO (xCl func102 (BY)) <| gO DH <| gO xM ?_;(first|iterate 3 refine Jd ?_|(refine Jy xM1 ?_;refine Jy xM1 ?_;refine Jy xGt ?_));refine gO xPk ?_)|(refine Tx 25 ?_;refine gO xM ?_)|(refine Tx 26 ?_;refine gO xF <| gO xL <| gO (xCl func105 (NG1)) <| gO (by first|exact xCl func106 ((UPs rfl).1)|exact xCl func106 ((UPs rfl).2)) <| gO (xCl func105 (NG2)) <| gO xF <| gZ (xSk Aa) ?_)|(refine Tx 27 ?_;refine gO xM ?_)|(refine Tx 28 ?_;refine gO xF <| gO xL <| gO (xCl func106 ((UPs rfl).2)) <| gO xF <| gZ (xSk Aa) ?_)|(refine Tx 29 ?_;refine gO xM <| gO xL <| gN (by exact BH rfl Ad Ai rfl rfl (by decide) (by decide)) <| gT (by exact Mj rfl rfl rfl rfl rfl rfl Ad Ai (by omega) (by decide) (by decide) rfl hap hap2) <| gO xA ?_)|(refine Tx 30 ?_;refine gO xAd <| gO xM ?_))
    refine ⟨_,_,Be 2 (h:=by rw [hck,hc,hb1,hb2];exact mB rfl rfl),_,?_,k+1,by omega,rfl,rfl,rfl⟩
    ·omega
  obtain rfl:k=(AX bs).length:=by omega
  clear hlt hk
  have hnL:(DD ps bs w l).length=(AX bs).length:=Aew w
  have htk2:(DD ps bs w l).take (AX bs).length=DD ps bs w l:=by rw [←hnL,aq]
  rw [htk2]
  by_cases hch:Tk ps bs l (AX bs).length=false
  case pos =>
   rw [if_pos hch] at hres
   cases hres
   rw [hch]
   repeat' (with_reducible first|refine qq ?_|(refine Tx 19 ?_;refine gO xLt ?_)|(refine Tx 31 ?_;refine gO xM <| gO DH ?_)|(refine Tx 32 ?_;refine gO xM <| gO xA <| gO xA ?_))
   exact Au rfl (.cons_ (.tmp (.one (Bi rfl fun _=>.row (BV (f:=dIw false) Eh l)))) (.cons_ (Lw rfl rfl) .nil_))
  rw [if_neg hch] at hres
  rw [gf] at hch
  rw [hch]
  repeat' (with_reducible first|refine qq ?_|(refine Tx 19 ?_;refine gO xLt ?_)|(refine Tx 31 ?_;refine gO xM <| gO DH ?_))
  refine AJ (EG (ds:=An (dIw false) (DD ps bs w l)) 13 1 rfl rfl) ?_
  repeat' (with_reducible first|refine qq ?_|(refine Tx 33 ?_;refine gO xM <| gO xA ?_)|(refine Tx 34 ?_;refine gO xM <| gO xN <| gO xM ?_))
  refine AJ (Be 1) (Al (fun n Fr H=>∃ k:Nat,k≤(DD ps bs w l).length∧n=(DD ps bs w l).length - k∧(∀ p∈(DD ps bs w l).take k,EQ p=false)∧Fr=ofL [(1,vd (.val (.int .i64 rd))),(2,vr 0),(6,vd (.row false 6 (DD ps bs w l).length (An (dIw false) (DD ps bs w l)))),(9,vi ((r:Nat))),(137,vd (.row false 6 (DD ps bs w l).length (An (dIw false) (DD ps bs w l)))),(138,vi ((DD ps bs w l).length)),(139,vi ((k:Nat)))]∧H=[.box 26 [.d (CY t ps),.d (Cw t bs),.d (AU t os)]]) (n0:=(DD ps bs w l).length) ⟨0,ad _,rfl,(fun p hp=>by simp at hp),rfl,rfl⟩ ?_)
  have hfar:=Aex h0 hI hb w
  have hsmD:=Ahe h0 hI hb w
  rw [←hfar] at hres
  rintro m Fr H ⟨k,hk,rfl,hnf,rfl,rfl⟩
  by_cases hlt:k<(DD ps bs w l).length
  case pos =>
   obtain ⟨x,hx⟩:∃ x,(DD ps bs w l)[k]?=some x:=⟨_,gE hlt⟩
   have FR:=Qh x (hsmD x (gM hx))
   cases hf:EQ x
   case true =>
    rw [hf] at FR
    have hany:(DD ps bs w l).any EQ=true:=List.any_eq_true.2 ⟨_,gM hx,hf⟩
    rw [if_pos hany] at hres
    cases hres
    repeat' (with_reducible first|refine qq ?_|(refine Tx 35 ?_;refine gO xLt ?_)|(refine Tx 36 ?_;refine gO (xIr Ad (Cu hx)) <| gO xL <| gN (xAl Ai) <| gZ (xSk Ab) ?_)|(refine Tx 37 ?_;refine gO xL <| gO (xCl func102 (FR)) ?_)|(refine Tx 38 ?_;refine gO xA <| gO xA ?_))
    exact Aey
   case false =>
    rw [hf] at FR
    repeat' (with_reducible first|refine qq ?_|(refine Tx 35 ?_;refine gO xLt ?_)|(refine Tx 36 ?_;refine gO (xIr Ad (Cu hx)) <| gO xL <| gN (xAl Ai) <| gZ (xSk Ab) ?_)|(refine Tx 37 ?_;refine gO xL <| gO (xCl func102 (FR)) ?_)|(refine Tx 39 ?_;refine gO xAd <| gO xM ?_))
    refine ⟨_,_,Be 1,_,?_,k+1,by omega,rfl,Dr hnf hx hf,rfl,rfl⟩
    ·omega
  obtain rfl:k=(DD ps bs w l).length:=by omega
  clear hlt hk
  rw [aq] at hnf
  have hany:(DD ps bs w l).any EQ=false:=List.any_eq_false.2 fun p hp=>by rw [hnf p hp];decide
  rw [if_neg (by rw [hany];decide)] at hres
  rw [hfar] at hany
  have hnn:=Ahd h0 hI hb w hany
  rw [hnn]
  repeat' (with_reducible first|refine qq ?_|(refine Tx 35 ?_;refine gO xLt ?_)|(refine Tx 12 ?_;refine gO xM <| gO xAd <| gO xA ?_))
  refine ⟨_,_,Be 1,n,jn n,r+1,(Cv ps bs w l),hres,hI.next h0 hb w hany,by omega,rfl,rfl⟩
theorem Ajo (k:p') (h:Hd9 p'→p:=by with_reducible first|(intro Z9;refine Tx 13 ?_;refine gO AgT <| gO xD <| gO xA ?_;exact Z9.o)|(intro Z9;refine Ax (id:=14) 9 AC (by kernel_rfl) ?_;dsimp only [List.take,List.drop];refine gP xF <| gP xD <| gP xM <| gP AgU <| gP YK <| gP xM <| gP (xCl func114 BD (ha:=by with_unfolding_all first|((repeat' first|exact Br rfl rfl|refine AO rfl rfl ?_ ?_|refine Dn rfl rfl ?_|refine Cf rfl rfl ?_|exact Bi rfl (fun h=>by cases h)|exact Tb rfl rfl rfl) <;> fail)|fail)) <| gP (xCl func113 (UP)) <| gP (xIo (i:=i) Ag) ?_;refine Ke ?_;refine gZ Aaj ?_;exact Z9.o)|(intro Z9;refine Bl (id:=15) AC (by kernel_rfl) ?_;refine gP xF <| gP xD <| gP xM <| gP (xIo (i:=i) Ag) <| gP En <| gP (xCl func116 (PW)) <| gP (xCl func115 (CF)) <| gP (by first|exact Hk rfl rfl rfl hCF|exact xGt) ?_;refine Ke ?_;exact Z9.o)|fail):p:=h ⟨k⟩
theorem Vg (k:p') (h:Hd9 p'→p:=by with_reducible first|(intro Z9;refine Tx 20 ?_;refine gO AgT <| gO xD <| gO xA ?_;exact Z9.o)|(intro Z9;refine Ax (id:=21) 12 AC (by kernel_rfl) ?_;dsimp only [List.take,List.drop];refine gP xF <| gP xD <| gP xM <| gP (xIo (i:=i) Ag) <| gP En <| gP AgU <| gP YK <| gP xM <| gP (xCl func114 BD (ha:=by with_unfolding_all first|((repeat' first|exact Br rfl rfl|refine AO rfl rfl ?_ ?_|refine Dn rfl rfl ?_|refine Cf rfl rfl ?_|exact Bi rfl (fun h=>by cases h)|exact Tb rfl rfl rfl) <;> fail)|fail)) <| gP (xCl func113 (UP)) <| gP (xCl func117 (MX)) <| gQ (xAl Aj) ?_;refine Ke ?_;refine gZ (xSk Aa) ?_;exact Z9.o)|(intro Z9;refine Bl (id:=22) AC (by kernel_rfl) ?_;refine gP En <| gP xF <| gP xD <| gP xM <| gP (xIo (i:=i) Ag) <| gP En <| gP (xCl func99 (SA)) ?_;refine Ke ?_;exact Z9.o)|fail):p:=h ⟨k⟩
theorem Ajp (k:p') (h:Hd9 p'→p:=by with_reducible first|(intro Z9;refine Tx 26 ?_;refine gO xF <| gO xD <| gO xM <| gO En <| gO (xIo (i:=i) Ag) <| gZ Aaj ?_;exact Z9.o)|(intro Z9;refine Bl (id:=27) AC (by kernel_rfl) ?_;refine gP En <| gP (xCl func116 (PW)) <| gP (xCl func115 (CX)) <| gP (by first|exact Hk rfl rfl rfl hCX|exact xGt) ?_;refine Ke ?_;exact Z9.o)|fail):p:=h ⟨k⟩
theorem Ajq (k:p') (h:Hd9 p'→p:=by with_reducible first|(intro Z9;refine Tx 25 ?_;refine gO En <| gO (xCl func118 (AB)) <| gZ (xSk Aa) ?_;exact Z9.o)|(intro Z9;refine Tx 26 ?_;refine gO xF <| gO xD <| gO xM <| gO En <| gO (xIo (i:=i) Ag) <| gZ (by first|exact AhT rfl rfl rfl rfl Aa tl stA|exact xSk Aa) ?_;exact Z9.o)|(intro Z9;refine Bl (id:=27) AC (by kernel_rfl) ?_;refine gP En <| gP (xCl func116 (PW)) <| gP (xCl func115 (CA)) <| gP (by first|exact Hk rfl rfl rfl hCA|exact xGt) ?_;refine Ke ?_;exact Z9.o)|fail):p:=h ⟨k⟩
theorem YW (h:p:=by
 exact ⟨.inl rfl,[],by decide,.nil_,.tup (congrArg Array.toList results50) (.cons_ (.tmp rfl ⟨rfl,.val _⟩) (.cons_ (.tmp rfl ⟨rfl,.val _⟩) .nil_))⟩):p:=h
theorem Td (t:Bool) {ps:List Prt} {bs:List Bk} {os:List Int} (hl:Dx ps bs os) (h0:AY ps bs os=0) (u:Bool) (c:Ct) (xd:D) (hF:WD bs c.F) (hR:c.R.length=bs.length) (sR:∀ p∈c.R,IwS p LB LB) {res:Option (List Pq)} (hres:erA ps bs c.F c.R=res):CVN prog Ah 50 [aDg t ps bs os,.agg (dCx u c xd)] (erW bs.length res) (erY bs.length res):=by
 refine Ny NL func50 rfl ntmps50 (ax rfl) ?_
 have hn:=hl.l2
 have hpn:=hl.l1
 have hnl:=BP (AX bs)
 have hol:=BP (Co bs)
 have hob:=Sl (bs:=bs)
 have hdb:=Fp bs
 have OR:=Ut t hl h0
 have DE:=Iy t hl (ps:=ps) (bs:=bs) (os:=os)
 have PW:=YS 40 (by decide) (by decide)
 rw [pw40] at PW
 have OF:=(Nd (G:=Ah) 0 (by decide) (by decide)).cv
 repeat' (with_reducible first|refine qq ?_|(refine Tx 0 ?_;refine gN xBo <| gN xBo <| gO xA <| gO xA ?_)|(refine Tx 1 ?_;refine gO xF <| gO xD <| gO xN <| gN AiR <| gO xF <| gZ (by first|exact xS1 AG|exact xSk AG) ?_))
 refine AJ (YH 2 rfl fun _ _=>WE) ?_
 repeat' (with_reducible first|refine qq ?_|(refine Tx 2 ?_;refine gO xF <| gO xD <| gO xN <| gO xM ?_))
 refine AJ (Be 3) (Al (fun n Fr H=>∃ q:Nat,q≤bs.length∧n=bs.length - q∧Fr=ofL [(2,vr 0),(3,vr 1),(21,vi bs.length),(22,vi ((q:Nat)))]∧H=[.box 26 [.d (CY t ps),.d (Cw t bs),.d (AU t os)],.box 30 [.d (AU u c.F),.d (.row false 6 c.R.length (An (dIw false) c.R)),.own 2 bs.length],.row 43 3 bs.length (cVs ((List.replicate bs.length ((0,0):Pq)).map some))]) (n0:=bs.length) ⟨0,ad _,rfl,rfl,rfl⟩ ?_)
 rintro n Fr H ⟨q,hq,rfl,rfl,rfl⟩
 by_cases hlq:q<bs.length
 case pos =>
  have tl:q<((List.replicate bs.length ((0,0):Pq)).map some).length:=by rw [af,ep];exact hlq
  have stV:=AgX (n:=bs.length) (i:=q) (a:=((0,0):Pq))
  repeat' (with_reducible first|refine qq ?_|(refine Tx 3 ?_;refine gO xLt ?_)|(refine Tx 4 ?_;refine gO xM <| gO xA ?_)|(refine Ax (id:=5) 5 AC (by kernel_rfl) ?_;dsimp only [List.take,List.drop];refine gP xF <| gP xD <| gP xM <| gP (xCl func34 (OF)) <| gP (xIo (i:=q) Ag) ?_;refine Ke ?_;refine gZ Aaj ?_)|(refine Tx 6 ?_;refine gO xAd <| gO xM ?_))
  refine ⟨_,_,Be 3,_,by omega,q+1,by omega,rfl,rfl,rfl⟩
 obtain rfl:q=bs.length:=by omega
 repeat' (with_reducible first|refine qq ?_|(refine Tx 3 ?_;refine gO xLt ?_)|(refine Tx 7 ?_;refine gO xA ?_))
 refine AJ (Be 3) (Al (fun n Fr H=>∃ (r:Nat) (E:List Pq),r+n=128∧erR ps bs c.F c.R n r E=res∧LZ bs E∧Fr=ofL [(2,vr 0),(3,vr 1),(7,vi (((r:Nat):Int)+1))]∧H=[.box 26 [.d (CY t ps),.d (Cw t bs),.d (AU t os)],.box 30 [.d (AU u c.F),.d (.row false 6 c.R.length (An (dIw false) c.R)),.own 2 bs.length],.row 43 3 bs.length (cVs (E.map some))]) (n0:=128) ⟨0,_,rfl,hres,.zero bs,rfl,rfl⟩ ?_)
 clear hres
 rintro n Fr H ⟨r,E,hrn,hres,hE,rfl,rfl⟩
 cases n
 case zero =>
  have hres:none=res:=hres
  subst hres
  repeat' (with_reducible first|refine qq ?_|(refine Tx 8 ?_;refine gO xM <| gO xLe ?_)|(refine Tx 32 ?_;refine gO xA <| gO xA ?_))
  exact YW
 rename_i m
 unfold erR at hres
 obtain ⟨o,ho⟩:∃ o,erO ps bs c.F c.R (Co bs) E=o:=⟨_,rfl⟩
 rw [ho] at hres
 repeat' (with_reducible first|refine qq ?_|(refine Tx 8 ?_;refine gO xM <| gO xLe ?_)|(refine Tx 10 ?_;refine gO xA ?_)|(refine Tx 11 ?_;refine gO xL <| gO (xCl func43 (OR)) <| gO xN <| gO xM ?_))
 refine AJ (Be 3 (h:=by rw [←hol];exact mB rfl rfl)) (Al (fun n Fr H=>∃ (j:Nat) (E:List Pq),j≤(Co bs).length∧n=(Co bs).length - j∧erO ps bs c.F c.R ((Co bs).drop j) E=o∧LZ bs E∧Fr=ofL [(2,vr 0),(3,vr 1),(7,vi (((r:Nat):Int)+1)),(8,vd (.val (.bool false))),(36,vd (AU false (BU (Co bs)))),(37,vi ((Co bs).length)),(38,vi ((j:Nat)))]∧H=[.box 26 [.d (CY t ps),.d (Cw t bs),.d (AU t os)],.box 30 [.d (AU u c.F),.d (.row false 6 c.R.length (An (dIw false) c.R)),.own 2 bs.length],.row 43 3 bs.length (cVs (E.map some))]) (n0:=(Co bs).length) ⟨0,E,ad _,rfl,ho,hE,rfl,rfl⟩ ?_)
 clear ho hE
 rintro n Fr H ⟨j,E,hj,rfl,ho,hE,rfl,rfl⟩
 by_cases hlj:j<(Co bs).length
 case pos =>
  obtain ⟨i,hi⟩:∃ i,(Co bs)[j]?=some i:=⟨_,gE hlj⟩
  have hil:=(Pt hi).1
  obtain ⟨y,hy⟩:∃ y,bs[i]?=some y:=⟨_,gE hil⟩
  have B:=Aac h0 hy
  have hs2:=hF.sc i hil
  have hsa:y.kind≠0→∀ a∈y.args,0≤sG c.F a∧sG c.F a≤30:=fun k0 a ha=>by have:=B.all k0 a ha;exact hF.sc a.toNat (by omega)
  have BD:=LU true t u os ⟨c.F,c.R,E⟩ hE.len (WB hE.sm) i hy B hF.len hR sR hn hpn hs2 hsa
  unfold dCx at BD
  dsimp only at BD
  rw [hE.len] at BD
  obtain ⟨sb,sx,nx⟩:=Rn h0 hy hs2 sR hE
  have UP:=AiZ _ (sb.more (by decide) (by decide))
  have hB:erB ps bs c.F c.R E i=upQ (AP ps c.F c.R E y (scA c.F i)):=by unfold erB;rw [LF hy]
  rw [←hB] at UP
  rw [Qd hi] at ho
  have tl:i<(E.map some).length:=by rw [af,hE.len];exact hil
  unfold erO at ho
  have CF:=(Ef (G:=Ah) false false (erB ps bs c.F c.R E i).1 (erB ps bs c.F c.R E i).2 1099511627776 0 sx.ok ⟨by decide,fun h=>absurd rfl h⟩ sx.lz (lT (Aw (k:=2) (by decide)) (by decide))).cv
  have hCF:decide (0<Bm (erB ps bs c.F c.R E i).1 (erB ps bs c.F c.R E i).2 1099511627776 0)=Rk (erB ps bs c.F c.R E i):=rfl
  have stV:(E.map some).set i (some (erB ps bs c.F c.R E i))=(E.set i (erB ps bs c.F c.R E i)).map some:=(fg ..).symm
  have ldV:((E.set i (erB ps bs c.F c.R E i)).map some)[i]?=some (some (erB ps bs c.F c.R E i)):=by rw [ag,gy (by rw [hE.len];exact hil)];rfl
  clear hB hs2 hsa B sb
  generalize AP ps c.F c.R E y (scA c.F i)=b at *
  generalize erB ps bs c.F c.R E i=x at *
  cases hf:Rk x
  case true =>
   rw [hf] at hCF ho
   rw [if_pos rfl] at ho
   subst ho
   have hres:none=res:=hres
   subst hres
   repeat' (with_reducible first|refine qq ?_|(refine Tx 12 ?_;refine gO xLt ?_)|refine Ajo ?_|(refine Tx 16 ?_;refine gO xA <| gO xA ?_))
   exact YW
  rw [hf] at hCF ho
  rw [if_neg (by decide)] at ho
  repeat' (with_reducible first|refine qq ?_|(refine Tx 12 ?_;refine gO xLt ?_)|refine Ajo ?_|(refine Tx 17 ?_;refine gO xAd <| gO xM ?_))
  exact AiO
 obtain rfl:j=(Co bs).length:=by omega
 clear hlj hj
 rw [ew] at ho
 have ho:some E=o:=ho
 subst ho
 dsimp only at hres
 obtain ⟨w,hw⟩:∃ w,decide (64≤r)=w:=⟨_,rfl⟩
 rw [hw] at hres
 obtain ⟨o,ho⟩:∃ o,erD ps bs c.F c.R w (AX bs) E false=o:=⟨_,rfl⟩
 rw [ho] at hres
 repeat' (with_reducible first|refine qq ?_|(refine Tx 12 ?_;refine gO xLt ?_)|(refine Tx 18 ?_;refine gO xL <| gO (xCl func44 (DE)) <| gO xN <| gO xM ?_))
 refine AJ (Be 3 (h:=by rw [←hnl];exact mB rfl rfl)) (Al (fun n Fr H=>∃ (j:Nat) (E:List Pq) (b:Bool),j≤(AX bs).length∧n=(AX bs).length - j∧erD ps bs c.F c.R w ((AX bs).drop j) E b=o∧LZ bs E∧Fr=ofL [(2,vr 0),(3,vr 1),(7,vi (((r:Nat):Int)+1)),(8,vd (.val (.bool b))),(61,vd (AU false (BU (AX bs)))),(62,vi ((AX bs).length)),(63,vi ((j:Nat)))]∧H=[.box 26 [.d (CY t ps),.d (Cw t bs),.d (AU t os)],.box 30 [.d (AU u c.F),.d (.row false 6 c.R.length (An (dIw false) c.R)),.own 2 bs.length],.row 43 3 bs.length (cVs (E.map some))]) (n0:=(AX bs).length) ⟨0,E,false,ad _,rfl,ho,hE,rfl,rfl⟩ ?_)
 clear ho hE
 rintro n Fr H ⟨j,E,b,hj,rfl,ho,hE,rfl,rfl⟩
 by_cases hlj:j<(AX bs).length
 case pos =>
  obtain ⟨i,hi⟩:∃ i,(AX bs)[j]?=some i:=⟨_,gE hlj⟩
  have hil:=(Hv hi).1
  obtain ⟨y,hy⟩:∃ y,bs[i]?=some y:=⟨_,gE hil⟩
  have B:=Aac h0 hy
  have hs2:=hF.sc i hil
  have hsa:y.kind≠0→∀ a∈y.args,0≤sG c.F a∧sG c.F a≤30:=fun k0 a ha=>by have:=B.all k0 a ha;exact hF.sc a.toNat (by omega)
  have BD:=LU true t u os ⟨c.F,c.R,E⟩ hE.len (WB hE.sm) i hy B hF.len hR sR hn hpn hs2 hsa
  unfold dCx at BD
  dsimp only at BD
  rw [hE.len] at BD
  obtain ⟨sb,sx,nx⟩:=Rn h0 hy hs2 sR hE
  have UP:=AiZ _ (sb.more (by decide) (by decide))
  have hB:erB ps bs c.F c.R E i=upQ (AP ps c.F c.R E y (scA c.F i)):=by unfold erB;rw [LF hy]
  rw [←hB] at UP
  rw [Qd hi] at ho
  have tl:i<(E.map some).length:=by rw [af,hE.len];exact hil
  obtain ⟨sM,nM⟩:=Aea h0 hy hs2 sR hE
  obtain ⟨sX,nX⟩:=Aeb h0 hy hs2 sR hE w
  obtain ⟨se,_⟩:=hE.at_ i
  unfold erD at ho
  have hX:erX ps bs c.F c.R w E i=if w=true then Tl (erM ps bs c.F c.R E i) else erM ps bs c.F c.R E i:=rfl
  have ldV:(E.map some)[i]?=some (some (E[i]?.getD (0,0))):=by rw [ag,gE (by rw [hE.len];exact hil)];rfl
  have MX:=(Hq Ah false false (E[i]?.getD (0,0)).1 (E[i]?.getD (0,0)).2 (erB ps bs c.F c.R E i).1 (erB ps bs c.F c.R E i).2 se.ok sx.ok se.lz sx.lz).cv
  rw [show FX (E[i]?.getD (0,0)).1 (E[i]?.getD (0,0)).2 (erB ps bs c.F c.R E i).1 (erB ps bs c.F c.R E i).2=erM ps bs c.F c.R E i from rfl] at MX
  have SA:=GH false false (erM ps bs c.F c.R E i) (E[i]?.getD (0,0)) sM.lz se.lz
  have hq:Gf (erM ps bs c.F c.R E i) (E[i]?.getD (0,0))=0 ↔ erM ps bs c.F c.R E i=E[i]?.getD (0,0):=(AhW sM.le se.le).trans ⟨fun h=>Nu sM.ok se.ok h,fun h=>by rw [h]⟩
  obtain ⟨fA,fB,sA⟩:=Amq sM
  have CX:=(Ef (G:=Ah) false false (erX ps bs c.F c.R w E i).1 (erX ps bs c.F c.R w E i).2 1099511627776 0 sX.ok ⟨by decide,fun h=>absurd rfl h⟩ sX.lz (lT (Aw (k:=2) (by decide)) (by decide))).cv
  have hCX:decide (0<Bm (erX ps bs c.F c.R w E i).1 (erX ps bs c.F c.R w E i).2 1099511627776 0)=Rk (erX ps bs c.F c.R w E i):=rfl
  have CA:=(Ef (G:=Ah) false false (abQ (erM ps bs c.F c.R E i)).1 (abQ (erM ps bs c.F c.R E i)).2 1099511627776 0 sA.ok ⟨by decide,fun h=>absurd rfl h⟩ sA.lz (lT (Aw (k:=2) (by decide)) (by decide))).cv
  have hCA:decide (0<Bm (abQ (erM ps bs c.F c.R E i)).1 (abQ (erM ps bs c.F c.R E i)).2 1099511627776 0)=Rk (abQ (erM ps bs c.F c.R E i)):=rfl
  have stV:(E.map some).set i (some (erX ps bs c.F c.R w E i))=(E.set i (erX ps bs c.F c.R w E i)).map some:=(fg ..).symm
  have stA:(E.map some).set i (some (abQ (erM ps bs c.F c.R E i)))=(E.set i (abQ (erM ps bs c.F c.R E i))).map some:=(fg ..).symm
  have AB:=WG (erM ps bs c.F c.R E i) sM
  clear hB hs2 hsa B sb
  generalize AP ps c.F c.R E y (scA c.F i)=bb at *
  generalize erX ps bs c.F c.R w E i=X at *
  generalize erM ps bs c.F c.R E i=M at *
  generalize erB ps bs c.F c.R E i=x at *
  generalize hee:E[i]?.getD (0,0)=e at *
  by_cases hc:M=e
  case pos =>
   rw [if_pos (hq.2 hc)] at ho
   rw [decide_eq_true hc] at SA
   repeat' (with_reducible first|refine qq ?_|(refine Tx 19 ?_;refine gO xLt ?_)|refine Vg ?_|(refine Tx 29 ?_;refine gO xAd <| gO xM ?_))
   exact AiP
  rw [if_neg (fun h=>hc (hq.1 h))] at ho
  rw [decide_eq_false hc] at SA
  cases w
  case false =>
   have hX:X=M:=hX
   subst hX
   have hw:=of_decide_eq_false hw
   cases hf:Rk X
   case true =>
    rw [hf] at hCX ho
    rw [if_pos rfl] at ho
    subst ho
    have hres:none=res:=hres
    subst hres
    repeat' (with_reducible first|refine qq ?_|(refine Tx 19 ?_;refine gO xLt ?_)|refine Vg ?_|(refine Tx 23 ?_;refine gO xA ?_)|(refine Tx 24 ?_;refine gO xM <| gO xGt ?_)|refine Ajp ?_|(refine Tx 28 ?_;refine gO xA <| gO xA ?_))
    exact YW
   rw [hf] at hCX ho
   rw [if_neg (by decide)] at ho
   repeat' (with_reducible first|refine qq ?_|(refine Tx 19 ?_;refine gO xLt ?_)|refine Vg ?_|(refine Tx 23 ?_;refine gO xA ?_)|(refine Tx 24 ?_;refine gO xM <| gO xGt ?_)|refine Ajp ?_|(refine Tx 29 ?_;refine gO xAd <| gO xM ?_))
   exact YM
  case true =>
   have hX:X=Tl M:=hX
   subst hX
   have hw:=of_decide_eq_true hw
   rw [fA] at hCA
   cases hf:Rk (Tl M)
   case true =>
    rw [hf] at hCA ho
    rw [if_pos rfl] at ho
    subst ho
    have hres:none=res:=hres
    subst hres
    repeat' (with_reducible first|refine qq ?_|(refine Tx 19 ?_;refine gO xLt ?_)|refine Vg ?_|(refine Tx 23 ?_;refine gO xA ?_)|(refine Tx 24 ?_;refine gO xM <| gO xGt ?_)|refine Ajq ?_|(refine Tx 28 ?_;refine gO xA <| gO xA ?_))
    exact YW
   rw [hf] at hCA ho
   rw [if_neg (by decide)] at ho
   have fB:=fB hf
   rw [fB] at AB CA stA hCA
   repeat' (with_reducible first|refine qq ?_|(refine Tx 19 ?_;refine gO xLt ?_)|refine Vg ?_|(refine Tx 23 ?_;refine gO xA ?_)|(refine Tx 24 ?_;refine gO xM <| gO xGt ?_)|refine Ajq ?_|(refine Tx 29 ?_;refine gO xAd <| gO xM ?_))
   exact YM
 obtain rfl:j=(AX bs).length:=by omega
 clear hlj hj
 rw [ew] at ho
 have ho:some (E,b)=o:=ho
 subst ho
 dsimp only at hres
 cases b
 case false =>
  rw [if_neg (by decide)] at hres
  subst hres
  repeat' (with_reducible first|refine qq ?_|(refine Tx 19 ?_;refine gO xLt ?_)|(refine Tx 30 ?_;refine gO xM <| gO DH ?_)|(refine Tx 31 ?_;refine gO xF <| gO xD <| gO xA <| gO xA ?_))
  exact ⟨.inl rfl,[2],by decide,.cons_ ⟨congrArg some (congrArg (Ob.row _ 3 _) (YI _)),Ej _⟩ .nil_,.tup (congrArg Array.toList results50) (.cons_ (.tmp rfl ⟨2,_,rfl,rfl,rfl,rfl⟩) (.cons_ (.tmp rfl ⟨rfl,.val _⟩) .nil_))⟩
 rw [if_pos rfl] at hres
 repeat' (with_reducible first|refine qq ?_|(refine Tx 19 ?_;refine gO xLt ?_)|(refine Tx 30 ?_;refine gO xM <| gO DH ?_)|(refine Tx 9 ?_;refine gO xM <| gO xAd <| gO xA ?_))
 exact AiQ
theorem Amu (n e f:Int):CVF prog Ah 220 [.agg [dI n,dI e],aI f] [aI (ZD n e f),aI (Ed n e f)]:=fun w S vs hg hlt ha=>by
 obtain ⟨v,vs',rfl,h1,ha⟩:=ha.uncons
 obtain ⟨u,hu,h2⟩:=BM ha
 subst hu
 obtain ⟨xs,rfl,h3⟩:=h1
 have h4:=Ir (vs:=[.int .i64 n,.int .i64 e]) h3
 subst h4
 cases h2
 refine (AfO n e f w).mono fun r w' ⟨he,hb⟩=>?_
 exact ⟨_,he,Na (Bx.val rfl) (Bx.val rfl),hb⟩
theorem Aez (k:p') (h:Hd9 p'→p:=by with_reducible first|(intro Z9;refine qq ?_;exact Z9.o)|(intro Z9;refine Tx 0 ?_;refine gO xA ?_;exact Z9.o)|(intro Z9;refine Tx 1 ?_;refine gO xM <| gO xGe <| gO xM ?_;(first|iterate 2 refine Jd ?_|(refine Jy xM1 ?_;refine Jy xLe ?_));refine gO xPk <| gO xA ?_;exact Z9.o)|fail):p:=h ⟨k⟩
theorem II (k:Int):CV prog Ah 198 [aI k] [aB (inK k)]:=by
 refine cvz func198 ntmps198 ?_
 by_cases c7:k < -62
 case pos =>
  repeat' (with_reducible first|refine Aez ?_)
  exact Au rfl (.cons_ (Db rfl ((decide_eq_false (by omega)).symm)) .nil_)
 by_cases c6:30<k
 case pos =>
  repeat' (with_reducible first|refine Aez ?_)
  exact Au rfl (.cons_ (Db rfl ((decide_eq_false (by omega)).symm)) .nil_)
 repeat' (with_reducible first|refine Aez ?_)
 exact Au rfl (.cons_ (Db rfl ((decide_eq_true (by omega)).symm)) .nil_)
theorem MH (n e f:Int):CV prog Ah 199 [.agg [dI n,dI e],aI f] [aB (rwB n e f)]:=by
 refine cvz func199 ntmps199 ?_
 have RA:=(Amu n e f).cv
 unfold rwB
 by_cases h0:Ed n e f=0
 case pos =>
  rw [h0] at RA
  repeat' (with_reducible first|refine qq ?_|(refine Tx 0 ?_;refine gN xBo <| gO xA ?_)|(refine Tx 1 ?_;refine gO xL <| gO xM <| gO (xCl func220 (RA)) <| gO xMt <| gO xEx <| gO xEx <| gO xA <| gO xA ?_)|(refine Tx 2 ?_;refine gO xM <| gO xEq <| gO xA ?_))
  exact Au rfl (.cons_ (Db rfl ((decide_eq_true h0).symm)) .nil_)
 repeat' (with_reducible first|refine qq ?_|(refine Tx 0 ?_;refine gN xBo <| gO xA ?_)|(refine Tx 1 ?_;refine gO xL <| gO xM <| gO (xCl func220 (RA)) <| gO xMt <| gO xEx <| gO xEx <| gO xA <| gO xA ?_)|(refine Tx 2 ?_;refine gO xM <| gO xEq <| gO xA ?_))
 exact Au rfl (.cons_ (Db rfl ((decide_eq_false h0).symm)) .nil_)
theorem YX (k:p') (h:Hd9 p'→p:=by with_reducible first|(intro Z9;refine Tx 0 ?_;refine gN xBo <| gO xA ?_;exact Z9.o)|(intro Z9;refine Tx 1 ?_;refine gO xF <| gO xD <| gO xM <| gO (xIr Ak (Dq hy)) <| gO xL <| gN (xAl Bu) <| gZ (xSk Bh) ?_;exact Z9.o)|(intro Z9;refine Tx 2 ?_;refine gO xM <| gO xM <| gO (xIr Ae (Ay hFi)) <| gO xD <| gO xLt <| gO xM ?_;(first|iterate 5 refine Jd ?_|(refine Jy xM1 ?_;refine Jy xM1 ?_;refine Jy (xIr Ae (Ay hFi)) ?_;refine Jy (xLd Az) ?_;refine Jy xGt ?_));refine gO xPk ?_;exact Z9.o)|fail):p:=h ⟨k⟩
theorem Ie (k:p') (h:Hd9 p'→p:=by with_reducible first|(intro Z9;refine Tx 11 ?_;refine gO xF <| gO xD ?_;exact Z9.o)|(intro Z9;refine Tx 12 ?_;refine gO xEq <| gO xA ?_;exact Z9.o)|fail):p:=h ⟨k⟩
theorem AeA (h:p:=by first|exact xIr Ae (Ay ha)|exact xIr Ae (Ay hFa)):p:=h
theorem AeB (k:p') (h:Hd9 p'→p:=by with_reducible first|(intro Z9;refine Tx 7 ?_;refine gO AeA <| gO xD <| gO xA ?_;exact Z9.o)|(intro Z9;refine Tx 8 ?_;refine gO xM <| gO xM <| gO AeA <| gO xD <| gO xLt <| gO xM ?_;(first|iterate 5 refine Jd ?_|(refine Jy xM1 ?_;refine Jy xM1 ?_;refine Jy AeA ?_;refine Jy (xLd Az) ?_;refine Jy xGt ?_));refine gO xPk ?_;exact Z9.o)|fail):p:=h ⟨k⟩
theorem Lk (k:p') (h:Hd9 p'→p:=by with_reducible first|(intro Z9;refine Tx 14 ?_;refine gO xEq <| gO xA ?_;exact Z9.o)|fail):p:=h ⟨k⟩
theorem MI (h:p:=by first|exact xIr Ae (Ay hFi)|exact xIr Ae (Ay hF0)):p:=h
theorem AeC (k:p') (h:Hd9 p'→p:=by with_reducible first|(intro Z9;refine Bl (id:=21) AC (by kernel_rfl) ?_;refine gP xM <| gP xM <| gP MI <| gP xD <| gP xM <| gP xF <| gP xD <| gP (xIr Ae (Ay hA0)) <| gP xD <| gP MI <| gP xD <| gP xSb <| gP (xCl func198 (IN)) <| gP xM ?_;(first|iterate 7 refine Kd ?_|(refine Ky (xFa Ea AM) ?_;refine Ky (xLa AM) ?_;refine Ky xM1 ?_;refine Ky xM1 ?_;refine Ky MI ?_;refine Ky (xLd Az) ?_;refine Ky (xCl func199 (RA)) ?_));refine gP xPk <| gP xA ?_;refine Ke ?_;exact Z9.o)|fail):p:=h ⟨k⟩
theorem Ajr (h:p:=by first|exact xCl func199 (RA)|exact xCl func199 (RU)):p:=h
theorem AeD (k:p') (h:Hd9 p'→p:=by with_reducible first|(intro Z9;refine Bl (id:=23) AC (by kernel_rfl) ?_;refine gP xM <| gP xM <| gP MI <| gP xD <| gP xM <| gP xF <| gP xD <| gP (xIr Ae (Ay hA0)) <| gP xD <| gP MI <| gP xD <| gP xSb <| gP (xCl func198 (IN)) <| gP xM ?_;(first|iterate 7 refine Kd ?_|(refine Ky (xFa Ea AM) ?_;refine Ky (xLa AM) ?_;refine Ky xM1 ?_;refine Ky xM1 ?_;refine Ky MI ?_;refine Ky (xLd Az) ?_;refine Ky Ajr ?_));refine gP xPk <| gP xM ?_;(first|iterate 7 refine Kd ?_|(refine Ky (xFa Eb AM) ?_;refine Ky (xLa AM) ?_;refine Ky xM1 ?_;refine Ky xM1 ?_;refine Ky MI ?_;refine Ky (xLd Az) ?_;refine Ky Ajr ?_));refine gP xPk <| gP xA ?_;refine Ke ?_;exact Z9.o)|fail):p:=h ⟨k⟩
theorem AeE (h:p:=by first|exact xIr Ae (Ay ha)|exact xIr Ae (Ay hFa)|exact xIr Ae (Ay hFi)):p:=h
theorem Ajs (k:p') (h:Hd9 p'→p:=by with_reducible first|(intro Z9;refine Tx 26 ?_;refine gO AeE <| gO xD <| gO xA ?_;exact Z9.o)|(intro Z9;refine Bl (id:=27) AC (by kernel_rfl) ?_;refine gP xM <| gP xM <| gP AeE <| gP xD <| gP xM <| gP xM <| gP AeE <| gP xD <| gP xSb <| gP (xCl func198 (IN)) <| gP DH ?_;refine Ke ?_;exact Z9.o)|fail):p:=h ⟨k⟩
theorem AeF (h:p:=by first|exact xIr Ae (Ay hFi)|exact xIr Ae (Ay hF0)|exact xIr Ae (Ay hF1)):p:=h
theorem WL (t u:Bool) {ps:List Prt} {bs:List Bk} (os:List Int) (F:List Int) (i:Nat) {y:Bk} (hy:bs[i]?=some y) (B:AeV ps bs.length y) (hF:F.length=bs.length) (hn:bs.length≤1000000) (hpn:ps.length≤1000000):CV prog Ah 119 [aDg t ps bs os,.one (AU u F),aI (i:Int)] [aB (Cl ps F y i)]:=by
 refine cvz func119 ntmps119 ?_
 have hil:=(gS.1 hy).1
 have hFi:=My (F:=F) (k:=i) (by omega)
 obtain ⟨s,hs⟩:∃ s,scA F i=s:=⟨_,rfl⟩
 rw [hs] at hFi
 have hBl:=B.len
 by_cases c5:s<0
 case pos =>
  have hb:Cl ps F y i=false:=by unfold Cl;rw [hs,show frB s=false from decide_eq_false (by omega)];rfl
  rw [hb]
  repeat' (with_reducible first|refine qq ?_|refine YX ?_|(refine Tx 3 ?_;refine gO xA ?_))
  exact Dg
 by_cases c6:30<s
 case pos =>
  have hb:Cl ps F y i=false:=by unfold Cl;rw [hs,show frB s=false from decide_eq_false (by omega)];rfl
  rw [hb]
  repeat' (with_reducible first|refine qq ?_|refine YX ?_|(refine Tx 3 ?_;refine gO xA ?_))
  exact Dg
 have hfr:frB s=true:=decide_eq_true (by omega)
 by_cases k0:y.kind=0
 case pos =>
  obtain ⟨j,p,hA0,ha0,hp,P⟩:=B.port k0
  have f0:=P.f0
  have f1:=P.f1
  have hjl:=(gS.1 hp).1
  have hL0:=(gS.1 hA0).1
  have hb:Cl ps F y i=inK (s - p.fr):=by unfold Cl Mw;rw [hs,hfr,decide_eq_true k0,if_pos k0,ha0,SW hp];rfl
  rw [hb]
  have IN:=II (s - p.fr)
  repeat' (with_reducible first|refine qq ?_|refine YX ?_|(refine Tx 4 ?_;refine gO xF <| gO xD <| gO xNe ?_)|refine Ie ?_|(refine Bl (id:=13) AC (by kernel_rfl) ?_;refine gP xM <| gP xM <| gP (xIr Ae (Ay hFi)) <| gP xD <| gP xF <| gP xD <| gP xF <| gP xD <| gP (xIr Ae (Ay hA0)) <| gP xD <| gP (xIr Ci (IV hp)) <| gP xF <| gP xD <| gP xSb <| gP (xCl func198 (IN)) <| gP xA ?_;refine Ke ?_))
  exact Dg
 repeat' (with_reducible first|refine qq ?_|refine YX ?_|(refine Tx 4 ?_;refine gO xF <| gO xD <| gO xNe ?_)|(refine Tx 5 ?_;refine gO xF <| gO xD <| gO xN <| gO xM ?_))
 refine AJ (Be 2) (Al (fun n Fr H=>∃ q:Nat,q≤y.args.length∧n=y.args.length - q∧(∀ a∈y.args.take q,frB (sG F a)=true)∧Fr=ofL [(1,vd (AU u F)),(2,vi ((i:Nat))),(3,vr 0),(7,vr 1),(33,vd (AU t y.args)),(34,vi y.args.length),(35,vi ((q:Nat)))]∧H=[.box 26 [.d (CY t ps),.d (Cw t bs),.d (AU t os)],.box 65 [.d (.val (.int .i64 y.kind)),.d (AU t y.args),.d (.val (.int .i64 y.vn)),.d (.val (.int .i64 y.ve)),.d (.val (.int .i64 y.un)),.d (.val (.int .i64 y.ue))]]) (n0:=y.args.length) ⟨0,ad _,rfl,(fun a ha=>by simp at ha),rfl,rfl⟩ ?_)
 rintro n Fr H ⟨q,hq,rfl,hqa,rfl,rfl⟩
 by_cases hlu:q<y.args.length
 case pos =>
  obtain ⟨z,ha⟩:∃ z,y.args[q]?=some z:=⟨_,gE hlu⟩
  obtain ⟨z0,z1⟩:=B.all k0 z (gM ha)
  obtain ⟨a,rfl⟩:=gm z0
  have hFa:=My (F:=F) (k:=a) (by omega)
  obtain ⟨r,hr⟩:∃ r,scA F a=r:=⟨_,rfl⟩
  rw [hr] at hFa
  by_cases d5:r<0
  case pos =>
   have hf:frB (sG F (a:Int))=false:=by rw [Cm,hr];exact decide_eq_false (by omega)
   have hb:Cl ps F y i=false:=by
    have hall:(y.args.all fun a=>frB (sG F a))=false:=List.all_eq_false.2 ⟨_,gM ha,by rw [hf];decide⟩
    unfold Cl
    rw [hall,decide_eq_false k0,cj,eg,je]
   rw [hb]
   repeat' (with_reducible first|refine qq ?_|(refine Tx 6 ?_;refine gO xLt ?_)|refine AeB ?_|(refine Tx 9 ?_;refine gO xA ?_))
   exact Dg
  by_cases d6:30<r
  case pos =>
   have hf:frB (sG F (a:Int))=false:=by rw [Cm,hr];exact decide_eq_false (by omega)
   have hb:Cl ps F y i=false:=by
    have hall:(y.args.all fun a=>frB (sG F a))=false:=List.all_eq_false.2 ⟨_,gM ha,by rw [hf];decide⟩
    unfold Cl
    rw [hall,decide_eq_false k0,cj,eg,je]
   rw [hb]
   repeat' (with_reducible first|refine qq ?_|(refine Tx 6 ?_;refine gO xLt ?_)|refine AeB ?_|(refine Tx 9 ?_;refine gO xA ?_))
   exact Dg
  have hf:frB (sG F (a:Int))=true:=by rw [Cm,hr];exact decide_eq_true (by omega)
  repeat' (with_reducible first|refine qq ?_|(refine Tx 6 ?_;refine gO xLt ?_)|refine AeB ?_|(refine Tx 10 ?_;refine gO xAd <| gO xM ?_))
  refine ⟨_,_,Be 2,_,by omega,q+1,by omega,rfl,Dr hqa ha hf,rfl,rfl⟩
 obtain rfl:q=y.args.length:=by omega
 clear hlu hq
 rw [aq] at hqa
 have hb:Cl ps F y i=Mw ps F y s:=by unfold Cl;rw [hs,hfr,show (y.args.all fun a=>frB (sG F a))=true from List.all_eq_true.2 hqa,Bool.or_true,dq,dq]
 rw [hb]
 have hk:=B.hk
 by_cases k1:y.kind=1
 case pos =>
  rw [show Mw ps F y s=rwB y.vn y.ve s by unfold Mw;rw [if_neg (by omega),if_pos k1]]
  have RA:=MH y.vn y.ve s
  repeat' (with_reducible first|refine qq ?_|(refine Tx 6 ?_;refine gO xLt ?_)|refine Ie ?_|refine Lk ?_|(refine Bl (id:=15) AC (by kernel_rfl) ?_;refine gP xF <| gP xL <| gP xM <| gP xM <| gP (xIr Ae (Ay hFi)) <| gP xD <| gP (xCl func199 (RA)) <| gP xA ?_;refine Ke ?_))
  exact Dg
 by_cases k6:y.kind=6
 case pos =>
  obtain ⟨a,hA0,ha0,hl0⟩:=B.a0 (by omega)
  have hL0:=(gS.1 hA0).1
  have hl0:=hl0 (by omega)
  have hF0:=My (F:=F) (k:=a) (by omega)
  have hr0:=of_decide_eq_true (hqa _ (gM hA0))
  rw [Cm] at hr0
  obtain ⟨r0,hq0⟩:∃ r,scA F a=r:=⟨_,rfl⟩
  rw [hq0] at hF0 hr0
  have hv:=B.sv (by omega)
  unfold DN at hv
  rw [show Mw ps F y s=inK (s - r0+y.ve) by unfold Mw;rw [if_neg (by omega),if_neg (by omega),if_pos k6,ha0,Cm,hq0]]
  have IN:=II (s - r0+y.ve)
  repeat' (with_reducible first|refine qq ?_|(refine Tx 6 ?_;refine gO xLt ?_)|refine Ie ?_|refine Lk ?_|(refine Tx 16 ?_;refine gO xEq <| gO xA ?_)|(refine Bl (id:=17) AC (by kernel_rfl) ?_;refine gP xM <| gP xM <| gP MI <| gP xD <| gP xM <| gP xF <| gP xD <| gP (xIr Ae (Ay hA0)) <| gP xD <| gP MI <| gP xD <| gP xSb <| gP xF <| gP xF <| gP xD <| gP xAd <| gP (xCl func198 (IN)) <| gP xA ?_;refine Ke ?_))
  exact Dg
 by_cases k7:y.kind=7
 case pos =>
  obtain ⟨a,hA0,ha0,hl0⟩:=B.a0 (by omega)
  have hL0:=(gS.1 hA0).1
  have hl0:=hl0 (by omega)
  have hF0:=My (F:=F) (k:=a) (by omega)
  have hr0:=of_decide_eq_true (hqa _ (gM hA0))
  rw [Cm] at hr0
  obtain ⟨r0,hq0⟩:∃ r,scA F a=r:=⟨_,rfl⟩
  rw [hq0] at hF0 hr0
  obtain ⟨b,hA1,ha1,hl1⟩:=B.a1 (by omega)
  have hL1:=(gS.1 hA1).1
  have hF1:=My (F:=F) (k:=b) (by omega)
  have hr1:=of_decide_eq_true (hqa _ (gM hA1))
  rw [Cm] at hr1
  obtain ⟨r1,hq1⟩:∃ r,scA F b=r:=⟨_,rfl⟩
  rw [hq1] at hF1 hr1
  rw [show Mw ps F y s=inK (s - r0 - r1) by unfold Mw;rw [if_neg (by omega),if_neg (by omega),if_neg (by omega),if_pos k7,ha0,ha1,Cm,Cm,hq0,hq1]]
  have IN:=II (s - r0 - r1)
  repeat' (with_reducible first|refine qq ?_|(refine Tx 6 ?_;refine gO xLt ?_)|refine Ie ?_|refine Lk ?_|(refine Tx 16 ?_;refine gO xEq <| gO xA ?_)|(refine Tx 18 ?_;refine gO xEq <| gO xA ?_)|(refine Bl (id:=19) AC (by kernel_rfl) ?_;refine gP xM <| gP xM <| gP AeF <| gP xD <| gP xM <| gP xF <| gP xD <| gP (xIr Ae (Ay hA0)) <| gP xD <| gP AeF <| gP xD <| gP xSb <| gP xM <| gP xF <| gP xD <| gP (xIr Ae (Ay hA1)) <| gP xD <| gP AeF <| gP xD <| gP xSb <| gP (xCl func198 (IN)) <| gP xA ?_;refine Ke ?_))
  exact Dg
 by_cases k2:y.kind=2
 case pos =>
  obtain ⟨a,hA0,ha0,hl0⟩:=B.a0 (by omega)
  have hL0:=(gS.1 hA0).1
  have hl0:=hl0 (by omega)
  have hF0:=My (F:=F) (k:=a) (by omega)
  have hr0:=of_decide_eq_true (hqa _ (gM hA0))
  rw [Cm] at hr0
  obtain ⟨r0,hq0⟩:∃ r,scA F a=r:=⟨_,rfl⟩
  rw [hq0] at hF0 hr0
  rw [show Mw ps F y s=(inK (s - r0) && rwB y.vn y.ve s) by unfold Mw;rw [if_neg (by omega),if_neg (by omega),if_neg (by omega),if_neg (by omega),if_pos k2,ha0,Cm,hq0]]
  have IN:=II (s - r0)
  have RA:=MH y.vn y.ve s
  cases hI:inK (s - r0)
  case false =>
   rw [hI] at IN
   repeat' (with_reducible first|refine qq ?_|(refine Tx 6 ?_;refine gO xLt ?_)|refine Ie ?_|refine Lk ?_|(refine Tx 16 ?_;refine gO xEq <| gO xA ?_)|(refine Tx 18 ?_;refine gO xEq <| gO xA ?_)|(refine Tx 20 ?_;refine gO xEq <| gO xA ?_)|refine AeC ?_)
   exact Dg
  rw [hI] at IN
  cases hR:rwB y.vn y.ve s
  case false =>
   rw [hR] at RA
   repeat' (with_reducible first|refine qq ?_|(refine Tx 6 ?_;refine gO xLt ?_)|refine Ie ?_|refine Lk ?_|(refine Tx 16 ?_;refine gO xEq <| gO xA ?_)|(refine Tx 18 ?_;refine gO xEq <| gO xA ?_)|(refine Tx 20 ?_;refine gO xEq <| gO xA ?_)|refine AeC ?_)
   exact Dg
  rw [hR] at RA
  repeat' (with_reducible first|refine qq ?_|(refine Tx 6 ?_;refine gO xLt ?_)|refine Ie ?_|refine Lk ?_|(refine Tx 16 ?_;refine gO xEq <| gO xA ?_)|(refine Tx 18 ?_;refine gO xEq <| gO xA ?_)|(refine Tx 20 ?_;refine gO xEq <| gO xA ?_)|refine AeC ?_)
  exact Dg
 by_cases k11:y.kind=11
 case pos =>
  obtain ⟨a,hA0,ha0,hl0⟩:=B.a0 (by omega)
  have hL0:=(gS.1 hA0).1
  have hl0:=hl0 (by omega)
  have hF0:=My (F:=F) (k:=a) (by omega)
  have hr0:=of_decide_eq_true (hqa _ (gM hA0))
  rw [Cm] at hr0
  obtain ⟨r0,hq0⟩:∃ r,scA F a=r:=⟨_,rfl⟩
  rw [hq0] at hF0 hr0
  rw [show Mw ps F y s=(inK (s - r0) && rwB y.vn y.ve s && rwB y.un y.ue s) by unfold Mw;rw [if_neg (by omega),if_neg (by omega),if_neg (by omega),if_neg (by omega),if_neg (by omega),if_pos k11,ha0,Cm,hq0]]
  have IN:=II (s - r0)
  have RA:=MH y.vn y.ve s
  have RU:=MH y.un y.ue s
  cases hI:inK (s - r0)
  case false =>
   rw [hI] at IN
   repeat' (with_reducible first|refine qq ?_|(refine Tx 6 ?_;refine gO xLt ?_)|refine Ie ?_|refine Lk ?_|(refine Tx 16 ?_;refine gO xEq <| gO xA ?_)|(refine Tx 18 ?_;refine gO xEq <| gO xA ?_)|(refine Tx 20 ?_;refine gO xEq <| gO xA ?_)|(refine Tx 22 ?_;refine gO xEq <| gO xA ?_)|refine AeD ?_)
   exact Dg
  rw [hI] at IN
  cases hR:rwB y.vn y.ve s
  case false =>
   rw [hR] at RA
   repeat' (with_reducible first|refine qq ?_|(refine Tx 6 ?_;refine gO xLt ?_)|refine Ie ?_|refine Lk ?_|(refine Tx 16 ?_;refine gO xEq <| gO xA ?_)|(refine Tx 18 ?_;refine gO xEq <| gO xA ?_)|(refine Tx 20 ?_;refine gO xEq <| gO xA ?_)|(refine Tx 22 ?_;refine gO xEq <| gO xA ?_)|refine AeD ?_)
   exact Dg
  rw [hR] at RA
  repeat' (with_reducible first|refine qq ?_|(refine Tx 6 ?_;refine gO xLt ?_)|refine Ie ?_|refine Lk ?_|(refine Tx 16 ?_;refine gO xEq <| gO xA ?_)|(refine Tx 18 ?_;refine gO xEq <| gO xA ?_)|(refine Tx 20 ?_;refine gO xEq <| gO xA ?_)|(refine Tx 22 ?_;refine gO xEq <| gO xA ?_)|refine AeD ?_)
  exact Dg
 rw [show Mw ps F y s=y.args.all fun a=>inK (s - sG F a) by unfold Mw;rw [if_neg (by omega),if_neg (by omega),if_neg (by omega),if_neg (by omega),if_neg (by omega),if_neg (by omega)]]
 repeat' (with_reducible first|refine qq ?_|(refine Tx 6 ?_;refine gO xLt ?_)|refine Ie ?_|refine Lk ?_|(refine Tx 16 ?_;refine gO xEq <| gO xA ?_)|(refine Tx 18 ?_;refine gO xEq <| gO xA ?_)|(refine Tx 20 ?_;refine gO xEq <| gO xA ?_)|(refine Tx 22 ?_;refine gO xEq <| gO xA ?_)|(refine Tx 24 ?_;refine gO xF <| gO xD <| gO xN <| gO xM ?_))
 refine AJ (Be 2) (Al (fun n Fr H=>∃ q:Nat,q≤y.args.length∧n=y.args.length - q∧(∀ a∈y.args.take q,inK (s - sG F a)=true)∧Fr=ofL [(1,vd (AU u F)),(2,vi ((i:Nat))),(3,vr 0),(7,vr 1),(180,vd (AU t y.args)),(181,vi y.args.length),(182,vi ((q:Nat)))]∧H=[.box 26 [.d (CY t ps),.d (Cw t bs),.d (AU t os)],.box 65 [.d (.val (.int .i64 y.kind)),.d (AU t y.args),.d (.val (.int .i64 y.vn)),.d (.val (.int .i64 y.ve)),.d (.val (.int .i64 y.un)),.d (.val (.int .i64 y.ue))]]) (n0:=y.args.length) ⟨0,ad _,rfl,(fun a ha=>by simp at ha),rfl,rfl⟩ ?_)
 rintro n Fr H ⟨q,hq,rfl,hqb,rfl,rfl⟩
 by_cases hlu:q<y.args.length
 case pos =>
  obtain ⟨z,ha⟩:∃ z,y.args[q]?=some z:=⟨_,gE hlu⟩
  obtain ⟨z0,z1⟩:=B.all k0 z (gM ha)
  obtain ⟨a,rfl⟩:=gm z0
  have hFa:=My (F:=F) (k:=a) (by omega)
  obtain ⟨r,hr⟩:∃ r,scA F a=r:=⟨_,rfl⟩
  rw [hr] at hFa
  have hrr:=of_decide_eq_true (hqa _ (gM ha))
  rw [Cm,hr] at hrr
  have IN:=II (s - r)
  have hz:inK (s - sG F (a:Int))=inK (s - r):=by rw [Cm,hr]
  cases hI:inK (s - r)
  case false =>
   rw [hI] at IN hz
   rw [show (y.args.all fun a=>inK (s - sG F a))=false from List.all_eq_false.2 ⟨_,gM ha,by rw [hz];decide⟩]
   repeat' (with_reducible first|refine qq ?_|(refine Tx 25 ?_;refine gO xLt ?_)|refine Ajs ?_|(refine Tx 28 ?_;refine gO xA ?_))
   exact Dg
  rw [hI] at IN hz
  repeat' (with_reducible first|refine qq ?_|(refine Tx 25 ?_;refine gO xLt ?_)|refine Ajs ?_|(refine Tx 29 ?_;refine gO xAd <| gO xM ?_))
  refine ⟨_,_,Be 2,_,by omega,q+1,by omega,rfl,Dr hqb ha hz,rfl,rfl⟩
 obtain rfl:q=y.args.length:=by omega
 rw [aq] at hqb
 rw [show (y.args.all fun a=>inK (s - sG F a))=true from List.all_eq_true.2 hqb]
 repeat' (with_reducible first|refine qq ?_|(refine Tx 25 ?_;refine gO xLt ?_)|(refine Tx 30 ?_;refine gO xA ?_))
 exact Dg
theorem Amv {v P W:Iq} {d:Nat} (hv:IwS v n d) (hP:IwS P n d) (hW:IwS W n d):iIn (Gg v P) W=(iIn v W && iIn P W):=by
 obtain ⟨e1,e2⟩:=AdG hv hP
 rw [Mq (hv.hull hP) hW,Mq hv hW,Mq hP hW,e1,e2,ji,ai,decide_eq_true_eq,decide_eq_true_eq,decide_eq_true_eq]
 omega
theorem YY (k:p') (h:Hd9 p'→p:=by with_reducible first|(intro Z9;refine Tx 0 ?_;refine gN xBo <| gO xA ?_;exact Z9.o)|(intro Z9;refine Tx 2 ?_;refine gO xF <| gO xD ?_;exact Z9.o)|(intro Z9;refine Tx 3 ?_;refine gO xEq <| gO xA ?_;exact Z9.o)|fail):p:=h ⟨k⟩
theorem AeG (h:p:=by first|exact xIr Ad (hWi)|exact xIr Ad (hIa)):p:=h
theorem Ajt (k:p') (h:Hd9 p'→p:=by with_reducible first|(intro Z9;refine Tx 1 ?_;refine gO xF <| gO xD <| gO xM <| gO (by first|exact xIr Ak (Dq hy)|exact xIr Ak (hWi)|exact xIr Ak (hIa)) <| gO xL <| gN (xAl Bu) <| gZ (xSk Bh) ?_;exact Z9.o)|(intro Z9;refine Bl (id:=6) AC (by kernel_rfl) ?_;refine gP xM <| gP xM <| gP AeG <| gP xL <| gP xF <| gP xL <| gP (xCl func173 (RV)) <| gP (xCl func201 (CT)) <| gP xM ?_;(first|iterate 12 refine Kd ?_|(refine Ky xM1 ?_;refine Ky (xFa Mg BJ) ?_;refine Ky (xLd BJ) ?_;refine Ky (by first|exact xIr Ae (hWi)|exact xIr Ae (Ay hA0)|exact xIr Ae (hIa)) ?_;refine Ky (xLd Az) ?_;refine Ky AeG ?_;refine Ky (xLa Ab) ?_;refine Ky xM1 ?_;refine Ky xM1 ?_;refine Ky AeG ?_;refine Ky (xLa Ab) ?_;refine Ky (xCl func200 (IS)) ?_));refine gP xPk <| gP xA ?_;refine Ke ?_;exact Z9.o)|fail):p:=h ⟨k⟩
theorem Aju (h:p:=by first|exact xIr Ak (Dq hy)|exact xIr Ak (hWi)):p:=h
theorem Vh (t:Bool) {ps:List Prt} {bs:List Bk} (os:List Int) (i:Nat) {y:Bk} (hy:bs[i]?=some y) (B:AeV ps bs.length y) (R:List Iq) (hR:R.length=bs.length) (sR:∀ p∈R,IwS p LB LB) (hn:bs.length≤1000000) (hpn:ps.length≤1000000):CV prog Ah 120 [aDg t ps bs os,.one (.row false 6 R.length (An (dIw false) R)),aI (i:Int)] [aB (Da ps R y i)]:=by
 refine cvz func120 ntmps120 ?_
 have hil:=(gS.1 hy).1
 have hBl:=B.len
 have hWi:=Yz (R:=R) (k:=i) (by omega)
 have sW:=(BE sR i).more LBx LBx
 unfold Da
 obtain ⟨W,hW⟩:∃ W,R[i]?.getD iZ=W:=⟨_,rfl⟩
 rw [hW] at hWi sW
 rw [hW]
 by_cases k0:y.kind=0
 case pos =>
  obtain ⟨j,pp,hA0,ha0,hp,PS⟩:=B.port k0
  have l3:=(gS.1 hp).1
  have hL0:=(gS.1 hA0).1
  have hb:LO ps R y=IK pp:=by unfold LO Bs;rw [if_neg (by omega),if_pos k0,hA0];simp [hp]
  rw [hb]
  have PO:=UQ pp PS
  have IS:=LJ (IK pp) W (PS.iw.more (by decide) (by decide)) sW
  repeat' (with_reducible first|refine qq ?_|refine YY ?_|(refine Tx 1 ?_;refine gO xF <| gO xD <| gO xM <| gO Aju <| gO xL <| gN (xAl Bu) <| gZ (xSk Bh) ?_)|(refine Bl (id:=4) AC (by kernel_rfl) ?_;refine gP xF <| gP xD <| gP xF <| gP xD <| gP (by first|exact xIr Ae (hWi)|exact xIr Ae (Ay hA0)) <| gP xD <| gP (by first|exact xIr Ci (hWi)|exact xIr Ci (IV hp)) <| gP xL <| gP (xCl func109 (PO)) <| gP xM <| gP xM <| gP (xIr Ad (hWi)) <| gP xL <| gP (xCl func200 (IS)) <| gP xA ?_;refine Ke ?_))
  exact Dg
 by_cases k2:y.kind=2
 case pos =>
  obtain ⟨a,hA0,ha0,hl0⟩:=B.a0 (by omega)
  have hl0:=hl0 k0
  have hL0:=(gS.1 hA0).1
  have hIa:=Yz (R:=R) (k:=a) (by omega)
  have sP0:=BE sR a
  have sP:=sP0.more LBx LBx
  obtain ⟨P,hP⟩:∃ P,R[a]?.getD iZ=P:=⟨_,rfl⟩
  rw [hP] at hIa sP
  have hv:=B.sv (by omega)
  have hv2:=hv
  unfold DN at hv2
  have RV:=(EF (G:=Ah) y.vn y.ve (by omega) (by omega)).cv
  have sv:=(EP hv).more LBx LBx
  obtain ⟨v,hvv⟩:∃ v,Af y.vn 0 y.ve=v:=⟨_,rfl⟩
  rw [hvv] at RV sv
  have CT:=EX W v sW sv
  have IS:=LJ P W sP sW
  rw [show LO ps R y=Gg (v,v) P by unfold LO;rw [if_pos k2,ha0,Nx,hP,hvv],Amv (.pt sv) sP sW]
  cases hc:iIn (v,v) W
  case false =>
   rw [hc] at CT
   repeat' (with_reducible first|refine qq ?_|refine YY ?_|refine Ajt ?_|(refine Tx 5 ?_;refine gO xEq <| gO xA ?_))
   exact Dg
  rw [hc] at CT
  repeat' (with_reducible first|refine qq ?_|refine YY ?_|refine Ajt ?_|(refine Tx 5 ?_;refine gO xEq <| gO xA ?_))
  exact Dg
 rw [show LO ps R y=DB y (CZ R y) by unfold LO Bs;rw [if_neg k2,if_neg k0]]
 repeat' (with_reducible first|refine qq ?_|refine YY ?_|(refine Tx 1 ?_;refine gO xF <| gO xD <| gO xM <| gO Aju <| gO xL <| gN (xAl Bu) <| gZ (xSk Bh) ?_)|(refine Tx 5 ?_;refine gO xEq <| gO xA ?_)|(refine Tx 7 ?_;refine gO xA ?_))
 refine AJ (Fh 8 45 6 rfl) ?_
 repeat' (with_reducible first|refine qq ?_|(refine Tx 8 ?_;refine gO xF <| gO xD <| gO xN <| gO xM ?_))
 refine AJ (Be 3) (Al (fun n Fr H=>∃ q:Nat,q≤y.args.length∧n=y.args.length - q∧Fr=ofL [(1,vd (.row false 6 R.length (An (dIw false) R))),(2,vi ((i:Nat))),(3,vr 0),(7,vr 1),(8,vo 2 (((CZ R y).take q).length)),(59,vd (AU t y.args)),(60,vi y.args.length),(61,vi ((q:Nat)))]∧H=[.box 26 [.d (CY t ps),.d (Cw t bs),.d (AU t os)],.box 65 [.d (.val (.int .i64 y.kind)),.d (AU t y.args),.d (.val (.int .i64 y.vn)),.d (.val (.int .i64 y.ve)),.d (.val (.int .i64 y.un)),.d (.val (.int .i64 y.ue))],.row 45 6 ((CZ R y).take (q)).length ((An (dIw false) ((CZ R y).take (q))).map C.d)]) (n0:=y.args.length) ⟨0,ad _,rfl,rfl,rfl⟩ ?_)
 rintro n Fr H ⟨q,hq,rfl,rfl,rfl⟩
 by_cases hlu:q<y.args.length
 case pos =>
  obtain ⟨z,ha⟩:∃ z,y.args[q]?=some z:=⟨_,gE hlu⟩
  obtain ⟨z0,z1⟩:=B.all k0 z (gM ha)
  obtain ⟨a,rfl⟩:=gm z0
  have hIa:=Yz (R:=R) (k:=a) (by omega)
  have hj:=CB (V:=R) k0 ha (p:=R[a]?.getD iZ) (by rw [ap];exact UV (by omega))
  obtain ⟨P,hP⟩:∃ P,R[a]?.getD iZ=P:=⟨_,rfl⟩
  rw [hP] at hIa hj
  obtain ⟨hap,hap2,hoL⟩:=Gl hj
  repeat' (with_reducible first|refine qq ?_|(refine Tx 9 ?_;refine gO xLt ?_)|(refine Tx 10 ?_;refine gO (by first|exact xIr Ae (Ay ha)|exact xIr Ae (hIa)) <| gO xD <| gO xA ?_)|(refine Tx 11 ?_;refine gO xM <| gO xM <| gO xM <| gO (xIr Ad (hIa)) <| gO xL <| gN (by exact BH rfl Ad Ai rfl rfl (by decide) (by decide)) <| gT (by exact Mj rfl rfl rfl rfl rfl rfl Ad Ai (by omega) (by decide) (by decide) rfl hap hap2) <| gO xA ?_)|(refine Tx 12 ?_;refine gO xAd <| gO xM ?_))
  refine ⟨_,_,Be 3,_,by omega,q+1,by omega,rfl,rfl,rfl⟩
 obtain rfl:q=y.args.length:=by omega
 clear hlu hq
 have hjl:=AdO (V:=R) k0
 rw [←hjl,aq]
 have sj:=Ei (y:=y) sR
 have hk:=B.hk
 have BL:=Rj t true y (CZ R y) (by omega) (by omega) (fun h1=>by obtain ⟨a,hA,_⟩:=B.a0 h1;have:=(gS.1 hA).1;omega) (fun h2=>by obtain ⟨a,hA,_⟩:=B.a1 h2;have:=(gS.1 hA).1;omega) (fun p hp=>(sj p hp).more (by decide) (by decide)) (fun h=>B.sv (by omega)) B.su B.cl
 have sb:=GR (y:=y) sj (fun h2=>B.sv (by omega)) (fun h2=>B.su h2) (by omega)
 have IS:=LJ (DB y (CZ R y)) W (sb.more (by decide) (by decide)) sW
 obtain ⟨J,hJ⟩:∃ J,CZ R y=J:=⟨_,rfl⟩
 rw [hJ] at BL IS hjl
 rw [hJ]
 repeat' (with_reducible first|refine qq ?_|(refine Tx 9 ?_;refine gO xLt ?_)|(refine Bl (id:=13) AC (by kernel_rfl) ?_;refine gP xL <| gP xM <| gP (xCl func110 BL (ha:=by with_unfolding_all first|((repeat' first|exact Br rfl rfl|refine AO rfl rfl ?_ ?_|refine Dn rfl rfl ?_|refine Cf rfl rfl ?_|exact Bi rfl (fun h=>by cases h)|exact Dc rfl rfl rfl (Fe rfl (BV (f:=dIw false) Eh _))) <;> fail)|fail)) <| gP xM <| gP xM <| gP (xIr Ad (hWi)) <| gP xL <| gP (xCl func200 (IS)) <| gP xA ?_;refine Ke ?_))
 exact Dg
theorem Ajv (k:p') (h:Hd9 p'→p:=by with_reducible first|(intro Z9;refine Bl (id:=1) AC (by kernel_rfl) ?_;refine gP xF <| gP xD <| gP xM <| gP (by first|exact xIr Ad (hIi)|exact xIr Ad (hEi)) <| gP xL <| gP (xCl func174 (MG)) <| gP xF <| gP xD <| gP xM <| gP (by first|exact xIr Ag (hIi)|exact xIr Ag (hEi)) <| gP xL <| gP (xCl func197 (AD1)) <| gP xF <| gP xD <| gP xM <| gP (by first|exact xIr Ae (Ay hFi)|exact xIr Ae (hIi)|exact xIr Ae (hEi)) <| gP xD <| gP (xCl func202 (SM1)) <| gP DH ?_;refine Ke ?_;exact Z9.o)|fail):p:=h ⟨k⟩
theorem Ajw (h:p:=by first|exact xIr Ak (Dq hy)|exact xIr Ak (hIi)|exact xIr Ak (hEi)|exact xIr Ak (hIa)|exact xIr Ak (hEa)):p:=h
theorem Ajx (h:p:=by first|exact xIr Ae (Ay hFi)|exact xIr Ae (hIi)|exact xIr Ae (hEi)|exact xIr Ae (hIa)|exact xIr Ae (hEa)):p:=h
theorem Ajy (h:p:=by first|exact xIr Ad (hIi)|exact xIr Ad (hEi)|exact xIr Ad (hIa)|exact xIr Ad (hEa)):p:=h
theorem Ajz (h:p:=by first|exact xIr Ag (hIi)|exact xIr Ag (hEi)|exact xIr Ag (hIa)|exact xIr Ag (hEa)):p:=h
theorem AjA (h:p:=by first|exact xCl func197 (AD1)|exact xCl func197 (AD2)):p:=h
theorem AjB (h:p:=by first|exact xCl func202 (SM1)|exact xCl func202 (SM2)):p:=h
theorem Aan (t u:Bool) {ps:List Prt} {bs:List Bk} (os:List Int) (c:Ct) (hE:c.E.length=bs.length) (sE:∀ p∈c.E,Sm p LB LB) (i:Nat) {y:Bk} (hy:bs[i]?=some y) (B:AeV ps bs.length y) (hF:c.F.length=bs.length) (hR:c.R.length=bs.length) (sR:∀ p∈c.R,IwS p LB LB) (hn:bs.length≤1000000) (hs2:0≤scA c.F i∧scA c.F i≤30):CV prog Ah 121 [aDg t ps bs os,.agg (dCt u c),aI (i:Int)] [aB (AeU c.F c.R c.E y i)]:=by
 refine cvz func121 ntmps121 ?_
 have hil:=(gS.1 hy).1
 have hFi:=My (F:=c.F) (k:=i) (by omega)
 obtain ⟨s,hs⟩:∃ s,scA c.F i=s:=⟨_,rfl⟩
 rw [hs] at hFi
 have hBl:=B.len
 rw [hs] at hs2
 have hIi:=Yz (R:=c.R) (k:=i) (by omega)
 have hEi:=Yy (E:=c.E) (k:=i) (by omega)
 have si:=BE sR i
 have se:=DA sE i
 obtain ⟨P,hP⟩:∃ P,c.R[i]?.getD iZ=P:=⟨_,rfl⟩
 obtain ⟨e,he⟩:∃ e,c.E[i]?.getD (0,0)=e:=⟨_,rfl⟩
 rw [hP] at si hIi
 rw [he] at se hEi
 have MG:=MF P (si.more LBx LBx)
 have sg:=Lc si
 obtain ⟨M,hM⟩:∃ M,Fu P=M:=⟨_,rfl⟩
 rw [hM] at MG sg
 have AD1:=(Po Ah false false M.1 M.2 e.1 e.2 sg.ok se.ok sg.lz se.lz).cv
 have ss1:=Sm.sum sg se (by decide)
 obtain ⟨S1,hS1⟩:∃ S,CR M.1 M.2 e.1 e.2=S:=⟨_,rfl⟩
 rw [hS1] at AD1 ss1
 have hQ1:DP M e=S1:=hS1
 have SM1:=Qf S1 s (ss1.more (by decide) (by decide)) hs2.1 hs2.2
 have hb:AeU c.F c.R c.E y i=(GS S1 s && (!decide (y.kind=11) || GS (DP (rG c.R (De y)).2 (eG c.E (De y))) s)):=by unfold AeU;rw [hs,hP,he,hM,hQ1]
 rw [hb]
 cases c1:GS S1 s
 case false =>
  rw [c1] at SM1
  rw [eg]
  repeat' (with_reducible first|refine qq ?_|(refine Tx 0 ?_;refine gN xBo <| gN xBo <| gO xA ?_)|refine Ajv ?_|(refine Tx 2 ?_;refine gO xA ?_))
  exact Dg
 rw [c1] at SM1
 rw [dq]
 by_cases k11:y.kind=11
 case neg =>
  rw [decide_eq_false k11,dg,fd]
  repeat' (with_reducible first|refine qq ?_|(refine Tx 0 ?_;refine gN xBo <| gN xBo <| gO xA ?_)|refine Ajv ?_|(refine Tx 3 ?_;refine gO xF <| gO xD <| gO xM <| gO (by first|exact xIr Ak (Dq hy)|exact xIr Ak (hIi)|exact xIr Ak (hEi)) <| gO xF <| gO xD <| gO xEq ?_)|(refine Tx 6 ?_;refine gO xA ?_))
  exact Dg
 rw [decide_eq_true k11,df,cj]
 obtain ⟨a,hA0,ha0,hl0⟩:=B.a0 (by omega)
 have hl0:=hl0 (by omega)
 have hL0:=(gS.1 hA0).1
 rw [ha0,Nx,HJ]
 have hIa:=Yz (R:=c.R) (k:=a) (by omega)
 have hEa:=Yy (E:=c.E) (k:=a) (by omega)
 have sj:=BE sR a
 have sf:=DA sE a
 obtain ⟨Q,hQ⟩:∃ Q,c.R[a]?.getD iZ=Q:=⟨_,rfl⟩
 obtain ⟨f,hf⟩:∃ f,c.E[a]?.getD (0,0)=f:=⟨_,rfl⟩
 rw [hQ] at sj hIa
 rw [hf] at sf hEa
 rw [hQ,hf]
 have sq:=sj.s2
 have AD2:=(Po Ah false false Q.2.1 Q.2.2 f.1 f.2 sq.ok sf.ok sq.lz sf.lz).cv
 have ss2:=Sm.sum sq sf (by decide)
 obtain ⟨S2,hS2⟩:∃ S,CR Q.2.1 Q.2.2 f.1 f.2=S:=⟨_,rfl⟩
 rw [hS2] at AD2 ss2
 have hQ2:DP Q.2 f=S2:=hS2
 have SM2:=Qf S2 s (ss2.more (by decide) (by decide)) hs2.1 hs2.2
 rw [hQ2]
 repeat' (with_reducible first|refine qq ?_|(refine Tx 0 ?_;refine gN xBo <| gN xBo <| gO xA ?_)|(refine Bl (id:=1) AC (by kernel_rfl) ?_;refine gP xF <| gP xD <| gP xM <| gP Ajy <| gP xL <| gP (xCl func174 (MG)) <| gP xF <| gP xD <| gP xM <| gP Ajz <| gP xL <| gP AjA <| gP xF <| gP xD <| gP xM <| gP Ajx <| gP xD <| gP AjB <| gP DH ?_;refine Ke ?_)|(refine Tx 3 ?_;refine gO xF <| gO xD <| gO xM <| gO Ajw <| gO xF <| gO xD <| gO xEq ?_)|(refine Tx 4 ?_;refine gO xF <| gO xD <| gO xM <| gO Ajw <| gO xF <| gO xD <| gO (by first|exact xIr Ae (hIi)|exact xIr Ae (hEi)|exact xIr Ae (Ay hA0)|exact xIr Ae (hIa)|exact xIr Ae (hEa)) <| gO xD <| gO xA ?_)|(refine Bl (id:=5) AC (by kernel_rfl) ?_;refine gP xF <| gP xD <| gP xM <| gP Ajy <| gP xF <| gP xL <| gP xF <| gP xD <| gP xM <| gP Ajz <| gP xL <| gP AjA <| gP xF <| gP xD <| gP xM <| gP Ajx <| gP xD <| gP AjB <| gP xA ?_;refine Ke ?_))
 exact Dg
end Go.Proofs.YtjlkgfeepocjfaaGreatDoor
