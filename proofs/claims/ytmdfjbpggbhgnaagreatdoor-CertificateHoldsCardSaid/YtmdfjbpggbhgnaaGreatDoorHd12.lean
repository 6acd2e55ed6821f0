/- What the proofs of this claim share, part 12. No conditions. -/
import Derived.Test.YtmdfjbpggbhgnaaGreatDoorHd11
import Derived.Test.YtmdfjbpggbhgnaaGreatDoorHd10
import Derived.Test.YtmdfjbpggbhgnaaGreatDoorHd6
set_option maxRecDepth 100000
set_option maxHeartbeats 4000000
set_option linter.all false
open Go.Proofs.Tryz
namespace Go.Proofs.YtmdfjbpggbhgnaaGreatDoor
open Go.RowKit
variable {p p':Prop}
theorem LD {a b:Int} (h:¬ a=b):(a == b)=false:=beq_eq_false_iff_ne.2 h
theorem Ave {n e:Int} (h:¬ (n=0∧e=0)):(!(n == 0 && e == 0))=true:=by
 by_cases h1:n=0
 ·rw [LD (fun h2=>h ⟨h1,h2⟩),Bool.and_false];rfl
 ·rw [LD h1];rfl
theorem Akj {n e:Int} (h:Dn n e):Nf (Ac n 0 e).1 (Ac n 0 e).2∧(Ae (Ac n 0 e).1.natAbs).length≤40000:=by
 unfold Dn at h
 have sm:=Sm.shift (n:=32) (x:=n) (k:=e) (by omega) (by omega) (by omega)
 exact ⟨sm.ok,lT (sm.lenN 10 (by decide)) (by decide)⟩
theorem Ary (k:p') (h:Hd9 p'→p:=by with_reducible first|(intro Z9;refine qq ?_;exact Z9.o)|(intro Z9;refine Tx 0 ?_;refine gO xA ?_;exact Z9.o)|(intro Z9;refine Tx 1 ?_;refine gO xM ?_;exact Z9.o)|(intro Z9;refine Tx 2 ?_;refine gO xEq <| gO xA ?_;exact Z9.o)|(intro Z9;refine Tx 3 ?_;refine gO xA ?_;exact Z9.o)|(intro Z9;refine Tx 4 ?_;refine gO xEq <| gO xA ?_;exact Z9.o)|(intro Z9;refine Tx 5 ?_;refine gO xEq <| gO xA ?_;exact Z9.o)|(intro Z9;refine Tx 6 ?_;refine gO xEq <| gO xA ?_;exact Z9.o)|(intro Z9;refine Tx 7 ?_;refine gO xEq <| gO xA ?_;exact Z9.o)|(intro Z9;refine Tx 8 ?_;refine gO xEq <| gO xA ?_;exact Z9.o)|(intro Z9;refine Tx 9 ?_;refine gO xEq <| gO xA ?_;exact Z9.o)|(intro Z9;refine Tx 10 ?_;refine gO xA ?_;exact Z9.o)|(intro Z9;refine Tx 11 ?_;refine gO xEq <| gO xA ?_;exact Z9.o)|(intro Z9;refine Tx 12 ?_;refine gO xEq <| gO xA ?_;exact Z9.o)|(intro Z9;refine Tx 13 ?_;refine gO xEq <| gO xA ?_;exact Z9.o)|(intro Z9;refine Tx 14 ?_;refine gO xEq <| gO xA ?_;exact Z9.o)|(intro Z9;refine Tx 15 ?_;refine gO xEq <| gO xA ?_;exact Z9.o)|(intro Z9;refine Tx 16 ?_;refine gO xA ?_;exact Z9.o)|(intro Z9;refine Tx 17 ?_;refine gO xA ?_;exact Z9.o)|fail):p:=h ⟨k⟩
theorem Aeo (k:Int):CV prog An 201 [aI k] [aI (Bc k)]:=by
 refine cvz func201 ntmps201 ?_
 have h:k=1∨k=0∨k=2∨k=5∨k=10∨k=6∨k=11∨k=3∨k=4∨k=7∨k=8∨k=9∨(k≠1∧k≠0∧k≠2∧k≠5∧k≠10∧k≠6∧k≠11∧k≠3∧k≠4∧k≠7∧k≠8∧k≠9):=by omega
 rcases h with rfl|rfl|rfl|rfl|rfl|rfl|rfl|rfl|rfl|rfl|rfl|rfl|h
 rotate_left 12
 ·have e:Bc k = -1:=by unfold Bc;rw [if_neg (by omega),if_neg (by omega),if_neg (by omega)]
  rw [e]
  repeat' (with_reducible first|refine Ary ?_)
  exact AH rfl (.cons_ (Ado rfl rfl) .nil_)
 all_goals repeat' (with_reducible first|refine Ary ?_)
 all_goals exact AH rfl (.cons_ (Ado rfl (by decide)) .nil_)
theorem XR (k:p') (h:Hd9 p'→p:=by with_reducible first|(intro Z9;refine qq ?_;exact Z9.o)|(intro Z9;refine Tx 0 ?_;refine gN xBo <| gO xA ?_;exact Z9.o)|(intro Z9;refine Tx 1 ?_;refine gO xM <| gO (by first|exact xNt|exact xNg) ?_;exact Z9.o)|fail):p:=h ⟨k⟩
theorem Aep (k:p') (h:Hd9 p'→p:=by with_reducible first|(intro Z9;refine Tx 5 ?_;refine gO xF <| gO xD <| gO xLe <| gO xM ?_;(first|iterate 3 refine Jd ?_|(refine Jy (xFa Oj Ar) ?_;refine Jy (xLd Ar) ?_;refine Jy xGe ?_));refine gO xPk <| gO xM ?_;(first|iterate 3 refine Jd ?_|(refine Jy (xFa Gu Ar) ?_;refine Jy (xLd Ar) ?_;refine Jy xLt ?_));refine gO xPk <| gO xM ?_;(first|iterate 3 refine Jd ?_|(refine Jy (xFa Gu Ar) ?_;refine Jy (xLd Ar) ?_;refine Jy xGt ?_));refine gO xPk ?_;exact Z9.o)|fail):p:=h ⟨k⟩
theorem FF (h:p:=by
 exact AH rfl (.cons_ (AdK rfl (by decide) (rfl)) .nil_)):p:=h
theorem SI (n e:Int) (used:Bool):CV prog An 202 [.agg [dI n,dI e],aB used] [aE (DT n e used)]:=by
 refine cvz func202 ntmps202 ?_
 cases used
 case false =>
  unfold DT
  rw [if_neg (by decide)]
  by_cases h1:n=0∧e=0
  case pos =>
   rw [if_pos h1]
   obtain ⟨rfl,rfl⟩:=h1
   repeat' (with_reducible first|refine XR ?_|(refine Tx 2 ?_;refine gO xL <| gO (by exact Az rfl QA rfl rfl) <| gO (by first|exact AdP rfl rfl rfl (rfl)|exact xNe) ?_)|(refine Tx 4 ?_;refine gO xA ?_))
   exact AH rfl (.cons_ (Gk rfl (rfl)) .nil_)
  case neg =>
   rw [if_neg h1]
   repeat' (with_reducible first|refine XR ?_|(refine Tx 2 ?_;refine gO xL <| gO (by exact Az rfl QA rfl rfl) <| gO (by first|exact AdP rfl rfl rfl (Ave h1)|exact xNe) ?_)|(refine Tx 3 ?_;refine gO (xMi underlying109) <| gO xA ?_))
   exact FF
 case true =>
  unfold DT
  rw [if_pos rfl]
  by_cases c1 : -2147483648<n
  case neg =>
   rw [if_neg (fun h:Dn n e=>c1 h.1)]
   repeat' (with_reducible first|refine XR ?_|refine Aep ?_|(refine Tx 6 ?_;refine gO (xMi underlying109) <| gO xA ?_))
   exact FF
  by_cases c2:n<2147483648
  case neg =>
   rw [if_neg (fun h:Dn n e=>c2 h.2.1)]
   repeat' (with_reducible first|refine XR ?_|refine Aep ?_|(refine Tx 6 ?_;refine gO (xMi underlying109) <| gO xA ?_))
   exact FF
  by_cases c3 : -62≤e
  case neg =>
   rw [if_neg (fun h:Dn n e=>c3 h.2.2.1)]
   repeat' (with_reducible first|refine XR ?_|refine Aep ?_|(refine Tx 6 ?_;refine gO (xMi underlying109) <| gO xA ?_))
   exact FF
  by_cases c4:e≤30
  case neg =>
   rw [if_neg (fun h:Dn n e=>c4 h.2.2.2)]
   repeat' (with_reducible first|refine XR ?_|refine Aep ?_|(refine Tx 6 ?_;refine gO (xMi underlying109) <| gO xA ?_))
   exact FF
  rw [if_pos (show Dn n e from ⟨c1,c2,c3,c4⟩)]
  repeat' (with_reducible first|refine XR ?_|refine Aep ?_|(refine Tx 7 ?_;refine gO xA ?_))
  exact AH rfl (.cons_ (Gk rfl (rfl)) .nil_)
theorem SJ (n e:Int) (h:Dn n e):CV prog An 203 [.agg [dI n,dI e]] [aDy false (Ac n 0 e).1 (Ac n 0 e).2]:=by
 refine cvz func203 ntmps203 ?_
 have OF:=Ft n (by unfold Dn at h;omega) (by unfold Dn at h;omega)
 have SH:=BE n 0 e ⟨by decide,fun h=>absurd rfl h⟩ (lT (AJ (k:=2) (by unfold Dn at h;omega)) (by decide)) (by unfold Dn at h;omega)
 repeat' (with_reducible first|refine qq ?_|(refine Tx 0 ?_;refine gN xBo <| gN (xAl Ao) ?_)|(refine AE (id:=1) 6 AN (by kernel_rfl) ?_;dsimp only [List.take,List.drop];refine gP xF <| gP xD <| gP (xCl func68 (OF)) <| gP xF <| gP xD <| gP (xCl func21 (SH)) ?_;refine Ke ?_;refine gZ (xSk Ad) ?_))
 exact AH rfl (.cons_ (rvW Ad rfl) .nil_)
theorem Aih (k:p') (h:Hd9 p'→p:=by with_reducible first|(intro Z9;refine Tx 0 ?_;refine gN xBo <| gN xBo <| gO xA ?_;exact Z9.o)|(intro Z9;refine Tx 1 ?_;refine gO xF <| gO xD <| gO (xCl func201 (AR)) <| gO xA ?_;exact Z9.o)|(intro Z9;refine Tx 2 ?_;refine gO xM <| gO xLt ?_;exact Z9.o)|fail):p:=h ⟨k⟩
theorem Arz (k:p') (h:Hd9 p'→p:=by with_reducible first|(intro Z9;refine Tx 6 ?_;refine gO xF <| gO xD <| gO xN <| gO xA ?_;exact Z9.o)|(intro Z9;refine Tx 7 ?_;refine gO xF <| gO xD <| gO xEq ?_;exact Z9.o)|(intro Z9;refine Tx 9 ?_;refine gO xF <| gO xD <| gO xN <| gO xM ?_;exact Z9.o)|fail):p:=h ⟨k⟩
theorem QR (k:p') (h:Hd9 p'→p:=by with_reducible first|(intro Z9;refine Tx 10 ?_;refine gO xLt ?_;exact Z9.o)|fail):p:=h ⟨k⟩
theorem Aeq (k:p') (h:Hd9 p'→p:=by with_reducible first|(intro Z9;refine Tx 11 ?_;refine gO (xIr Af (AG hz)) <| gO xD <| gO xA ?_;exact Z9.o)|(intro Z9;refine Tx 12 ?_;refine gO xM <| gO xLt <| gO xM ?_;(first|iterate 3 refine Jd ?_|(refine Jy xM1 ?_;refine Jy xM1 ?_;refine Jy xGe ?_));refine gO xPk ?_;exact Z9.o)|fail):p:=h ⟨k⟩
theorem ArA (h:p:=by first|exact xCl func202 (SV)|exact xCl func202 (SU)):p:=h
theorem AaY (k:p') (h:Hd9 p'→p:=by with_reducible first|(intro Z9;refine Tx 15 ?_;refine gO xF <| gO xD <| gO xEq <| gO xA ?_;exact Z9.o)|(intro Z9;refine Tx 16 ?_;refine gO xF <| gO xL <| gO xM <| gO xM ?_;(first|iterate 3 refine Jd ?_|(refine Jy (xFa Gv Ar) ?_;refine Jy (xLd Ar) ?_;refine Jy xEq ?_));refine gO xPk <| gO xM ?_;(first|iterate 3 refine Jd ?_|(refine Jy (xFa Gv Ar) ?_;refine Jy (xLd Ar) ?_;refine Jy xEq ?_));refine gO xPk <| gO xM ?_;(first|iterate 3 refine Jd ?_|(refine Jy (xFa Gv Ar) ?_;refine Jy (xLd Ar) ?_;refine Jy xEq ?_));refine gO xPk <| gO ArA <| gO xA ?_;exact Z9.o)|fail):p:=h ⟨k⟩
theorem ArB (h:p:=by first|assumption|omega):p:=h
theorem ArC (h:p:=by first|rfl|omega):p:=h
theorem Avf (k:p') (h:Hd9 p'→p:=by with_reducible first|(intro Z9;refine Tx 17 ?_;refine gO xM <| gO (by first|exact Bw rfl Ai rfl (GP h4)|exact Bw rfl Ai rfl (Ps ArC)|exact Bw rfl Ai rfl (GP ArB)|exact Bw rfl Ai rfl rfl) ?_;exact Z9.o)|(intro Z9;refine Tx 18 ?_;refine gO xM <| gO xA ?_;exact Z9.o)|fail):p:=h ⟨k⟩
theorem Aer (k:p') (h:Hd9 p'→p:=by with_reducible first|(intro Z9;refine Tx 17 ?_;refine gO xM <| gO (xNE Ai) ?_;exact Z9.o)|(intro Z9;refine Tx 19 ?_;refine gO xF <| gO xL <| gO xM <| gO ArA <| gO xA ?_;exact Z9.o)|fail):p:=h ⟨k⟩
theorem ArD (k:p') (h:Hd9 p'→p:=by with_reducible first|(intro Z9;refine Tx 20 ?_;refine gO xM <| gO (by first|exact Bw rfl Ai rfl (GP h5)|exact Bw rfl Ai rfl (Ps ArC)|exact Bw rfl Ai rfl (GP ArB)|exact Bw rfl Ai rfl rfl) ?_;exact Z9.o)|(intro Z9;refine Tx 21 ?_;refine gO xM <| gO xA ?_;exact Z9.o)|fail):p:=h ⟨k⟩
theorem Avg (k:p') (h:Hd9 p'→p:=by with_reducible first|(intro Z9;refine BU (id:=22) AN (by kernel_rfl) ?_;refine gP xM <| gP xM ?_;(first|iterate 2 refine Kd ?_|(refine Ky (xFa Hr BP) ?_;refine Ky (xLa BP) ?_));refine Kd ?_;(first|iterate 2 refine Kd ?_|(refine Ky (xFa Ht BP) ?_;refine Ky (xLa BP) ?_));refine Kd ?_;refine Kd ?_;(first|refine Kd ?_|refine Ky xGt ?_);refine gP xPk ?_;refine Ke ?_;exact Z9.o)|fail):p:=h ⟨k⟩
theorem ArE (h:p:=by first|exact xCl func203 (V1)|exact xCl func203 (V2)):p:=h
theorem ArF (k:p') (h:Hd9 p'→p:=by with_reducible first|(intro Z9;refine BU (id:=22) AN (by kernel_rfl) ?_;refine gP xM <| gP xM ?_;(first|iterate 8 refine Kd ?_|(refine Ky (xFa Hr BP) ?_;refine Ky (xLa BP) ?_;refine Ky ArE ?_;refine Ky (xFa Ht BP) ?_;refine Ky (xLa BP) ?_;refine Ky ArE ?_;refine Ky (xCl func15 (CM)) ?_;refine Ky xGt ?_));refine gP xPk ?_;refine Ke ?_;exact Z9.o)|fail):p:=h ⟨k⟩
theorem Aes (h:p:=by
 rw [h4] at SV
 by_cases h5:DT y.un y.ue false=0
 case neg =>
  rw [be5 h1 h2 hM hf hv h4 hc h5]
  repeat' (with_reducible first|refine qq ?_|refine QR ?_|refine AaY ?_|refine Aer ?_|refine ArD ?_)
  exact AH rfl (.cons_ (Aca rfl rfl) .nil_)
 rw [h5] at SU
 rw [be7 h1 h2 hM hf hv h4 hc h5 (fun h=>by cases h.1)]
 repeat' (with_reducible first|refine qq ?_|refine QR ?_|refine AaY ?_|refine Aer ?_|(refine Tx 20 ?_;refine gO xM <| gO (xNE Ai) ?_)|refine Avg ?_|(refine Tx 24 ?_;refine gO xA ?_))
 exact AH rfl (.cons_ (Gk rfl (rfl)) .nil_)):p:=h
theorem AaZ (h:p:=by
 rw [be4 h1 h2 hM hf hv h4]
 repeat' (with_reducible first|refine qq ?_|refine QR ?_|refine AaY ?_|refine Avf ?_)
 exact AH rfl (.cons_ (Aca rfl rfl) .nil_)):p:=h
theorem ArG (h:p:=by
 obtain ⟨z0,z1⟩:=hb
 repeat' (with_reducible first|refine qq ?_|refine QR ?_|refine Aeq ?_|(refine Tx 14 ?_;refine gO xAd <| gO xM ?_))
 refine ⟨_,_,RJ _ 2 ?_ ?_ ?_,_,by omega,k+1,by omega,rfl,AhN hz ⟨z0,z1⟩ hf,rfl,rfl⟩
 ·rfl
 ·exact mB rfl rfl
 ·exact ⟨Db rfl,Db rfl,trivial⟩):p:=h
theorem Aba (t:Bool) {ps:List Prt} {bs:List Bk} {os:List Int} (hl:Fa ps bs os) (y:Bk) (hyl:y.args.length≤1000000):CV prog An 95 [aDg t ps bs os,.agg (dBk t y)] [aE (Cp ps.length bs.length y)]:=by
 refine cvz func95 ntmps95 ?_
 have AR:=Aeo y.kind
 have SV:=SI y.vn y.ve (Sv y.kind)
 have SU:=SI y.un y.ue (Pt y.kind)
 have hl1:=hl.l1
 have hl2:=hl.l2
 by_cases h1:Bc y.kind<0
 case pos =>
  rw [be1 h1]
  repeat' (with_reducible first|refine qq ?_|refine Aih ?_|(refine Tx 3 ?_;refine gO (xMi underlying109) <| gO xA ?_))
  exact FF
 by_cases h2:((y.args.length:Nat):Int)=Bc y.kind
 case neg =>
  rw [be2 h1 h2]
  repeat' (with_reducible first|refine qq ?_|refine Aih ?_|(refine Tx 4 ?_;refine gO xF <| gO xD <| gO xN <| gO xM <| gO xNe ?_)|(refine Tx 5 ?_;refine gO (xMi underlying109) <| gO xA ?_))
  exact FF
 have hA2:y.args.length≤2:=by unfold Bc at h2;(repeat' split at h2) <;> omega
 by_cases k0:y.kind=0
 case pos =>
  have hM:Cy ps.length bs.length y.kind=ps.length:=if_pos k0
  repeat' (with_reducible first|refine qq ?_|refine Aih ?_|(refine Tx 4 ?_;refine gO xF <| gO xD <| gO xN <| gO xM <| gO xNe ?_)|refine Arz ?_|(refine Tx 8 ?_;refine gO xF <| gO xD <| gO xN <| gO xA ?_))
  refine Bj (BK 2) (Av (fun n Fr H=>∃ k:Nat,k≤y.args.length∧n=y.args.length - k∧Ak ((y.args.map (QL ps.length)).take k)=0∧Fr=ofL [(2,vr 0),(3,vr 1),(6,vi ps.length),(34,vd (AU t y.args)),(35,vi y.args.length),(36,vi ((k:Nat)))]∧H=[.box 26 [.d (Di t ps),.d (DK t bs),.d (AU t os)],.box 63 [.d (.val (.int .i64 y.kind)),.d (AU t y.args),.d (.val (.int .i64 y.vn)),.d (.val (.int .i64 y.ve)),.d (.val (.int .i64 y.un)),.d (.val (.int .i64 y.ue))]]) (n0:=y.args.length) ⟨0,ad _,rfl,rfl,rfl,rfl⟩ ?_)
  rintro n Fr H ⟨k,hk,rfl,hf,rfl,rfl⟩
  by_cases hlt:k<y.args.length
  case pos =>
   obtain ⟨z,hz⟩:∃ z,y.args[k]?=some z:=⟨_,gE hlt⟩
   by_cases hb:0≤z∧z<((ps.length:Nat):Int)
   case neg =>
    rw [be3 h1 h2 hM (AdF hz hb hf)]
    by_cases hz0:z<0
    case pos =>
     repeat' (with_reducible first|refine qq ?_|refine QR ?_|refine Aeq ?_|(refine Tx 13 ?_;refine gO (xMi underlying109) <| gO xA ?_))
     exact FF
    repeat' (with_reducible first|refine qq ?_|refine QR ?_|refine Aeq ?_|(refine Tx 13 ?_;refine gO (xMi underlying109) <| gO xA ?_))
    exact FF
   exact ArG
  obtain rfl:k=y.args.length:=by omega
  rw [ar (by rw [af];exact aa _)] at hf
  clear hlt hk
  generalize hv:Sv y.kind=vu at SV
  generalize hc:Pt y.kind=cu at SU
  have hv1:vu=false:=by rw [←hv,k0];rfl
  have hc1:cu=false:=by rw [←hc,k0];rfl
  subst hv1 hc1
  by_cases h4:DT y.vn y.ve false=0
  case neg =>
   exact AaZ
  exact Aes
 case neg =>
  have hM:Cy ps.length bs.length y.kind=bs.length:=if_neg k0
  repeat' (with_reducible first|refine qq ?_|refine Aih ?_|(refine Tx 4 ?_;refine gO xF <| gO xD <| gO xN <| gO xM <| gO xNe ?_)|refine Arz ?_)
  refine Bj (BK 2) (Av (fun n Fr H=>∃ k:Nat,k≤y.args.length∧n=y.args.length - k∧Ak ((y.args.map (QL bs.length)).take k)=0∧Fr=ofL [(2,vr 0),(3,vr 1),(6,vi bs.length),(34,vd (AU t y.args)),(35,vi y.args.length),(36,vi ((k:Nat)))]∧H=[.box 26 [.d (Di t ps),.d (DK t bs),.d (AU t os)],.box 63 [.d (.val (.int .i64 y.kind)),.d (AU t y.args),.d (.val (.int .i64 y.vn)),.d (.val (.int .i64 y.ve)),.d (.val (.int .i64 y.un)),.d (.val (.int .i64 y.ue))]]) (n0:=y.args.length) ⟨0,ad _,rfl,rfl,rfl,rfl⟩ ?_)
  rintro n Fr H ⟨k,hk,rfl,hf,rfl,rfl⟩
  by_cases hlt:k<y.args.length
  case pos =>
   obtain ⟨z,hz⟩:∃ z,y.args[k]?=some z:=⟨_,gE hlt⟩
   by_cases hb:0≤z∧z<((bs.length:Nat):Int)
   case neg =>
    rw [be3 h1 h2 hM (AdF hz hb hf)]
    by_cases hz0:z<0
    case pos =>
     repeat' (with_reducible first|refine qq ?_|refine QR ?_|refine Aeq ?_|(refine Tx 13 ?_;refine gO (xMi underlying109) <| gO xA ?_))
     exact FF
    repeat' (with_reducible first|refine qq ?_|refine QR ?_|refine Aeq ?_|(refine Tx 13 ?_;refine gO (xMi underlying109) <| gO xA ?_))
    exact FF
   exact ArG
  obtain rfl:k=y.args.length:=by omega
  rw [ar (by rw [af];exact aa _)] at hf
  clear hlt hk
  generalize hv:Sv y.kind=vu at SV
  generalize hc:Pt y.kind=cu at SU
  by_cases k11:y.kind=11
  case pos =>
   have hv1:vu=true:=by rw [←hv,k11];rfl
   have hc1:cu=true:=by rw [←hc,k11];rfl
   subst hv1 hc1
   by_cases h4:DT y.vn y.ve true=0
   case neg =>
    exact AaZ
   rw [h4] at SV
   by_cases h5:DT y.un y.ue true=0
   case neg =>
    rw [be5 h1 h2 hM hf hv h4 hc h5]
    repeat' (with_reducible first|refine qq ?_|refine QR ?_|refine AaY ?_|refine Aer ?_|refine ArD ?_)
    exact AH rfl (.cons_ (Aca rfl rfl) .nil_)
   rw [h5] at SU
   have o1:=XH h4
   have o2:=XH h5
   have V1:=SJ y.vn y.ve o1
   have V2:=SJ y.un y.ue o2
   have s1:=Akj o1
   have s2:=Akj o2
   have CM:=Cv (Ac y.vn 0 y.ve).1 (Ac y.vn 0 y.ve).2 (Ac y.un 0 y.ue).1 (Ac y.un 0 y.ue).2 s1.1 s2.1 s1.2 s2.2
   have hpc:=AmB o1 o2
   have hpc:BM (Ac y.vn 0 y.ve).1 (Ac y.vn 0 y.ve).2 (Ac y.un 0 y.ue).1 (Ac y.un 0 y.ue).2=VK y.vn y.ve y.un y.ue:=(Aem _ _ _ _).trans hpc
   rw [hpc] at CM
   generalize hq:VK y.vn y.ve y.un y.ue=q at CM
   by_cases h6:0<q
   case pos =>
    rw [be6 h1 h2 hM hf hv h4 hc h5 ⟨rfl,by rw [hq];exact h6⟩]
    repeat' (with_reducible first|refine qq ?_|refine QR ?_|refine AaY ?_|refine Aer ?_|(refine Tx 20 ?_;refine gO xM <| gO (xNE Ai) ?_)|refine ArF ?_|(refine Tx 23 ?_;refine gO (xMi underlying109) <| gO xA ?_))
    exact FF
   rw [be7 h1 h2 hM hf hv h4 hc h5 (fun h=>h6 (by rw [←hq];exact h.2))]
   repeat' (with_reducible first|refine qq ?_|refine QR ?_|refine AaY ?_|refine Aer ?_|(refine Tx 20 ?_;refine gO xM <| gO (xNE Ai) ?_)|refine ArF ?_|(refine Tx 24 ?_;refine gO xA ?_))
   exact AH rfl (.cons_ (Gk rfl (rfl)) .nil_)
  have hc1:cu=false:=by rw [←hc];exact LD k11
  subst hc1
  by_cases kv:y.kind=1∨y.kind=2∨y.kind=6
  case pos =>
   have hv1:vu=true:=by rw [←hv];rcases kv with h|h|h <;> (rw [h];rfl)
   subst hv1
   rcases kv with kv|kv|kv
   ·
    by_cases h4:DT y.vn y.ve true=0
    case neg =>
     exact AaZ
    exact Aes
   ·
    by_cases h4:DT y.vn y.ve true=0
    case neg =>
     exact AaZ
    exact Aes
   ·
    by_cases h4:DT y.vn y.ve true=0
    case neg =>
     exact AaZ
    exact Aes
  have hv1:vu=false:=by rw [←hv];unfold Sv;rw [LD k11,LD (by omega),LD (by omega),LD (by omega)];rfl
  subst hv1
  by_cases h4:DT y.vn y.ve false=0
  case neg =>
   exact AaZ
  exact Aes
theorem Anw (k:p') (h:Hd9 p'→p:=by with_reducible first|(intro Z9;refine qq ?_;exact Z9.o)|(intro Z9;refine Tx 0 ?_;refine gN xBo <| gO xA ?_;exact Z9.o)|(intro Z9;refine Tx 1 ?_;refine gO xF <| gO xD <| gO xM <| gO (xIr Al (Fb hy)) <| gO xF <| gO xD ?_;exact Z9.o)|(intro Z9;refine Tx 2 ?_;refine gO xEq <| gO xA ?_;exact Z9.o)|(intro Z9;refine Tx 3 ?_;refine gO xEq <| gO xA ?_;exact Z9.o)|(intro Z9;refine Tx 4 ?_;refine gO xA ?_;exact Z9.o)|(intro Z9;refine Tx 5 ?_;refine gO xF <| gO xD <| gO xM <| gO (xIr Al (Fb hy)) <| gO xF <| gO xD <| gO xA ?_;exact Z9.o)|fail):p:=h ⟨k⟩
theorem XS (t:Bool) {ps:List Prt} {bs:List Bk} {os:List Int} (hl:Fa ps bs os) {i:Nat} {y:Bk} (hy:bs[i]?=some y):CVB prog An 129 [aDg t ps bs os,aI (i:Int)] (AU t (VJ bs false i)):=by
 refine AqX RL func129 ntmps129 (bg rfl) rfl ?_
 have hl2:=hl.l2
 have hil:=(gS.1 hy).1
 rw [Zn hy]
 by_cases k2:y.kind=2
 case pos =>
  rw [if_pos ⟨k2,rfl⟩]
  repeat' (with_reducible first|refine Anw ?_)
  exact ⟨.inl rfl,_,_,results129,rfl,Zu⟩
 rw [if_neg (fun h=>k2 h.1)]
 by_cases k0:y.kind=0
 case pos =>
  rw [if_pos k0]
  repeat' (with_reducible first|refine Anw ?_)
  exact ⟨.inl rfl,_,_,results129,rfl,Zu⟩
 rw [if_neg k0]
 repeat' (with_reducible first|refine Anw ?_)
 exact ⟨.inl rfl,_,_,results129,rfl,fun _ _ _ h=>h⟩
theorem Anx (k:p') (h:Hd9 p'→p:=by with_reducible first|(intro Z9;refine Tx 16 ?_;refine gO xM <| gO xA ?_;exact Z9.o)|(intro Z9;refine Tx 17 ?_;refine gO xM <| gO xM <| gO (xIo (i:=k) Fp) <| gO (by first|exact AdN rfl rfl rfl hg DX|exact xLd DX) <| gO (by first|exact xNt|exact xNg) <| gO xM ?_;(first|iterate 2 refine Jd ?_|(refine Jy xM1 ?_;refine Jy xLt ?_));refine gO xPk <| gO xA ?_;exact Z9.o)|(intro Z9;refine Tx 18 ?_;refine gO xL <| gO xM <| gO (xCb func129 BF) <| gO xN <| gO xM ?_;exact Z9.o)|fail):p:=h ⟨k⟩
theorem ArH (k:p') (h:Hd9 p'→p:=by with_reducible first|(intro Z9;refine Tx 20 ?_;refine gO (xIr Af (AG hz)) <| gO xD <| gO xA ?_;exact Z9.o)|(intro Z9;refine Tx 21 ?_;refine gO xM <| gO xM ?_;(first|iterate 4 refine Jd ?_|(refine Jy xM1 ?_;refine Jy xM1 ?_;refine Jy (by exact FS (i:=z.toNat) rfl rfl rfl rfl (by omega) Fp (by omega) (by decide)) ?_;refine Jy (by first|exact AdN rfl rfl rfl hgz DX|exact xLd DX) ?_));refine gO xPk <| gO xA ?_;exact Z9.o)|(intro Z9;refine Tx 22 ?_;refine gO xAd <| gO xM ?_;exact Z9.o)|fail):p:=h ⟨k⟩
theorem ArI (k:p') (h:Hd9 p'→p:=by with_reducible first|(intro Z9;refine Tx 23 ?_;refine gO xM ?_;exact Z9.o)|(intro Z9;refine Tx 25 ?_;refine gO xAd <| gO xM ?_;exact Z9.o)|fail):p:=h ⟨k⟩
theorem Any (h:p:=by
 clear hd
 refine Bj (F':=ofL [(1,vr 0),(4,vo 1 ((BZ out).length)),(5,vo 2 bs.length),(6,vi lf),(9,vi pk),(10,vi ((k:Nat))),(11,vd (.val (.bool b0))),(40,vd (DK t bs)),(41,vi bs.length),(42,vi ((k:Nat))),(56,vd (AU t xs)),(57,vi xs.length),(58,vi ((0:Nat)))]) (H':=[.box 26 [.d (Di t ps),.d (DK t bs),.d (AU t os)],.row 3 1 (BZ out).length (cI (BZ out)),.row 4 1 bs.length (cBl (Gy bs out))]) (BK 3 (h:=by rw [←hb0];exact mB rfl rfl)) ?_
 clear hb0
 refine Av (fun n Fr H=>∃ (u:Nat) (b:Bool),u≤xs.length∧n=xs.length - u∧b=(b0 && Apy bs out xs u)∧Fr=ofL [(1,vr 0),(4,vo 1 ((BZ out).length)),(5,vo 2 bs.length),(6,vi lf),(9,vi pk),(10,vi ((k:Nat))),(11,vd (.val (.bool b))),(40,vd (DK t bs)),(41,vi bs.length),(42,vi ((k:Nat))),(56,vd (AU t xs)),(57,vi xs.length),(58,vi ((u:Nat)))]∧H=[.box 26 [.d (Di t ps),.d (DK t bs),.d (AU t os)],.row 3 1 (BZ out).length (cI (BZ out)),.row 4 1 bs.length (cBl (Gy bs out))]) (n0:=xs.length) ⟨0,b0,ad _,rfl,(Bool.and_true _).symm,rfl,rfl⟩ ?_
 rintro n Fr H ⟨u,b,hu,rfl,hb,rfl,rfl⟩
 by_cases hlu:u<xs.length
 case pos =>
  obtain ⟨z,hz⟩:∃ z,xs[u]?=some z:=⟨_,gE hlu⟩
  obtain ⟨z0,z1⟩:=hbd z (gM hz)
  have hgz:(Gy bs out)[z.toNat]?=some (Gh bs out z.toNat):=(by unfold Gy;rw [ag,gy (by omega)];rfl)
  have hst:=Adx (bs:=bs) (out:=out) hz
  cases b
  case false =>
   repeat' (with_reducible first|refine qq ?_|(refine Tx 19 ?_;refine gO xLt ?_)|refine ArH ?_)
   refine ⟨_,_,BK 3,_,by omega,u+1,_,by omega,rfl,by rw [hst,←Bool.and_assoc,←hb];try rfl,rfl,rfl⟩
  repeat' (with_reducible first|refine qq ?_|(refine Tx 19 ?_;refine gO xLt ?_)|refine ArH ?_)
  refine ⟨_,_,BK 3,_,by omega,u+1,_,by omega,rfl,by rw [hst,←Bool.and_assoc,←hb];try rfl,rfl,rfl⟩
 obtain rfl:u=xs.length:=by omega
 rw [AhL (aa _)] at hb
 have hf2:=hfin b hb
 cases b
 case false =>
  repeat' (with_reducible first|refine qq ?_|(refine Tx 19 ?_;refine gO xLt ?_)|refine ArI ?_)
  refine ⟨_,_,BK 3,_,by omega,k+1,pk,by omega,rfl,hf2.symm,rfl,rfl⟩
 repeat' (with_reducible first|refine qq ?_|(refine Tx 19 ?_;refine gO xLt ?_)|refine ArI ?_|(refine Tx 24 ?_;refine gO xM <| gO xA ?_))
 refine ⟨_,_,RJ _ 3 ?_ ?_ ?_,_,by omega,k+1,(k:Int),by omega,rfl,hf2.symm,rfl,rfl⟩
 ·rfl
 ·exact mB rfl rfl
 ·exact ⟨Db rfl,Zj,AdL,trivial⟩):p:=h
theorem ArJ (h:p:=by first|exact AmJ rfl rfl rfl rfl DX tl stV|exact xS1 DX|exact xSk DX):p:=h
theorem SL (t:Bool) {ps:List Prt} {bs:List Bk} {os:List Int} (hl:Fa ps bs os) (hS:Adv bs):CV prog An 96 [aDg t ps bs os] [.one (AU false (Apz bs)),aE (FV bs)]:=by
 refine cvz func96 ntmps96 ?_
 have hl2:=hl.l2
 repeat' (with_reducible first|refine qq ?_|(refine Tx 0 ?_;refine gN xBo <| gO xA <| gO xA ?_)|(refine Tx 1 ?_;refine gO xA ?_))
 refine Bj (MS 4 3 1 rfl) ?_
 repeat' (with_reducible first|refine qq ?_|(refine Tx 2 ?_;refine gO xF <| gO xD <| gO xN <| gN (by first|exact AdM (n:=bs.length) rfl rfl rfl Fp Adh (by omega) (by decide)|exact Br rfl rfl rfl Fp Adh (by omega) (by decide)) <| gO xA ?_)|(refine Tx 3 ?_;refine gO xA ?_)|(refine Tx 4 ?_;refine gO xF <| gO xD <| gO xN <| gO xM ?_))
 rw [←AaR]
 refine Bj (BK 3) (Av (fun n Fr H=>∃ (k:Nat) (lf:Int),k≤bs.length∧n=bs.length - k∧lf=((fl (QK bs) k).length:Nat)∧Fr=ofL [(1,vr 0),(4,vo 1 ((BZ []).length)),(5,vo 2 bs.length),(6,vi lf),(19,vd (DK t bs)),(20,vi bs.length),(21,vi ((k:Nat)))]∧H=[.box 26 [.d (Di t ps),.d (DK t bs),.d (AU t os)],.row 3 1 (BZ []).length (cI (BZ [])),.row 4 1 bs.length (cBl (Hh bs k))]) (n0:=bs.length) ⟨0,0,ad _,rfl,rfl,rfl,rfl⟩ ?_)
 rintro n Fr H ⟨k,lf,hk,rfl,hlf,rfl,rfl⟩
 by_cases hlt:k<bs.length
 case pos =>
  obtain ⟨y,hy⟩:∃ y,bs[k]?=some y:=⟨_,gE hlt⟩
  have tl:k<(Hh bs k).length:=by rw [VM];exact hlt
  have hfl:=AqP (QK bs) k
  by_cases k2:y.kind=2
  case pos =>
   have hd:EZ bs k=true:=by unfold EZ;rw [Hv hy,k2];rfl
   have hn:QK bs k=false:=by unfold QK;rw [Hv hy,k2];rfl
   have stV:=AdA hd
   repeat' (with_reducible first|refine qq ?_|(refine Tx 5 ?_;refine gO xLt ?_)|(refine Tx 6 ?_;refine gO xM <| gO (by first|exact xIr Al (Fb hy)|exact xIo (i:=k) Al) <| gO xL <| gN (xAl Cm) <| gO xA <| gZ (xSk BW) ?_)|(refine Tx 7 ?_;refine gO xF <| gO xD <| gO xEq ?_)|(refine Tx 8 ?_;refine gO xM <| gO xM <| gO (xIo (i:=k) Fp) <| gZ ArJ ?_)|(refine Tx 10 ?_;refine gO xAd <| gO xM ?_))
   refine ⟨_,_,BK 3,_,by omega,k+1,lf,by omega,rfl,by rw [AqO hn];exact hlf,rfl,rfl⟩
  have hd:EZ bs k=false:=by unfold EZ;rw [Hv hy];exact LD k2
  have hn:QK bs k=true:=by unfold QK;rw [Hv hy,bne,LD k2];rfl
  have hdn:=AhM hd
  repeat' (with_reducible first|refine qq ?_|(refine Tx 5 ?_;refine gO xLt ?_)|(refine Tx 6 ?_;refine gO xM <| gO (xIr Al (Fb hy)) <| gO xL <| gN (xAl Cm) <| gO xA <| gZ (xSk BW) ?_)|(refine Tx 7 ?_;refine gO xF <| gO xD <| gO xEq ?_)|(refine Tx 9 ?_;refine gO xM <| gO xAd <| gO xA ?_)|(refine Tx 10 ?_;refine gO xAd <| gO xM ?_))
  rw [←hdn]
  refine ⟨_,_,BK 3,_,by omega,k+1,lf+1,by omega,rfl,by rw [AjY hn,ak,hlf];try rfl,rfl,rfl⟩
 obtain rfl:k=bs.length:=by omega
 rw [AaT] at hlf
 rw [Adz]
 clear hlt hk
 repeat' (with_reducible first|refine qq ?_|(refine Tx 5 ?_;refine gO xLt ?_))
 have hnd:=QJ bs
 refine Bj (BK 3) (Av (fun n Fr H=>∃ (out:List Nat) (lf:Int),Oo bs out∧n=EB bs - out.length∧lf=(EB bs:Int) - (out.length:Int)∧Fr=ofL [(1,vr 0),(4,vo 1 ((BZ out).length)),(5,vo 2 bs.length),(6,vi lf)]∧H=[.box 26 [.d (Di t ps),.d (DK t bs),.d (AU t os)],.row 3 1 (BZ out).length (cI (BZ out)),.row 4 1 bs.length (cBl (Gy bs out))]) (n0:=EB bs) ⟨[],lf,Oo.nil bs,rfl,by rw [hlf];simp,rfl,rfl⟩ ?_)
 clear hlf lf
 rintro n Fr H ⟨out,lf,hO,rfl,hlf,rfl,rfl⟩
 have hle:=hO.ok.le
 have hnl:=Dr out
 by_cases hpos:0<lf
 case neg =>
  have hfull:=hO.full (by omega)
  have he:FV bs=0:=by unfold FV;rw [hfull,if_pos (by omega)]
  have hL:Apz bs=BZ out:=by unfold Apz;rw [if_pos he,hfull]
  rw [he,hL]
  repeat' (with_reducible first|refine qq ?_|(refine Tx 11 ?_;refine gO xM <| gO xGt ?_)|(refine Tx 30 ?_;refine gO xM <| gO xA <| gO xA ?_))
  exact AH rfl (.cons_ (Aka rfl rfl rfl) (.cons_ (Gk rfl rfl) .nil_))
 repeat' (with_reducible first|refine qq ?_|(refine Tx 11 ?_;refine gO xM <| gO xGt ?_)|(refine Tx 13 ?_;refine gO xA ?_)|(refine Tx 14 ?_;refine gO xF <| gO xD <| gO xN <| gO xM ?_))
 refine Bj (BK 3) (Av (fun n Fr H=>∃ (k:Nat) (pk:Int),k≤bs.length∧n=bs.length - k∧pk=MV bs out k∧Fr=ofL [(1,vr 0),(4,vo 1 ((BZ out).length)),(5,vo 2 bs.length),(6,vi lf),(9,vi pk),(40,vd (DK t bs)),(41,vi bs.length),(42,vi ((k:Nat)))]∧H=[.box 26 [.d (Di t ps),.d (DK t bs),.d (AU t os)],.row 3 1 (BZ out).length (cI (BZ out)),.row 4 1 bs.length (cBl (Gy bs out))]) (n0:=bs.length) ⟨0,-1,ad _,rfl,(AaU bs out).symm,rfl,rfl⟩ ?_)
 rintro n Fr H ⟨k,pk,hk,rfl,hpk,rfl,rfl⟩
 by_cases hlt:k<bs.length
 case pos =>
  obtain ⟨y,hy⟩:∃ y,bs[k]?=some y:=⟨_,gE hlt⟩
  have BF:=XS t hl hy
  have hg:(Gy bs out)[k]?=some (Gh bs out k):=(by unfold Gy;rw [ag,gy (by omega)];rfl)
  obtain ⟨xs,hxs⟩:∃ xs,VJ bs false k=xs:=⟨_,rfl⟩
  rw [hxs] at BF
  have hxl:xs.length≤1000000:=by rw [←hxs,Zn hy];have:=hl.la y (gM hy);split <;> (try split) <;> first|exact this|exact ad _
  have hbd:∀ z∈xs,0≤z∧z<(bs.length:Int):=fun z hz=>hS k hlt z (XG (over:=false) (by rw [hxs];exact hz))
  obtain ⟨b0,hb0⟩:∃ b0:Bool,(!Gh bs out k && decide (pk<0))=b0:=⟨_,rfl⟩
  have hfin:∀ b:Bool,b=(b0 && xs.all fun z=>Gh bs out z.toNat)→MV bs out (k+1)=if b=true then (k:Int) else pk:=fun b hb=>by
   cases hd:Gh bs out k with
   | true =>
    have hr:rdy bs out k=false:=by rw [Adw,hd];rfl
    rw [hd] at hb0
    rw [hb,←hb0,TT (.inr hr),if_neg (by simp),hpk]
   | false =>
    have hr:=AdE (out:=out) hd
    rw [hxs] at hr
    by_cases hp:pk<0
    ·rw [hd,decide_eq_true hp] at hb0
     rw [←hb0,←hr] at hb
     cases hq:rdy bs out k with
     | true=>rw [hq] at hb;rw [AdB (by rw [←hpk];exact hp) hq,hb];rfl
     | false=>rw [hq] at hb;rw [TT (.inr hq),hb,←hpk];rfl
    ·rw [hd,decide_eq_false hp] at hb0
     rw [hb,←hb0,TT (.inl (by omega)),if_neg (by simp),hpk]
  skip
  cases hd:Gh bs out k
  case true =>
   rw [hd] at hg hb0
   rw [fj,gz] at hb0
   repeat' (with_reducible first|refine qq ?_|(refine Tx 15 ?_;refine gO xLt ?_)|refine Anx ?_)
   exact Any
  rw [hd] at hg hb0
  by_cases hp:pk<0
  case pos =>
   rw [decide_eq_true hp] at hb0
   rw [fm,Bool.and_true] at hb0
   repeat' (with_reducible first|refine qq ?_|(refine Tx 15 ?_;refine gO xLt ?_)|refine Anx ?_)
   exact Any
  rw [decide_eq_false hp] at hb0
  rw [Bool.and_false] at hb0
  repeat' (with_reducible first|refine qq ?_|(refine Tx 15 ?_;refine gO xLt ?_)|refine Anx ?_)
  exact Any
 obtain rfl:k=bs.length:=by omega
 clear hlt hk
 cases hnx:nxt bs out
 case none =>
  rw [AdC hnx] at hpk
  subst hpk
  have hod:=hO.done hnx
  have he:FV bs=24:=by unfold FV;rw [hod,if_neg (by omega)]
  have hL:Apz bs=[]:=by unfold Apz;rw [if_neg (by rw [he];decide)]
  rw [he,hL]
  repeat' (with_reducible first|refine qq ?_|(refine Tx 15 ?_;refine gO xLt ?_)|(refine Tx 26 ?_;refine gO xM <| gO xLt ?_)|(refine Tx 27 ?_;refine gO (xMi underlying109) <| gO xA <| gO xA ?_))
  exact AH rfl (.cons_ (.tmp (.one (EQ rfl rfl))) (.cons_ (AdK rfl (by decide) rfl) .nil_))
 case some p =>
  rw [AdD hnx] at hpk
  subst hpk
  have hO2:=hO.push hnx
  have hpl:=(TQ hnx).1
  have hlt2:=hO.lt hnx
  have tl:p<(Gy bs out).length:=by rw [Ady];exact hpl
  have stV:(Gy bs out).set p true=Gy bs (out++[p]):=(AaS bs out p).symm
  have hap:BZ out++[(p:Int)]=BZ (out++[p]):=(PF out p).symm
  have hap2:(BZ out).length+1=(BZ (out++[p])).length:=by rw [Dr,Dr,ak];rfl
  repeat' (with_reducible first|refine qq ?_|(refine Tx 15 ?_;refine gO xLt ?_)|(refine Tx 26 ?_;refine gO xM <| gO xLt ?_)|(refine Tx 28 ?_;refine gO xM <| gO xM <| gO (xIo (i:=p) Fp) <| gZ ArJ ?_)|(refine Tx 29 ?_;refine gO xM <| gO xM <| gN (by exact Bp rfl Af BV rfl rfl (by decide) (by decide)) <| gT (by exact OZ rfl rfl rfl rfl rfl rfl Af BV (by omega) (by decide) hap hap2) <| gO xA ?_)|(refine Tx 12 ?_;refine gO xM <| gO xSb <| gO xA ?_))
  refine ⟨_,_,BK 3,_,(by rw [ak];show EB bs - (out.length+1)<_;omega),out++[p],lf - 1,hO2,rfl,by rw [ak,hlf];show _=(EB bs:Int) - ((out.length+1:Nat):Int);omega,rfl,rfl⟩
theorem Aii (k:p') (h:Hd9 p'→p:=by with_reducible first|(intro Z9;refine Tx 0 ?_;refine gN xBo <| gO xA ?_;exact Z9.o)|(intro Z9;refine Tx 1 ?_;refine gO xF <| gO xD <| gO xN <| gO xGt <| gO xM ?_;(first|iterate 4 refine Jd ?_|(refine Jy (xFa BO AX) ?_;refine Jy (xLd AX) ?_;refine Jy (xLn Al) ?_;refine Jy xGt ?_));refine gO xPk <| gO xM ?_;(first|iterate 4 refine Jd ?_|(refine Jy (xFa Mj Bm) ?_;refine Jy (xLd Bm) ?_;refine Jy (xLn Af) ?_;refine Jy xGt ?_));refine gO xPk ?_;exact Z9.o)|fail):p:=h ⟨k⟩
theorem Abb (k:p') (h:Hd9 p'→p:=by with_reducible first|(intro Z9;refine Tx 5 ?_;refine gO (xIr BI (FX hp)) <| gO xL <| gN (xAl Ok) <| gZ (xSk Mk) ?_;exact Z9.o)|(intro Z9;refine Tx 6 ?_;refine gO xF <| gO xD <| gO xLt <| gO xM ?_;(first|iterate 5 refine Jd ?_|(refine Jy (xFa IM Ar) ?_;refine Jy (xLd Ar) ?_;refine Jy (xFa Zd Ar) ?_;refine Jy (xLd Ar) ?_;refine Jy xLt ?_));refine gO xPk <| gO xM ?_;(first|iterate 3 refine Jd ?_|(refine Jy (xFa IM Ar) ?_;refine Jy (xLd Ar) ?_;refine Jy xGe ?_));refine gO xPk <| gO xM ?_;(first|iterate 3 refine Jd ?_|(refine Jy (xFa TM Ar) ?_;refine Jy (xLd Ar) ?_;refine Jy xLt ?_));refine gO xPk <| gO xM ?_;(first|iterate 3 refine Jd ?_|(refine Jy (xFa TM Ar) ?_;refine Jy (xLd Ar) ?_;refine Jy xGt ?_));refine gO xPk ?_;exact Z9.o)|fail):p:=h ⟨k⟩
theorem Anz (k:p') (h:Hd9 p'→p:=by with_reducible first|(intro Z9;refine Tx 18 ?_;refine gO (xIr Af (AG hz)) <| gO xD <| gO xA ?_;exact Z9.o)|(intro Z9;refine Tx 19 ?_;refine gO xM <| gO xLt <| gO xM ?_;(first|iterate 5 refine Jd ?_|(refine Jy xM1 ?_;refine Jy (xFa BO AX) ?_;refine Jy (xLd AX) ?_;refine Jy (xLn Al) ?_;refine Jy xGe ?_));refine gO xPk ?_;exact Z9.o)|fail):p:=h ⟨k⟩
theorem ArK (h:p:=by first|exact Bw rfl Ai rfl (GP h0)|exact Bw rfl Ai rfl (Ps (by first|rfl|omega))|exact Bw rfl Ai rfl (GP (by first|assumption|omega))|exact Bw rfl Ai rfl rfl):p:=h
theorem Hy (t:Bool) {ps:List Prt} {bs:List Bk} {os:List Int} (hl:Fa ps bs os):CV prog An 35 [aDg t ps bs os] [aE (AO ps bs os)]:=by
 refine cvz func35 ntmps35 ?_
 have hl1:=hl.l1
 have hl2:=hl.l2
 have hl3:=hl.l3
 by_cases hs:FW ps bs os
 case neg =>
  rw [de0 hs]
  unfold FW at hs
  by_cases c1:ps.length≤16
  case neg =>
   repeat' (with_reducible first|refine qq ?_|refine Aii ?_|(refine Tx 2 ?_;refine gO (xMi underlying109) <| gO xA ?_))
   exact FF
  by_cases c2:bs.length≤64
  case neg =>
   repeat' (with_reducible first|refine qq ?_|refine Aii ?_|(refine Tx 2 ?_;refine gO (xMi underlying109) <| gO xA ?_))
   exact FF
  have c3:¬ os.length≤16:=fun h=>hs ⟨c1,c2,h⟩
  repeat' (with_reducible first|refine qq ?_|refine Aii ?_|(refine Tx 2 ?_;refine gO (xMi underlying109) <| gO xA ?_))
  exact FF
 have hs2:=hs
 unfold FW at hs2
 obtain ⟨c1,c2,c3⟩:=hs2
 repeat' (with_reducible first|refine qq ?_|refine Aii ?_|(refine Tx 3 ?_;refine gO xF <| gO xD <| gO xN <| gO xM ?_))
 refine Bj (BK 1) (Av (fun n Fr H=>∃ k:Nat,k≤ps.length∧n=ps.length - k∧Ak ((ps.map Gj).take k)=0∧Fr=ofL [(1,vr 0),(30,vd (Di t ps)),(31,vi ps.length),(32,vi ((k:Nat)))]∧H=[.box 26 [.d (Di t ps),.d (DK t bs),.d (AU t os)]]) (n0:=ps.length) ⟨0,ad _,rfl,rfl,rfl,rfl⟩ ?_)
 rintro n Fr H ⟨k,hk,rfl,hf,rfl,rfl⟩
 by_cases hlt:k<ps.length
 case pos =>
  obtain ⟨p,hp⟩:∃ p,ps[k]?=some p:=⟨_,gE hlt⟩
  by_cases he:Gj p=0
  case neg =>
   have h3:Gj p=3:=by unfold Gj at he ⊢;split at he;exact absurd rfl he;rename_i hn;rw [if_neg hn]
   rw [de1 hs (pe1 hp h3 (by decide) hf) (by decide)]
   unfold Gj at he
   by_cases q1 : -2147483648≤p.lo
   case neg =>
    repeat' (with_reducible first|refine qq ?_|(refine Tx 4 ?_;refine gO xLt ?_)|refine Abb ?_|(refine Tx 7 ?_;refine gO (xMi underlying109) <| gO xA ?_))
    exact FF
   by_cases q2:p.lo≤p.hi
   case neg =>
    repeat' (with_reducible first|refine qq ?_|(refine Tx 4 ?_;refine gO xLt ?_)|refine Abb ?_|(refine Tx 7 ?_;refine gO (xMi underlying109) <| gO xA ?_))
    exact FF
   by_cases q3:p.hi<2147483648
   case neg =>
    repeat' (with_reducible first|refine qq ?_|(refine Tx 4 ?_;refine gO xLt ?_)|refine Abb ?_|(refine Tx 7 ?_;refine gO (xMi underlying109) <| gO xA ?_))
    exact FF
   by_cases q4:0≤p.fr
   case neg =>
    repeat' (with_reducible first|refine qq ?_|(refine Tx 4 ?_;refine gO xLt ?_)|refine Abb ?_|(refine Tx 7 ?_;refine gO (xMi underlying109) <| gO xA ?_))
    exact FF
   have q5:¬ p.fr≤30:=fun h=>he (if_pos ⟨q1,q2,q3,q4,h⟩)
   repeat' (with_reducible first|refine qq ?_|(refine Tx 4 ?_;refine gO xLt ?_)|refine Abb ?_|(refine Tx 7 ?_;refine gO (xMi underlying109) <| gO xA ?_))
   exact FF
  have hq:=he
  unfold Gj at hq
  by_cases hn : -2147483648≤p.lo∧p.lo≤p.hi∧p.hi<2147483648∧0≤p.fr∧p.fr≤30
  case neg =>
   rw [if_neg hn] at hq
   cases hq
  obtain ⟨q1,q2,q3,q4,q5⟩:=hn
  repeat' (with_reducible first|refine qq ?_|(refine Tx 4 ?_;refine gO xLt ?_)|refine Abb ?_|(refine Tx 8 ?_;refine gO xAd <| gO xM ?_))
  refine ⟨_,_,BK 1,_,by omega,k+1,by omega,rfl,fs1 hp he hf,rfl,rfl⟩
 obtain rfl:k=ps.length:=by omega
 have hP:=hf
 rw [ar (by rw [af];exact aa _)] at hP
 clear hlt hk hf
 repeat' (with_reducible first|refine qq ?_|(refine Tx 4 ?_;refine gO xLt ?_)|(refine Tx 9 ?_;refine gO xF <| gO xD <| gO xN <| gO xM ?_))
 refine Bj (BK 1) (Av (fun n Fr H=>∃ k:Nat,k≤bs.length∧n=bs.length - k∧Ak ((bs.map (Cp ps.length bs.length)).take k)=0∧Fr=ofL [(1,vr 0),(64,vd (DK t bs)),(65,vi bs.length),(66,vi ((k:Nat)))]∧H=[.box 26 [.d (Di t ps),.d (DK t bs),.d (AU t os)]]) (n0:=bs.length) ⟨0,ad _,rfl,rfl,rfl,rfl⟩ ?_)
 rintro n Fr H ⟨k,hk,rfl,hf,rfl,rfl⟩
 by_cases hlt:k<bs.length
 case pos =>
  obtain ⟨y,hy⟩:∃ y,bs[k]?=some y:=⟨_,gE hlt⟩
  have BC:=Aba t hl y (hl.la y (gM hy))
  generalize he:Cp ps.length bs.length y=e at BC
  by_cases h0:e=0
  case neg =>
   rw [de1 hs (pe2 hP hy he h0 hf) h0]
   repeat' (with_reducible first|refine qq ?_|(refine Tx 10 ?_;refine gO xLt ?_)|(refine Tx 11 ?_;refine gO (xIr Al (Fb hy)) <| gO xL <| gN (xAl Cm) <| gZ (xSk BW) ?_)|(refine Tx 12 ?_;refine gO xL <| gO xL <| gO (xCl func95 (BC)) <| gO xA ?_)|(refine Tx 13 ?_;refine gO xM <| gO ArK ?_)|(refine Tx 14 ?_;refine gO xM <| gO xA ?_))
   exact AH rfl (.cons_ (Aca rfl rfl) .nil_)
  subst h0
  repeat' (with_reducible first|refine qq ?_|(refine Tx 10 ?_;refine gO xLt ?_)|(refine Tx 11 ?_;refine gO (xIr Al (Fb hy)) <| gO xL <| gN (xAl Cm) <| gZ (xSk BW) ?_)|(refine Tx 12 ?_;refine gO xL <| gO xL <| gO (xCl func95 (BC)) <| gO xA ?_)|(refine Tx 13 ?_;refine gO xM <| gO (xNE Ai) ?_)|(refine Tx 15 ?_;refine gO xAd <| gO xM ?_))
  refine ⟨_,_,BK 1,_,by omega,k+1,by omega,rfl,fs1 hy he hf,rfl,rfl⟩
 obtain rfl:k=bs.length:=by omega
 have hB:=hf
 rw [ar (by rw [af];exact aa _)] at hB
 clear hlt hk hf
 repeat' (with_reducible first|refine qq ?_|(refine Tx 10 ?_;refine gO xLt ?_)|(refine Tx 16 ?_;refine gO xF <| gO xD <| gO xN <| gO xM ?_))
 refine Bj (BK 1) (Av (fun n Fr H=>∃ k:Nat,k≤os.length∧n=os.length - k∧Ak ((os.map (QL bs.length)).take k)=0∧Fr=ofL [(1,vr 0),(78,vd (AU t os)),(79,vi os.length),(80,vi ((k:Nat)))]∧H=[.box 26 [.d (Di t ps),.d (DK t bs),.d (AU t os)]]) (n0:=os.length) ⟨0,ad _,rfl,rfl,rfl,rfl⟩ ?_)
 rintro n Fr H ⟨k,hk,rfl,hf,rfl,rfl⟩
 by_cases hlt:k<os.length
 case pos =>
  obtain ⟨z,hz⟩:∃ z,os[k]?=some z:=⟨_,gE hlt⟩
  by_cases hb:0≤z∧z<(bs.length:Int)
  case neg =>
   rw [de1 hs (pe3 hP hB hz (if_neg hb) (by decide) hf) (by decide)]
   by_cases hz0:z<0
   case pos =>
    repeat' (with_reducible first|refine qq ?_|(refine Tx 17 ?_;refine gO xLt ?_)|refine Anz ?_|(refine Tx 20 ?_;refine gO (xMi underlying109) <| gO xA ?_))
    exact FF
   repeat' (with_reducible first|refine qq ?_|(refine Tx 17 ?_;refine gO xLt ?_)|refine Anz ?_|(refine Tx 20 ?_;refine gO (xMi underlying109) <| gO xA ?_))
   exact FF
  have hb2:=hb
  obtain ⟨z0,z1⟩:=hb2
  repeat' (with_reducible first|refine qq ?_|(refine Tx 17 ?_;refine gO xLt ?_)|refine Anz ?_|(refine Tx 21 ?_;refine gO xAd <| gO xM ?_))
  refine ⟨_,_,BK 1,_,by omega,k+1,by omega,rfl,fs1 hz (if_pos hb) hf,rfl,rfl⟩
 obtain rfl:k=os.length:=by omega
 have hO:=hf
 rw [ar (by rw [af];exact aa _)] at hO
 clear hlt hk hf
 have hpe:=pe4 hP hB hO
 rw [de2 hs hpe]
 have OR:=SL t hl (AdG hB)
 repeat' (with_reducible first|refine qq ?_|(refine Tx 17 ?_;refine gO xLt ?_)|(refine Tx 22 ?_;refine gO xL <| gO (xCl func96 (OR)) <| gO xMt <| gO xEx <| gO xEx <| gO xA <| gO xA ?_)|(refine Tx 23 ?_;refine gO xM <| gO xA ?_))
 exact AH rfl (.cons_ (Aca rfl rfl) .nil_)
theorem ArL (h:p:=by
 rw [if_neg h0]
 repeat' (with_reducible first|refine qq ?_|(refine Tx 0 ?_;refine gN xBo <| gO xA <| gO xA ?_)|(refine Tx 1 ?_;refine gO xL <| gO (xCl func35 (CK)) <| gO xA ?_)|(refine Tx 2 ?_;refine gO xM <| gO ArK ?_)|(refine Tx 3 ?_;refine gO xM <| gO xA <| gO xA ?_))
 exact AH rfl (.cons_ (.tmp (.one (EQ rfl rfl))) (.cons_ (Aca rfl rfl) .nil_))):p:=h
theorem PP (t:Bool) {ps:List Prt} {bs:List Bk} {os:List Int} (hl:Fa ps bs os):CV prog An 60 [aDg t ps bs os] [.one (AU false (if AO ps bs os=0 then BZ (Bn bs) else [])),aE (AO ps bs os)]:=by
 refine cvz func60 ntmps60 ?_
 have CK:=Hy t hl
 by_cases h0:AO ps bs os=0
 case neg =>
  exact ArL
 have OR:=SL t hl (AmF h0)
 have ho:FV bs=0:=(Lz h0).2.2
 unfold Apz at OR
 rw [ho,if_pos rfl] at OR
 rw [if_pos h0]
 rw [h0] at CK
 rw [h0]
 repeat' (with_reducible first|refine qq ?_|(refine Tx 0 ?_;refine gN xBo <| gO xA <| gO xA ?_)|(refine Tx 1 ?_;refine gO xL <| gO (xCl func35 (CK)) <| gO xA ?_)|(refine Tx 2 ?_;refine gO xM <| gO (xNE Ai) ?_)|(refine Tx 4 ?_;refine gO xL <| gO (xCl func96 (OR)) <| gO xEx <| gO xEx <| gO xA <| gO xA ?_))
 exact AH rfl (.cons_ (.tmp (.one (Bs rfl fun _=>Zs _))) (.cons_ (Gk rfl rfl) .nil_))
theorem ArM (h:p:=by
 refine ⟨_,_,RJ _ 2 ?_ ?_ ?_,_,by omega,k+1,by omega,rfl,rfl,rfl⟩
 ·rfl
 ·exact mB rfl rfl
 ·exact ⟨Db rfl,Zj,trivial⟩):p:=h
theorem Hz (t:Bool) {ps:List Prt} {bs:List Bk} {os:List Int} (hl:Fa ps bs os):CV prog An 19 [aDg t ps bs os] [.one (AU false (if AO ps bs os=0 then BZ (AI bs) else [])),aE (AO ps bs os)]:=by
 refine cvz func19 ntmps19 ?_
 have hl2:=hl.l2
 have hall:AI bs=fl (EZ bs) bs.length:=rfl
 have CK:=Hy t hl
 by_cases h0:AO ps bs os=0
 case neg =>
  exact ArL
 rw [if_pos h0]
 rw [h0] at CK
 rw [h0]
 repeat' (with_reducible first|refine qq ?_|(refine Tx 0 ?_;refine gN xBo <| gO xA <| gO xA ?_)|(refine Tx 1 ?_;refine gO xL <| gO (xCl func35 (CK)) <| gO xA ?_)|(refine Tx 2 ?_;refine gO xM <| gO (xNE Ai) ?_)|(refine Tx 4 ?_;refine gO xA ?_))
 refine Bj (MS 5 3 1 rfl) ?_
 repeat' (with_reducible first|refine qq ?_|(refine Tx 5 ?_;refine gO xF <| gO xD <| gO xN <| gO xM ?_))
 refine Bj (BK 2) (Av (fun n Fr H=>∃ k:Nat,k≤bs.length∧n=bs.length - k∧Fr=ofL [(1,vr 0),(5,vo 1 ((BZ (fl (EZ bs) k)).length)),(14,vd (DK t bs)),(15,vi bs.length),(16,vi ((k:Nat)))]∧H=[.box 26 [.d (Di t ps),.d (DK t bs),.d (AU t os)],.row 3 1 (BZ (fl (EZ bs) (k))).length (cI (BZ (fl (EZ bs) (k))))]) (n0:=bs.length) ⟨0,ad _,rfl,rfl,rfl⟩ ?_)
 rintro n Fr H ⟨k,hk,rfl,rfl,rfl⟩
 by_cases hlt:k<bs.length
 case pos =>
  obtain ⟨y,hy⟩:∃ y,bs[k]?=some y:=⟨_,gE hlt⟩
  have hfl:=AqP (EZ bs) k
  have hnl:=Dr (fl (EZ bs) k)
  by_cases k2:y.kind=2
  case pos =>
   have hd:EZ bs k=true:=by unfold EZ;rw [Hv hy,k2];rfl
   have hap:(BZ (fl (EZ bs) (k)))++[(k:Int)]=(BZ (fl (EZ bs) (k+1))):=by rw [AjY hd,PF]
   have hap2:(BZ (fl (EZ bs) (k))).length+1=(BZ (fl (EZ bs) (k+1))).length:=by rw [←hap,ak];rfl
   repeat' (with_reducible first|refine qq ?_|(refine Tx 6 ?_;refine gO xLt ?_)|(refine Tx 7 ?_;refine gO xM <| gO (xIr Al (Fb hy)) <| gO xL <| gN (xAl Cm) <| gO xA <| gZ (xSk BW) ?_)|(refine Tx 8 ?_;refine gO xF <| gO xD <| gO xEq ?_)|(refine Tx 9 ?_;refine gO xM <| gO xM <| gN (by exact Bp rfl Af BV rfl rfl (by decide) (by decide)) <| gT (by exact OZ rfl rfl rfl rfl rfl rfl Af BV (by omega) (by decide) hap hap2) <| gO xA ?_)|(refine Tx 10 ?_;refine gO xAd <| gO xM ?_))
   exact ArM
  have hd:EZ bs k=false:=by unfold EZ;rw [Hv hy];exact LD k2
  have hno:(BZ (fl (EZ bs) (k+1)))=(BZ (fl (EZ bs) (k))):=by rw [AqO hd]
  repeat' (with_reducible first|refine qq ?_|(refine Tx 6 ?_;refine gO xLt ?_)|(refine Tx 7 ?_;refine gO xM <| gO (xIr Al (Fb hy)) <| gO xL <| gN (xAl Cm) <| gO xA <| gZ (xSk BW) ?_)|(refine Tx 8 ?_;refine gO xF <| gO xD <| gO xEq ?_)|(refine Tx 10 ?_;refine gO xAd <| gO xM ?_))
  rw [←hno]
  exact ArM
 obtain rfl:k=bs.length:=by omega
 rw [hall]
 repeat' (with_reducible first|refine qq ?_|(refine Tx 6 ?_;refine gO xLt ?_)|(refine Tx 11 ?_;refine gO xM <| gO xA <| gO xA ?_))
 exact AH rfl (.cons_ (Aka rfl rfl rfl) (.cons_ (Gk rfl rfl) .nil_))
open Go.ChangeShapes Go.WideShapes Go.ChangeAt Go.Joins Go.Deep
structure Rw where
 nb:Bool
 A:Option Addr
 ws:List Nat
 cap:Nat
 den:Int
def Rw.val (r:Rw):Value:=.agg #[.bool r.nb,.slice r.A r.ws.length r.cap,.int .i64 r.den]
def rw0:Rw:=⟨false,none,[],0,0⟩
instance:Inhabited Rw:=⟨rw0⟩
structure Avh (w:World) (m:Nat) (r:Rw):Prop where
 nul:r.A=none→r.cap=0
 fit:r.ws.length≤r.cap
 at_:Am w m r.A (w32 r.ws)
 ok:Au r.ws
def vdP (r:Rw):Prop:=if r.ws.length=0 then r.nb=false∧r.den=0 else r.ws[r.ws.length - 1]?.getD 0≠0∧0≤r.den∧r.den≤65536∧(r.den=0∨r.ws[0]?.getD 0 % 2=1)
instance (r:Rw):Decidable (vdP r):=by unfold vdP;infer_instance
def vdB (r:Rw):Bool:=decide (vdP r)
def Rw.x (r:Rw):Int:=sg r.nb (AC r.ws)
def Rw.d (r:Rw):Nat:=r.den.toNat
theorem Aij {r:Rw} (h:r.ws.length=0):vdP r ↔ r.nb=false∧r.den=0:=by unfold vdP;rw [if_pos h]
theorem Aet {r:Rw} (h:¬ r.ws.length=0):vdP r ↔ r.ws[r.ws.length - 1]?.getD 0≠0∧0≤r.den∧r.den≤65536∧(r.den=0∨r.ws[0]?.getD 0 % 2=1):=by unfold vdP;rw [if_neg h]
theorem SM {r:Rw} (h:vdP r):vdB r=true:=decide_eq_true h
theorem Lm {r:Rw} (h:¬ vdP r):vdB r=false:=decide_eq_false h
theorem Aik {r:Rw} (hok:Au r.ws) (h:vdB r=true):Ae (AC r.ws)=r.ws:=by
 have h:=of_decide_eq_true h
 refine Sb hok fun hne=>?_
 have hl:¬ r.ws.length=0:=fun h0=>hne (cq h0)
 exact ((Aet hl).1 h).1
theorem AnA (r:Rw):r.x.natAbs=AC r.ws:=Lw _ _
structure Iv where
 lo:Rw
 hi:Rw
def iv0:Iv:=⟨rw0,rw0⟩
instance:Inhabited Iv:=⟨iv0⟩
def ivP (a:Iv):Prop:=vdB a.lo=true∧vdB a.hi=true∧AbY a.lo.x a.lo.d a.hi.x a.hi.d≤0
instance (a:Iv):Decidable (ivP a):=by unfold ivP;infer_instance
/- What came in. -/
set_option maxRecDepth 100000
theorem FG (h:p:=by
  go_wp2_with fail
  all_goals first
    | (exfalso;omega)
    | (go_ret
       exact ⟨by rw [HV.out];rfl,al_ _ _⟩)):p:=h
theorem Abc (r:Rw) (m:Nat) (w:World) (hm:m≤w.heap.size) (h:Avh w m r) (hl:r.ws.length≤1000000) :
  Calls prog 123 #[r.val] w fun e w'=>e=.returned (.bool (vdB r))∧Below w.heap.size w w':=by
 have hat:=h.at_
 have hok:=h.ok
 obtain ⟨nb,A,ws,cap,den⟩:=r
 dsimp only at hat hok hl
 simp only [Rw.val]
 have key:den<0∨den=0∨(0<den∧den≤65536)∨65536<den:=by omega
 by_cases h0:ws.length=0
 ·have hp:=Aij (r:=⟨nb,A,ws,cap,den⟩) h0
  dsimp only at hp
  have hz:(ws.length:Int)=0:=by omega
  have hzb:((ws.length:Int) == 0)=true:=by rw [hz];rfl
  rw [h0] at hzb ⊢
  clear hat hok hl h hz h0
  cases nb with
  | true =>
   rcases key with k1|k1|k1|k1
   all_goals
    have HV:=mz (show vdB ⟨true,A,ws,cap,den⟩=false from Lm (fun hv=>by have:=(hp.1 hv).1;cases this))
    clear hp
    go_enter func123,ntmps123
    exact FG
  | false =>
   rcases key with k1|k1|k1|k1
   ·have d0:(den == 0)=false:=by rw [beq_eq_false_iff_ne];omega
    have HV:=mz (show vdB ⟨false,A,ws,cap,den⟩=false from Lm (fun hv=>by have:=(hp.1 hv).2;omega))
    clear hp
    go_enter func123,ntmps123
    exact FG
   ·have d0:(den == 0)=true:=by simp;omega
    have HV:=mz (show vdB ⟨false,A,ws,cap,den⟩=true from SM (hp.2 ⟨rfl,k1⟩))
    clear hp
    go_enter func123,ntmps123
    exact FG
   ·have d0:(den == 0)=false:=by rw [beq_eq_false_iff_ne];omega
    have HV:=mz (show vdB ⟨false,A,ws,cap,den⟩=false from Lm (fun hv=>by have:=(hp.1 hv).2;omega))
    clear hp
    go_enter func123,ntmps123
    exact FG
   ·have d0:(den == 0)=false:=by rw [beq_eq_false_iff_ne];omega
    have HV:=mz (show vdB ⟨false,A,ws,cap,den⟩=false from Lm (fun hv=>by have:=(hp.1 hv).2;omega))
    clear hp
    go_enter func123,ntmps123
    exact FG
 ·have hp:=Aet (r:=⟨nb,A,ws,cap,den⟩) h0
  dsimp only at hp
  obtain ⟨b,off,z,hA,q1,q2,hz,g1⟩:=hat.w32_ (k:=ws.length - 1) (by omega)
  subst hA
  obtain ⟨b',off',y,hA',_,_,hy,g0⟩:=hat.w32_ (k:=0) (by omega)
  cases hA'
  rw [cw] at g0
  obtain ⟨L,hL⟩:∃ L,L=ws.length - 1:=⟨_,rfl⟩
  have hlen:ws.length=L+1:=by omega
  have hl':L≤1000000:=by omega
  have e0:((L:Int)+1 == 0)=false:=by simp;omega
  rw [←hL] at g1
  rw [hz,hy] at hp
  simp only [bd] at hp
  rw [hlen]
  clear hat hok hl h hz hy hL q1 q2 h0 hlen
  by_cases hz0:z=0
  ·subst hz0
   have hzb:(((0:Nat):Int) != 0)=false:=by rfl
   rcases key with k1|k1|k1|k1
   all_goals
    have HV:=mz (show vdB ⟨nb,some ⟨b,off,none⟩,ws,cap,den⟩=false from Lm (fun hv=>(hp.1 hv).1 rfl))
    clear hp
    go_enter func123,ntmps123
    exact FG
  ·have hzb:((z:Int) != 0)=true:=by simp;omega
   rcases key with k1|k1|k1|k1
   ·have HV:=mz (show vdB ⟨nb,some ⟨b,off,none⟩,ws,cap,den⟩=false from Lm (fun hv=>by have:=(hp.1 hv).2.1;omega))
    clear hp
    go_enter func123,ntmps123
    exact FG
   ·have d0:(den == 0)=true:=by simp;omega
    have HV:=mz (show vdB ⟨nb,some ⟨b,off,none⟩,ws,cap,den⟩=true from SM (hp.2 ⟨hz0,by omega,by omega,.inl k1⟩))
    clear hp
    go_enter func123,ntmps123
    exact FG
   ·have d0:(den == 0)=false:=by rw [beq_eq_false_iff_ne];omega
    have d1:decide (den≤65536)=true:=decide_eq_true k1.2
    have d2:decide (0≤den)=true:=decide_eq_true (by omega)
    by_cases ho:y % 2=1
    ·have hoi:(y:Int) % 2=1:=by omega
     have HV:=mz (show vdB ⟨nb,some ⟨b,off,none⟩,ws,cap,den⟩=true from SM (hp.2 ⟨hz0,by omega,k1.2,.inr ho⟩))
     clear hp
     go_enter func123,ntmps123
     exact FG
    ·have hoi:(y:Int) % 2=0:=by omega
     have HV:=mz (show vdB ⟨nb,some ⟨b,off,none⟩,ws,cap,den⟩=false from Lm (fun hv=>by have:=(hp.1 hv).2.2.2;omega))
     clear hp
     go_enter func123,ntmps123
     exact FG
   ·have HV:=mz (show vdB ⟨nb,some ⟨b,off,none⟩,ws,cap,den⟩=false from Lm (fun hv=>by have:=(hp.1 hv).2.2.1;omega))
    clear hp
    go_enter func123,ntmps123
    exact FG
theorem Abd (r:Rw) (m:Nat) (w:World) (hm:m≤w.heap.size) (h:Avh w m r) (hl:r.ws.length≤1000000) :
  Calls prog 81 #[r.val] w fun e w'=>e=.returned (.bool (vdB r))∧Below w.heap.size w w':=by
 have hat:=h.at_
 have hok:=h.ok
 obtain ⟨nb,A,ws,cap,den⟩:=r
 dsimp only at hat hok hl
 simp only [Rw.val]
 have key:den<0∨den=0∨(0<den∧den≤65536)∨65536<den:=by omega
 by_cases h0:ws.length=0
 ·have hp:=Aij (r:=⟨nb,A,ws,cap,den⟩) h0
  dsimp only at hp
  have hz:(ws.length:Int)=0:=by omega
  have hzb:((ws.length:Int) == 0)=true:=by rw [hz];rfl
  rw [h0] at hzb ⊢
  clear hat hok hl h hz h0
  cases nb with
  | true =>
   rcases key with k1|k1|k1|k1
   all_goals
    have HV:=mz (show vdB ⟨true,A,ws,cap,den⟩=false from Lm (fun hv=>by have:=(hp.1 hv).1;cases this))
    clear hp
    go_enter func81,ntmps81
    exact FG
  | false =>
   rcases key with k1|k1|k1|k1
   ·have d0:(den == 0)=false:=by rw [beq_eq_false_iff_ne];omega
    have HV:=mz (show vdB ⟨false,A,ws,cap,den⟩=false from Lm (fun hv=>by have:=(hp.1 hv).2;omega))
    clear hp
    go_enter func81,ntmps81
    exact FG
   ·have d0:(den == 0)=true:=by simp;omega
    have HV:=mz (show vdB ⟨false,A,ws,cap,den⟩=true from SM (hp.2 ⟨rfl,k1⟩))
    clear hp
    go_enter func81,ntmps81
    exact FG
   ·have d0:(den == 0)=false:=by rw [beq_eq_false_iff_ne];omega
    have HV:=mz (show vdB ⟨false,A,ws,cap,den⟩=false from Lm (fun hv=>by have:=(hp.1 hv).2;omega))
    clear hp
    go_enter func81,ntmps81
    exact FG
   ·have d0:(den == 0)=false:=by rw [beq_eq_false_iff_ne];omega
    have HV:=mz (show vdB ⟨false,A,ws,cap,den⟩=false from Lm (fun hv=>by have:=(hp.1 hv).2;omega))
    clear hp
    go_enter func81,ntmps81
    exact FG
 ·have hp:=Aet (r:=⟨nb,A,ws,cap,den⟩) h0
  dsimp only at hp
  obtain ⟨b,off,z,hA,q1,q2,hz,g1⟩:=hat.w32_ (k:=ws.length - 1) (by omega)
  subst hA
  obtain ⟨b',off',y,hA',_,_,hy,g0⟩:=hat.w32_ (k:=0) (by omega)
  cases hA'
  rw [cw] at g0
  obtain ⟨L,hL⟩:∃ L,L=ws.length - 1:=⟨_,rfl⟩
  have hlen:ws.length=L+1:=by omega
  have hl':L≤1000000:=by omega
  have e0:((L:Int)+1 == 0)=false:=by simp;omega
  rw [←hL] at g1
  rw [hz,hy] at hp
  simp only [bd] at hp
  rw [hlen]
  clear hat hok hl h hz hy hL q1 q2 h0 hlen
  by_cases hz0:z=0
  ·subst hz0
   have hzb:(((0:Nat):Int) != 0)=false:=by rfl
   rcases key with k1|k1|k1|k1
   all_goals
    have HV:=mz (show vdB ⟨nb,some ⟨b,off,none⟩,ws,cap,den⟩=false from Lm (fun hv=>(hp.1 hv).1 rfl))
    clear hp
    go_enter func81,ntmps81
    exact FG
  ·have hzb:((z:Int) != 0)=true:=by simp;omega
   rcases key with k1|k1|k1|k1
   ·have HV:=mz (show vdB ⟨nb,some ⟨b,off,none⟩,ws,cap,den⟩=false from Lm (fun hv=>by have:=(hp.1 hv).2.1;omega))
    clear hp
    go_enter func81,ntmps81
    exact FG
   ·have d0:(den == 0)=true:=by simp;omega
    have HV:=mz (show vdB ⟨nb,some ⟨b,off,none⟩,ws,cap,den⟩=true from SM (hp.2 ⟨hz0,by omega,by omega,.inl k1⟩))
    clear hp
    go_enter func81,ntmps81
    exact FG
   ·have d0:(den == 0)=false:=by rw [beq_eq_false_iff_ne];omega
    have d1:decide (den≤65536)=true:=decide_eq_true k1.2
    have d2:decide (0≤den)=true:=decide_eq_true (by omega)
    by_cases ho:y % 2=1
    ·have hoi:(y:Int) % 2=1:=by omega
     have HV:=mz (show vdB ⟨nb,some ⟨b,off,none⟩,ws,cap,den⟩=true from SM (hp.2 ⟨hz0,by omega,k1.2,.inr ho⟩))
     clear hp
     go_enter func81,ntmps81
     exact FG
    ·have hoi:(y:Int) % 2=0:=by omega
     have HV:=mz (show vdB ⟨nb,some ⟨b,off,none⟩,ws,cap,den⟩=false from Lm (fun hv=>by have:=(hp.1 hv).2.2.2;omega))
     clear hp
     go_enter func81,ntmps81
     exact FG
   ·have HV:=mz (show vdB ⟨nb,some ⟨b,off,none⟩,ws,cap,den⟩=false from Lm (fun hv=>by have:=(hp.1 hv).2.2.1;omega))
    clear hp
    go_enter func81,ntmps81
    exact FG
end Go.Proofs.YtmdfjbpggbhgnaaGreatDoor
