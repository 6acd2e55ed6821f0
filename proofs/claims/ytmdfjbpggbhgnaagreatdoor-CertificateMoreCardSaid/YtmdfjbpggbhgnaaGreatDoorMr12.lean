/- What the proofs of this claim share, part 12. No conditions. -/
import Derived.Test.YtmdfjbpggbhgnaaGreatDoorMr11
import Derived.Test.YtmdfjbpggbhgnaaGreatDoorMr10
import Derived.Test.YtmdfjbpggbhgnaaGreatDoorMr6
set_option maxRecDepth 100000
set_option maxHeartbeats 4000000
set_option linter.all false
open Go.Proofs.Tryz
namespace Go.Proofs.YtmdfjbpggbhgnaaGreatDoor
open Go.RowKit
variable {p p':Prop}
theorem DN {a b:Int} (h:¬ a=b):(a == b)=false:=beq_eq_false_iff_ne.2 h
theorem AlH {n e:Int} (h:¬ (n=0∧e=0)):(!(n == 0 && e == 0))=true:=by
 by_cases h1:n=0
 ·rw [DN (fun h2=>h ⟨h1,h2⟩),Bool.and_false];rfl
 ·rw [DN h1];rfl
theorem Afp {n e:Int} (h:DE n e):Nf (Ae n 0 e).1 (Ae n 0 e).2∧(Ab (Ae n 0 e).1.natAbs).length≤40000:=by
 unfold DE at h
 have sm:=Sm.shift (n:=32) (x:=n) (k:=e) (by omega) (by omega) (by omega)
 exact ⟨sm.ok,lT (sm.lenN 10 (by decide)) (by decide)⟩
theorem AlI (k:p') (h:Hd9 p'→p:=by with_reducible first|(intro Z9;refine qq ?_;exact Z9.o)|(intro Z9;refine Tx 0 ?_;refine gO xA ?_;exact Z9.o)|(intro Z9;refine Tx 1 ?_;refine gO xM ?_;exact Z9.o)|(intro Z9;refine Tx 2 ?_;refine gO xEq <| gO xA ?_;exact Z9.o)|(intro Z9;refine Tx 3 ?_;refine gO xA ?_;exact Z9.o)|(intro Z9;refine Tx 4 ?_;refine gO xEq <| gO xA ?_;exact Z9.o)|(intro Z9;refine Tx 5 ?_;refine gO xEq <| gO xA ?_;exact Z9.o)|(intro Z9;refine Tx 6 ?_;refine gO xEq <| gO xA ?_;exact Z9.o)|(intro Z9;refine Tx 7 ?_;refine gO xEq <| gO xA ?_;exact Z9.o)|(intro Z9;refine Tx 8 ?_;refine gO xEq <| gO xA ?_;exact Z9.o)|(intro Z9;refine Tx 9 ?_;refine gO xEq <| gO xA ?_;exact Z9.o)|(intro Z9;refine Tx 10 ?_;refine gO xA ?_;exact Z9.o)|(intro Z9;refine Tx 11 ?_;refine gO xEq <| gO xA ?_;exact Z9.o)|(intro Z9;refine Tx 12 ?_;refine gO xEq <| gO xA ?_;exact Z9.o)|(intro Z9;refine Tx 13 ?_;refine gO xEq <| gO xA ?_;exact Z9.o)|(intro Z9;refine Tx 14 ?_;refine gO xEq <| gO xA ?_;exact Z9.o)|(intro Z9;refine Tx 15 ?_;refine gO xEq <| gO xA ?_;exact Z9.o)|(intro Z9;refine Tx 16 ?_;refine gO xA ?_;exact Z9.o)|(intro Z9;refine Tx 17 ?_;refine gO xA ?_;exact Z9.o)|fail):p:=h ⟨k⟩
theorem Aae (k:Int):CV prog Ah 201 [aI k] [aI (Bp k)]:=by
 refine cvz func201 ntmps201 ?_
 have h:k=1∨k=0∨k=2∨k=5∨k=10∨k=6∨k=11∨k=3∨k=4∨k=7∨k=8∨k=9∨(k≠1∧k≠0∧k≠2∧k≠5∧k≠10∧k≠6∧k≠11∧k≠3∧k≠4∧k≠7∧k≠8∧k≠9):=by omega
 rcases h with rfl|rfl|rfl|rfl|rfl|rfl|rfl|rfl|rfl|rfl|rfl|rfl|h
 rotate_left 12
 ·have e:Bp k = -1:=by unfold Bp;rw [if_neg (by omega),if_neg (by omega),if_neg (by omega)]
  rw [e]
  repeat' (with_reducible first|refine AlI ?_)
  exact Ax rfl (.cons_ (Qu rfl rfl) .nil_)
 all_goals repeat' (with_reducible first|refine AlI ?_)
 all_goals exact Ax rfl (.cons_ (Qu rfl (by decide)) .nil_)
theorem Ut (k:p') (h:Hd9 p'→p:=by with_reducible first|(intro Z9;refine qq ?_;exact Z9.o)|(intro Z9;refine Tx 0 ?_;refine gN xBo <| gO xA ?_;exact Z9.o)|(intro Z9;refine Tx 1 ?_;refine gO xM <| gO (by first|exact xNt|exact xNg) ?_;exact Z9.o)|fail):p:=h ⟨k⟩
theorem Aaf (k:p') (h:Hd9 p'→p:=by with_reducible first|(intro Z9;refine Tx 5 ?_;refine gO xF <| gO xD <| gO xLe <| gO xM ?_;(first|iterate 3 refine Jd ?_|(refine Jy (xFa DU AE) ?_;refine Jy (xLd AE) ?_;refine Jy xGe ?_));refine gO xPk <| gO xM ?_;(first|iterate 3 refine Jd ?_|(refine Jy (xFa Es AE) ?_;refine Jy (xLd AE) ?_;refine Jy xLt ?_));refine gO xPk <| gO xM ?_;(first|iterate 3 refine Jd ?_|(refine Jy (xFa Es AE) ?_;refine Jy (xLd AE) ?_;refine Jy xGt ?_));refine gO xPk ?_;exact Z9.o)|fail):p:=h ⟨k⟩
theorem EP (h:p:=by
 exact Ax rfl (.cons_ (AcU rfl (by decide) (rfl)) .nil_)):p:=h
theorem Pw (n e:Int) (used:Bool):CV prog Ah 202 [.agg [dI n,dI e],aB used] [aE (Cm n e used)]:=by
 refine cvz func202 ntmps202 ?_
 cases used
 case false =>
  unfold Cm
  rw [if_neg (by decide)]
  by_cases h1:n=0∧e=0
  case pos =>
   rw [if_pos h1]
   obtain ⟨rfl,rfl⟩:=h1
   repeat' (with_reducible first|refine Ut ?_|(refine Tx 2 ?_;refine gO xL <| gO (by exact AO rfl Gs rfl rfl) <| gO (by first|exact QC rfl rfl rfl (rfl)|exact xNe) ?_)|(refine Tx 4 ?_;refine gO xA ?_))
   exact Ax rfl (.cons_ (Gl rfl (rfl)) .nil_)
  case neg =>
   rw [if_neg h1]
   repeat' (with_reducible first|refine Ut ?_|(refine Tx 2 ?_;refine gO xL <| gO (by exact AO rfl Gs rfl rfl) <| gO (by first|exact QC rfl rfl rfl (AlH h1)|exact xNe) ?_)|(refine Tx 3 ?_;refine gO (xMi underlying109) <| gO xA ?_))
   exact EP
 case true =>
  unfold Cm
  rw [if_pos rfl]
  by_cases c1 : -2147483648<n
  case neg =>
   rw [if_neg (fun h:DE n e=>c1 h.1)]
   repeat' (with_reducible first|refine Ut ?_|refine Aaf ?_|(refine Tx 6 ?_;refine gO (xMi underlying109) <| gO xA ?_))
   exact EP
  by_cases c2:n<2147483648
  case neg =>
   rw [if_neg (fun h:DE n e=>c2 h.2.1)]
   repeat' (with_reducible first|refine Ut ?_|refine Aaf ?_|(refine Tx 6 ?_;refine gO (xMi underlying109) <| gO xA ?_))
   exact EP
  by_cases c3 : -62≤e
  case neg =>
   rw [if_neg (fun h:DE n e=>c3 h.2.2.1)]
   repeat' (with_reducible first|refine Ut ?_|refine Aaf ?_|(refine Tx 6 ?_;refine gO (xMi underlying109) <| gO xA ?_))
   exact EP
  by_cases c4:e≤30
  case neg =>
   rw [if_neg (fun h:DE n e=>c4 h.2.2.2)]
   repeat' (with_reducible first|refine Ut ?_|refine Aaf ?_|(refine Tx 6 ?_;refine gO (xMi underlying109) <| gO xA ?_))
   exact EP
  rw [if_pos (show DE n e from ⟨c1,c2,c3,c4⟩)]
  repeat' (with_reducible first|refine Ut ?_|refine Aaf ?_|(refine Tx 7 ?_;refine gO xA ?_))
  exact Ax rfl (.cons_ (Gl rfl (rfl)) .nil_)
theorem Px (n e:Int) (h:DE n e):CV prog Ah 203 [.agg [dI n,dI e]] [aDy false (Ae n 0 e).1 (Ae n 0 e).2]:=by
 refine cvz func203 ntmps203 ?_
 have OF:=Ff n (by unfold DE at h;omega) (by unfold DE at h;omega)
 have SH:=BH n 0 e ⟨by decide,fun h=>absurd rfl h⟩ (lT (AC (k:=2) (by unfold DE at h;omega)) (by decide)) (by unfold DE at h;omega)
 repeat' (with_reducible first|refine qq ?_|(refine Tx 0 ?_;refine gN xBo <| gN (xAl Aj) ?_)|(refine AG (id:=1) 6 AV (by kernel_rfl) ?_;dsimp only [List.take,List.drop];refine gP xF <| gP xD <| gP (xCl func68 (OF)) <| gP xF <| gP xD <| gP (xCl func21 (SH)) ?_;refine Ke ?_;refine gZ (xSk Aa) ?_))
 exact Ax rfl (.cons_ (rvW Aa rfl) .nil_)
theorem Adt (k:p') (h:Hd9 p'→p:=by with_reducible first|(intro Z9;refine Tx 0 ?_;refine gN xBo <| gN xBo <| gO xA ?_;exact Z9.o)|(intro Z9;refine Tx 1 ?_;refine gO xF <| gO xD <| gO (xCl func201 (AR)) <| gO xA ?_;exact Z9.o)|(intro Z9;refine Tx 2 ?_;refine gO xM <| gO xLt ?_;exact Z9.o)|fail):p:=h ⟨k⟩
theorem AlJ (k:p') (h:Hd9 p'→p:=by with_reducible first|(intro Z9;refine Tx 6 ?_;refine gO xF <| gO xD <| gO xN <| gO xA ?_;exact Z9.o)|(intro Z9;refine Tx 7 ?_;refine gO xF <| gO xD <| gO xEq ?_;exact Z9.o)|(intro Z9;refine Tx 9 ?_;refine gO xF <| gO xD <| gO xN <| gO xM ?_;exact Z9.o)|fail):p:=h ⟨k⟩
theorem NT (k:p') (h:Hd9 p'→p:=by with_reducible first|(intro Z9;refine Tx 10 ?_;refine gO xLt ?_;exact Z9.o)|fail):p:=h ⟨k⟩
theorem Aag (k:p') (h:Hd9 p'→p:=by with_reducible first|(intro Z9;refine Tx 11 ?_;refine gO (xIr Ad (AI hz)) <| gO xD <| gO xA ?_;exact Z9.o)|(intro Z9;refine Tx 12 ?_;refine gO xM <| gO xLt <| gO xM ?_;(first|iterate 3 refine Jd ?_|(refine Jy xM1 ?_;refine Jy xM1 ?_;refine Jy xGe ?_));refine gO xPk ?_;exact Z9.o)|fail):p:=h ⟨k⟩
theorem AlK (h:p:=by first|exact xCl func202 (SV)|exact xCl func202 (SU)):p:=h
theorem Xv (k:p') (h:Hd9 p'→p:=by with_reducible first|(intro Z9;refine Tx 15 ?_;refine gO xF <| gO xD <| gO xEq <| gO xA ?_;exact Z9.o)|(intro Z9;refine Tx 16 ?_;refine gO xF <| gO xL <| gO xM <| gO xM ?_;(first|iterate 3 refine Jd ?_|(refine Jy (xFa Ed AE) ?_;refine Jy (xLd AE) ?_;refine Jy xEq ?_));refine gO xPk <| gO xM ?_;(first|iterate 3 refine Jd ?_|(refine Jy (xFa Ed AE) ?_;refine Jy (xLd AE) ?_;refine Jy xEq ?_));refine gO xPk <| gO xM ?_;(first|iterate 3 refine Jd ?_|(refine Jy (xFa Ed AE) ?_;refine Jy (xLd AE) ?_;refine Jy xEq ?_));refine gO xPk <| gO AlK <| gO xA ?_;exact Z9.o)|fail):p:=h ⟨k⟩
theorem AlL (h:p:=by first|assumption|omega):p:=h
theorem AlM (h:p:=by first|rfl|omega):p:=h
theorem AoU (k:p') (h:Hd9 p'→p:=by with_reducible first|(intro Z9;refine Tx 17 ?_;refine gO xM <| gO (by first|exact BP rfl Al rfl (Ie h4)|exact BP rfl Al rfl (OQ AlM)|exact BP rfl Al rfl (Ie AlL)|exact BP rfl Al rfl rfl) ?_;exact Z9.o)|(intro Z9;refine Tx 18 ?_;refine gO xM <| gO xA ?_;exact Z9.o)|fail):p:=h ⟨k⟩
theorem Aah (k:p') (h:Hd9 p'→p:=by with_reducible first|(intro Z9;refine Tx 17 ?_;refine gO xM <| gO (xNE Al) ?_;exact Z9.o)|(intro Z9;refine Tx 19 ?_;refine gO xF <| gO xL <| gO xM <| gO AlK <| gO xA ?_;exact Z9.o)|fail):p:=h ⟨k⟩
theorem AlN (k:p') (h:Hd9 p'→p:=by with_reducible first|(intro Z9;refine Tx 20 ?_;refine gO xM <| gO (by first|exact BP rfl Al rfl (Ie h5)|exact BP rfl Al rfl (OQ AlM)|exact BP rfl Al rfl (Ie AlL)|exact BP rfl Al rfl rfl) ?_;exact Z9.o)|(intro Z9;refine Tx 21 ?_;refine gO xM <| gO xA ?_;exact Z9.o)|fail):p:=h ⟨k⟩
theorem AoV (k:p') (h:Hd9 p'→p:=by with_reducible first|(intro Z9;refine Ca (id:=22) AV (by kernel_rfl) ?_;refine gP xM <| gP xM ?_;(first|iterate 2 refine Kd ?_|(refine Ky (xFa Ex AU) ?_;refine Ky (xLa AU) ?_));refine Kd ?_;(first|iterate 2 refine Kd ?_|(refine Ky (xFa Ee AU) ?_;refine Ky (xLa AU) ?_));refine Kd ?_;refine Kd ?_;(first|refine Kd ?_|refine Ky xGt ?_);refine gP xPk ?_;refine Ke ?_;exact Z9.o)|fail):p:=h ⟨k⟩
theorem AlO (h:p:=by first|exact xCl func203 (V1)|exact xCl func203 (V2)):p:=h
theorem AlP (k:p') (h:Hd9 p'→p:=by with_reducible first|(intro Z9;refine Ca (id:=22) AV (by kernel_rfl) ?_;refine gP xM <| gP xM ?_;(first|iterate 8 refine Kd ?_|(refine Ky (xFa Ex AU) ?_;refine Ky (xLa AU) ?_;refine Ky AlO ?_;refine Ky (xFa Ee AU) ?_;refine Ky (xLa AU) ?_;refine Ky AlO ?_;refine Ky (xCl func15 (CM)) ?_;refine Ky xGt ?_));refine gP xPk ?_;refine Ke ?_;exact Z9.o)|fail):p:=h ⟨k⟩
theorem Aai (h:p:=by
 rw [h4] at SV
 by_cases h5:Cm y.un y.ue false=0
 case neg =>
  rw [be5 h1 h2 hM hf hv h4 hc h5]
  repeat' (with_reducible first|refine qq ?_|refine NT ?_|refine Xv ?_|refine Aah ?_|refine AlN ?_)
  exact Ax rfl (.cons_ (Acl rfl rfl) .nil_)
 rw [h5] at SU
 rw [be7 h1 h2 hM hf hv h4 hc h5 (fun h=>by cases h.1)]
 repeat' (with_reducible first|refine qq ?_|refine NT ?_|refine Xv ?_|refine Aah ?_|(refine Tx 20 ?_;refine gO xM <| gO (xNE Al) ?_)|refine AoV ?_|(refine Tx 24 ?_;refine gO xA ?_))
 exact Ax rfl (.cons_ (Gl rfl (rfl)) .nil_)):p:=h
theorem Xw (h:p:=by
 rw [be4 h1 h2 hM hf hv h4]
 repeat' (with_reducible first|refine qq ?_|refine NT ?_|refine Xv ?_|refine AoU ?_)
 exact Ax rfl (.cons_ (Acl rfl rfl) .nil_)):p:=h
theorem AlQ (h:p:=by
 obtain ⟨z0,z1⟩:=hb
 repeat' (with_reducible first|refine qq ?_|refine NT ?_|refine Aag ?_|(refine Tx 14 ?_;refine gO xAd <| gO xM ?_))
 refine ⟨_,_,Ls _ 2 ?_ ?_ ?_,_,by omega,k+1,by omega,rfl,VO hz ⟨z0,z1⟩ hf,rfl,rfl⟩
 ·rfl
 ·exact mB rfl rfl
 ·exact ⟨CN rfl,CN rfl,trivial⟩):p:=h
theorem Xx (t:Bool) {ps:List Prt} {bs:List Bk} {os:List Int} (hl:EB ps bs os) (y:Bk) (hyl:y.args.length≤1000000):CV prog Ah 95 [aDg t ps bs os,.agg (dBk t y)] [aE (BR ps.length bs.length y)]:=by
 refine cvz func95 ntmps95 ?_
 have AR:=Aae y.kind
 have SV:=Pw y.vn y.ve (OJ y.kind)
 have SU:=Pw y.un y.ue (Ii y.kind)
 have hl1:=hl.l1
 have hl2:=hl.l2
 by_cases h1:Bp y.kind<0
 case pos =>
  rw [be1 h1]
  repeat' (with_reducible first|refine qq ?_|refine Adt ?_|(refine Tx 3 ?_;refine gO (xMi underlying109) <| gO xA ?_))
  exact EP
 by_cases h2:((y.args.length:Nat):Int)=Bp y.kind
 case neg =>
  rw [be2 h1 h2]
  repeat' (with_reducible first|refine qq ?_|refine Adt ?_|(refine Tx 4 ?_;refine gO xF <| gO xD <| gO xN <| gO xM <| gO xNe ?_)|(refine Tx 5 ?_;refine gO (xMi underlying109) <| gO xA ?_))
  exact EP
 have hA2:y.args.length≤2:=by unfold Bp at h2;(repeat' split at h2) <;> omega
 by_cases k0:y.kind=0
 case pos =>
  have hM:Ei ps.length bs.length y.kind=ps.length:=if_pos k0
  repeat' (with_reducible first|refine qq ?_|refine Adt ?_|(refine Tx 4 ?_;refine gO xF <| gO xD <| gO xN <| gO xM <| gO xNe ?_)|refine AlJ ?_|(refine Tx 8 ?_;refine gO xF <| gO xD <| gO xN <| gO xA ?_))
  refine AQ (Bu 2) (Aq (fun n Fr H=>∃ k:Nat,k≤y.args.length∧n=y.args.length - k∧Ap ((y.args.map (Mf ps.length)).take k)=0∧Fr=ofL [(2,vr 0),(3,vr 1),(6,vi ps.length),(34,vd (Bd t y.args)),(35,vi y.args.length),(36,vi ((k:Nat)))]∧H=[.box 26 [.d (DJ t ps),.d (Dc t bs),.d (Bd t os)],.box 63 [.d (.val (.int .i64 y.kind)),.d (Bd t y.args),.d (.val (.int .i64 y.vn)),.d (.val (.int .i64 y.ve)),.d (.val (.int .i64 y.un)),.d (.val (.int .i64 y.ue))]]) (n0:=y.args.length) ⟨0,ad _,rfl,rfl,rfl,rfl⟩ ?_)
  rintro n Fr H ⟨k,hk,rfl,hf,rfl,rfl⟩
  by_cases hlt:k<y.args.length
  case pos =>
   obtain ⟨z,hz⟩:∃ z,y.args[k]?=some z:=⟨_,gE hlt⟩
   by_cases hb:0≤z∧z<((ps.length:Nat):Int)
   case neg =>
    rw [be3 h1 h2 hM (Qz hz hb hf)]
    by_cases hz0:z<0
    case pos =>
     repeat' (with_reducible first|refine qq ?_|refine NT ?_|refine Aag ?_|(refine Tx 13 ?_;refine gO (xMi underlying109) <| gO xA ?_))
     exact EP
    repeat' (with_reducible first|refine qq ?_|refine NT ?_|refine Aag ?_|(refine Tx 13 ?_;refine gO (xMi underlying109) <| gO xA ?_))
    exact EP
   exact AlQ
  obtain rfl:k=y.args.length:=by omega
  rw [al (by rw [af];exact aa _)] at hf
  clear hlt hk
  generalize hv:OJ y.kind=vu at SV
  generalize hc:Ii y.kind=cu at SU
  have hv1:vu=false:=by rw [←hv,k0];rfl
  have hc1:cu=false:=by rw [←hc,k0];rfl
  subst hv1 hc1
  by_cases h4:Cm y.vn y.ve false=0
  case neg =>
   exact Xw
  exact Aai
 case neg =>
  have hM:Ei ps.length bs.length y.kind=bs.length:=if_neg k0
  repeat' (with_reducible first|refine qq ?_|refine Adt ?_|(refine Tx 4 ?_;refine gO xF <| gO xD <| gO xN <| gO xM <| gO xNe ?_)|refine AlJ ?_)
  refine AQ (Bu 2) (Aq (fun n Fr H=>∃ k:Nat,k≤y.args.length∧n=y.args.length - k∧Ap ((y.args.map (Mf bs.length)).take k)=0∧Fr=ofL [(2,vr 0),(3,vr 1),(6,vi bs.length),(34,vd (Bd t y.args)),(35,vi y.args.length),(36,vi ((k:Nat)))]∧H=[.box 26 [.d (DJ t ps),.d (Dc t bs),.d (Bd t os)],.box 63 [.d (.val (.int .i64 y.kind)),.d (Bd t y.args),.d (.val (.int .i64 y.vn)),.d (.val (.int .i64 y.ve)),.d (.val (.int .i64 y.un)),.d (.val (.int .i64 y.ue))]]) (n0:=y.args.length) ⟨0,ad _,rfl,rfl,rfl,rfl⟩ ?_)
  rintro n Fr H ⟨k,hk,rfl,hf,rfl,rfl⟩
  by_cases hlt:k<y.args.length
  case pos =>
   obtain ⟨z,hz⟩:∃ z,y.args[k]?=some z:=⟨_,gE hlt⟩
   by_cases hb:0≤z∧z<((bs.length:Nat):Int)
   case neg =>
    rw [be3 h1 h2 hM (Qz hz hb hf)]
    by_cases hz0:z<0
    case pos =>
     repeat' (with_reducible first|refine qq ?_|refine NT ?_|refine Aag ?_|(refine Tx 13 ?_;refine gO (xMi underlying109) <| gO xA ?_))
     exact EP
    repeat' (with_reducible first|refine qq ?_|refine NT ?_|refine Aag ?_|(refine Tx 13 ?_;refine gO (xMi underlying109) <| gO xA ?_))
    exact EP
   exact AlQ
  obtain rfl:k=y.args.length:=by omega
  rw [al (by rw [af];exact aa _)] at hf
  clear hlt hk
  generalize hv:OJ y.kind=vu at SV
  generalize hc:Ii y.kind=cu at SU
  by_cases k11:y.kind=11
  case pos =>
   have hv1:vu=true:=by rw [←hv,k11];rfl
   have hc1:cu=true:=by rw [←hc,k11];rfl
   subst hv1 hc1
   by_cases h4:Cm y.vn y.ve true=0
   case neg =>
    exact Xw
   rw [h4] at SV
   by_cases h5:Cm y.un y.ue true=0
   case neg =>
    rw [be5 h1 h2 hM hf hv h4 hc h5]
    repeat' (with_reducible first|refine qq ?_|refine NT ?_|refine Xv ?_|refine Aah ?_|refine AlN ?_)
    exact Ax rfl (.cons_ (Acl rfl rfl) .nil_)
   rw [h5] at SU
   have o1:=NF h4
   have o2:=NF h5
   have V1:=Px y.vn y.ve o1
   have V2:=Px y.un y.ue o2
   have s1:=Afp o1
   have s2:=Afp o2
   have CM:=BZ (Ae y.vn 0 y.ve).1 (Ae y.vn 0 y.ve).2 (Ae y.un 0 y.ue).1 (Ae y.un 0 y.ue).2 s1.1 s2.1 s1.2 s2.2
   have hpc:=Ahy o1 o2
   have hpc:BI (Ae y.vn 0 y.ve).1 (Ae y.vn 0 y.ve).2 (Ae y.un 0 y.ue).1 (Ae y.un 0 y.ue).2=Me y.vn y.ve y.un y.ue:=(Aaa _ _ _ _).trans hpc
   rw [hpc] at CM
   generalize hq:Me y.vn y.ve y.un y.ue=q at CM
   by_cases h6:0<q
   case pos =>
    rw [be6 h1 h2 hM hf hv h4 hc h5 ⟨rfl,by rw [hq];exact h6⟩]
    repeat' (with_reducible first|refine qq ?_|refine NT ?_|refine Xv ?_|refine Aah ?_|(refine Tx 20 ?_;refine gO xM <| gO (xNE Al) ?_)|refine AlP ?_|(refine Tx 23 ?_;refine gO (xMi underlying109) <| gO xA ?_))
    exact EP
   rw [be7 h1 h2 hM hf hv h4 hc h5 (fun h=>h6 (by rw [←hq];exact h.2))]
   repeat' (with_reducible first|refine qq ?_|refine NT ?_|refine Xv ?_|refine Aah ?_|(refine Tx 20 ?_;refine gO xM <| gO (xNE Al) ?_)|refine AlP ?_|(refine Tx 24 ?_;refine gO xA ?_))
   exact Ax rfl (.cons_ (Gl rfl (rfl)) .nil_)
  have hc1:cu=false:=by rw [←hc];exact DN k11
  subst hc1
  by_cases kv:y.kind=1∨y.kind=2∨y.kind=6
  case pos =>
   have hv1:vu=true:=by rw [←hv];rcases kv with h|h|h <;> (rw [h];rfl)
   subst hv1
   rcases kv with kv|kv|kv
   ·
    by_cases h4:Cm y.vn y.ve true=0
    case neg =>
     exact Xw
    exact Aai
   ·
    by_cases h4:Cm y.vn y.ve true=0
    case neg =>
     exact Xw
    exact Aai
   ·
    by_cases h4:Cm y.vn y.ve true=0
    case neg =>
     exact Xw
    exact Aai
  have hv1:vu=false:=by rw [←hv];unfold OJ;rw [DN k11,DN (by omega),DN (by omega),DN (by omega)];rfl
  subst hv1
  by_cases h4:Cm y.vn y.ve false=0
  case neg =>
   exact Xw
  exact Aai
theorem Aiq (k:p') (h:Hd9 p'→p:=by with_reducible first|(intro Z9;refine qq ?_;exact Z9.o)|(intro Z9;refine Tx 0 ?_;refine gN xBo <| gO xA ?_;exact Z9.o)|(intro Z9;refine Tx 1 ?_;refine gO xF <| gO xD <| gO xM <| gO (xIr Ai (Dj hy)) <| gO xF <| gO xD ?_;exact Z9.o)|(intro Z9;refine Tx 2 ?_;refine gO xEq <| gO xA ?_;exact Z9.o)|(intro Z9;refine Tx 3 ?_;refine gO xEq <| gO xA ?_;exact Z9.o)|(intro Z9;refine Tx 4 ?_;refine gO xA ?_;exact Z9.o)|(intro Z9;refine Tx 5 ?_;refine gO xF <| gO xD <| gO xM <| gO (xIr Ai (Dj hy)) <| gO xF <| gO xD <| gO xA ?_;exact Z9.o)|fail):p:=h ⟨k⟩
theorem Uu (t:Bool) {ps:List Prt} {bs:List Bk} {os:List Int} (hl:EB ps bs os) {i:Nat} {y:Bk} (hy:bs[i]?=some y):CVB prog Ah 129 [aDg t ps bs os,aI (i:Int)] (Bd t (Sp bs false i)):=by
 refine Afc QA func129 ntmps129 (bi rfl) rfl ?_
 have hl2:=hl.l2
 have hil:=(gS.1 hy).1
 rw [VG hy]
 by_cases k2:y.kind=2
 case pos =>
  rw [if_pos ⟨k2,rfl⟩]
  repeat' (with_reducible first|refine Aiq ?_)
  exact ⟨.inl rfl,_,_,results129,rfl,QB⟩
 rw [if_neg (fun h=>k2 h.1)]
 by_cases k0:y.kind=0
 case pos =>
  rw [if_pos k0]
  repeat' (with_reducible first|refine Aiq ?_)
  exact ⟨.inl rfl,_,_,results129,rfl,QB⟩
 rw [if_neg k0]
 repeat' (with_reducible first|refine Aiq ?_)
 exact ⟨.inl rfl,_,_,results129,rfl,fun _ _ _ h=>h⟩
theorem Air (k:p') (h:Hd9 p'→p:=by with_reducible first|(intro Z9;refine Tx 16 ?_;refine gO xM <| gO xA ?_;exact Z9.o)|(intro Z9;refine Tx 17 ?_;refine gO xM <| gO xM <| gO (xIo (i:=k) Ey) <| gO (by first|exact Zz rfl rfl rfl hg Fe|exact xLd Fe) <| gO (by first|exact xNt|exact xNg) <| gO xM ?_;(first|iterate 2 refine Jd ?_|(refine Jy xM1 ?_;refine Jy xLt ?_));refine gO xPk <| gO xA ?_;exact Z9.o)|(intro Z9;refine Tx 18 ?_;refine gO xL <| gO xM <| gO (xCb func129 BF) <| gO xN <| gO xM ?_;exact Z9.o)|fail):p:=h ⟨k⟩
theorem AlR (k:p') (h:Hd9 p'→p:=by with_reducible first|(intro Z9;refine Tx 20 ?_;refine gO (xIr Ad (AI hz)) <| gO xD <| gO xA ?_;exact Z9.o)|(intro Z9;refine Tx 21 ?_;refine gO xM <| gO xM ?_;(first|iterate 4 refine Jd ?_|(refine Jy xM1 ?_;refine Jy xM1 ?_;refine Jy (by exact LP (i:=z.toNat) rfl rfl rfl rfl (by omega) Ey (by omega) (by decide)) ?_;refine Jy (by first|exact Zz rfl rfl rfl hgz Fe|exact xLd Fe) ?_));refine gO xPk <| gO xA ?_;exact Z9.o)|(intro Z9;refine Tx 22 ?_;refine gO xAd <| gO xM ?_;exact Z9.o)|fail):p:=h ⟨k⟩
theorem AlS (k:p') (h:Hd9 p'→p:=by with_reducible first|(intro Z9;refine Tx 23 ?_;refine gO xM ?_;exact Z9.o)|(intro Z9;refine Tx 25 ?_;refine gO xAd <| gO xM ?_;exact Z9.o)|fail):p:=h ⟨k⟩
theorem Ais (h:p:=by
 clear hd
 refine AQ (F':=ofL [(1,vr 0),(4,vo 1 ((BU out).length)),(5,vo 2 bs.length),(6,vi lf),(9,vi pk),(10,vi ((k:Nat))),(11,vd (.val (.bool b0))),(40,vd (Dc t bs)),(41,vi bs.length),(42,vi ((k:Nat))),(56,vd (Bd t xs)),(57,vi xs.length),(58,vi ((0:Nat)))]) (H':=[.box 26 [.d (DJ t ps),.d (Dc t bs),.d (Bd t os)],.row 3 1 (BU out).length (cI (BU out)),.row 4 1 bs.length (cBl (Fp bs out))]) (Bu 3 (h:=by rw [←hb0];exact mB rfl rfl)) ?_
 clear hb0
 refine Aq (fun n Fr H=>∃ (u:Nat) (b:Bool),u≤xs.length∧n=xs.length - u∧b=(b0 && AhD bs out xs u)∧Fr=ofL [(1,vr 0),(4,vo 1 ((BU out).length)),(5,vo 2 bs.length),(6,vi lf),(9,vi pk),(10,vi ((k:Nat))),(11,vd (.val (.bool b))),(40,vd (Dc t bs)),(41,vi bs.length),(42,vi ((k:Nat))),(56,vd (Bd t xs)),(57,vi xs.length),(58,vi ((u:Nat)))]∧H=[.box 26 [.d (DJ t ps),.d (Dc t bs),.d (Bd t os)],.row 3 1 (BU out).length (cI (BU out)),.row 4 1 bs.length (cBl (Fp bs out))]) (n0:=xs.length) ⟨0,b0,ad _,rfl,(Bool.and_true _).symm,rfl,rfl⟩ ?_
 rintro n Fr H ⟨u,b,hu,rfl,hb,rfl,rfl⟩
 by_cases hlu:u<xs.length
 case pos =>
  obtain ⟨z,hz⟩:∃ z,xs[u]?=some z:=⟨_,gE hlu⟩
  obtain ⟨z0,z1⟩:=hbd z (gM hz)
  have hgz:(Fp bs out)[z.toNat]?=some (En bs out z.toNat):=(by unfold Fp;rw [ag,ju (by omega)];rfl)
  have hst:=Sr (bs:=bs) (out:=out) hz
  cases b
  case false =>
   repeat' (with_reducible first|refine qq ?_|(refine Tx 19 ?_;refine gO xLt ?_)|refine AlR ?_)
   refine ⟨_,_,Bu 3,_,by omega,u+1,_,by omega,rfl,by rw [hst,←Bool.and_assoc,←hb];try rfl,rfl,rfl⟩
  repeat' (with_reducible first|refine qq ?_|(refine Tx 19 ?_;refine gO xLt ?_)|refine AlR ?_)
  refine ⟨_,_,Bu 3,_,by omega,u+1,_,by omega,rfl,by rw [hst,←Bool.and_assoc,←hb];try rfl,rfl,rfl⟩
 obtain rfl:u=xs.length:=by omega
 rw [VM (aa _)] at hb
 have hf2:=hfin b hb
 cases b
 case false =>
  repeat' (with_reducible first|refine qq ?_|(refine Tx 19 ?_;refine gO xLt ?_)|refine AlS ?_)
  refine ⟨_,_,Bu 3,_,by omega,k+1,pk,by omega,rfl,hf2.symm,rfl,rfl⟩
 repeat' (with_reducible first|refine qq ?_|(refine Tx 19 ?_;refine gO xLt ?_)|refine AlS ?_|(refine Tx 24 ?_;refine gO xM <| gO xA ?_))
 refine ⟨_,_,Ls _ 3 ?_ ?_ ?_,_,by omega,k+1,(k:Int),by omega,rfl,hf2.symm,rfl,rfl⟩
 ·rfl
 ·exact mB rfl rfl
 ·exact ⟨CN rfl,Nx,Zx,trivial⟩):p:=h
theorem AlT (h:p:=by first|exact AhG rfl rfl rfl rfl Fe tl stV|exact xS1 Fe|exact xSk Fe):p:=h
theorem Py (t:Bool) {ps:List Prt} {bs:List Bk} {os:List Int} (hl:EB ps bs os) (hS:Vy bs):CV prog Ah 96 [aDg t ps bs os] [.one (Bd false (AjL bs)),aE (Fo bs)]:=by
 refine cvz func96 ntmps96 ?_
 have hl2:=hl.l2
 repeat' (with_reducible first|refine qq ?_|(refine Tx 0 ?_;refine gN xBo <| gO xA <| gO xA ?_)|(refine Tx 1 ?_;refine gO xA ?_))
 refine AQ (IC 4 3 1 rfl) ?_
 repeat' (with_reducible first|refine qq ?_|(refine Tx 2 ?_;refine gO xF <| gO xD <| gO xN <| gN (by first|exact Zy (n:=bs.length) rfl rfl rfl Ey Zg (by omega) (by decide)|exact Bs rfl rfl rfl Ey Zg (by omega) (by decide)) <| gO xA ?_)|(refine Tx 3 ?_;refine gO xA ?_)|(refine Tx 4 ?_;refine gO xF <| gO xD <| gO xN <| gO xM ?_))
 rw [←Xl]
 refine AQ (Bu 3) (Aq (fun n Fr H=>∃ (k:Nat) (lf:Int),k≤bs.length∧n=bs.length - k∧lf=((fl (ND bs) k).length:Nat)∧Fr=ofL [(1,vr 0),(4,vo 1 ((BU []).length)),(5,vo 2 bs.length),(6,vi lf),(19,vd (Dc t bs)),(20,vi bs.length),(21,vi ((k:Nat)))]∧H=[.box 26 [.d (DJ t ps),.d (Dc t bs),.d (Bd t os)],.row 3 1 (BU []).length (cI (BU [])),.row 4 1 bs.length (cBl (Gk bs k))]) (n0:=bs.length) ⟨0,0,ad _,rfl,rfl,rfl,rfl⟩ ?_)
 rintro n Fr H ⟨k,lf,hk,rfl,hlf,rfl,rfl⟩
 by_cases hlt:k<bs.length
 case pos =>
  obtain ⟨y,hy⟩:∃ y,bs[k]?=some y:=⟨_,gE hlt⟩
  have tl:k<(Gk bs k).length:=by rw [Ss];exact hlt
  have hfl:=AhC (ND bs) k
  by_cases k2:y.kind=2
  case pos =>
   have hd:Co bs k=true:=by unfold Co;rw [Ez hy,k2];rfl
   have hn:ND bs k=false:=by unfold ND;rw [Ez hy,k2];rfl
   have stV:=Zq hd
   repeat' (with_reducible first|refine qq ?_|(refine Tx 5 ?_;refine gO xLt ?_)|(refine Tx 6 ?_;refine gO xM <| gO (by first|exact xIr Ai (Dj hy)|exact xIo (i:=k) Ai) <| gO xL <| gN (xAl Bt) <| gO xA <| gZ (xSk Bi) ?_)|(refine Tx 7 ?_;refine gO xF <| gO xD <| gO xEq ?_)|(refine Tx 8 ?_;refine gO xM <| gO xM <| gO (xIo (i:=k) Ey) <| gZ AlT ?_)|(refine Tx 10 ?_;refine gO xAd <| gO xM ?_))
   refine ⟨_,_,Bu 3,_,by omega,k+1,lf,by omega,rfl,by rw [AhB hn];exact hlf,rfl,rfl⟩
  have hd:Co bs k=false:=by unfold Co;rw [Ez hy];exact DN k2
  have hn:ND bs k=true:=by unfold ND;rw [Ez hy,bne,DN k2];rfl
  have hdn:=AcS hd
  repeat' (with_reducible first|refine qq ?_|(refine Tx 5 ?_;refine gO xLt ?_)|(refine Tx 6 ?_;refine gO xM <| gO (xIr Ai (Dj hy)) <| gO xL <| gN (xAl Bt) <| gO xA <| gZ (xSk Bi) ?_)|(refine Tx 7 ?_;refine gO xF <| gO xD <| gO xEq ?_)|(refine Tx 9 ?_;refine gO xM <| gO xAd <| gO xA ?_)|(refine Tx 10 ?_;refine gO xAd <| gO xM ?_))
  rw [←hdn]
  refine ⟨_,_,Bu 3,_,by omega,k+1,lf+1,by omega,rfl,by rw [Zm hn,ak,hlf];try rfl,rfl,rfl⟩
 obtain rfl:k=bs.length:=by omega
 rw [Xn] at hlf
 rw [Zp]
 clear hlt hk
 repeat' (with_reducible first|refine qq ?_|(refine Tx 5 ?_;refine gO xLt ?_))
 have hnd:=Gv bs
 refine AQ (Bu 3) (Aq (fun n Fr H=>∃ (out:List Nat) (lf:Int),Ih bs out∧n=Db bs - out.length∧lf=(Db bs:Int) - (out.length:Int)∧Fr=ofL [(1,vr 0),(4,vo 1 ((BU out).length)),(5,vo 2 bs.length),(6,vi lf)]∧H=[.box 26 [.d (DJ t ps),.d (Dc t bs),.d (Bd t os)],.row 3 1 (BU out).length (cI (BU out)),.row 4 1 bs.length (cBl (Fp bs out))]) (n0:=Db bs) ⟨[],lf,Ih.nil bs,rfl,by rw [hlf];simp,rfl,rfl⟩ ?_)
 clear hlf lf
 rintro n Fr H ⟨out,lf,hO,rfl,hlf,rfl,rfl⟩
 have hle:=hO.ok.le
 have hnl:=Cl out
 by_cases hpos:0<lf
 case neg =>
  have hfull:=hO.full (by omega)
  have he:Fo bs=0:=by unfold Fo;rw [hfull,if_pos (by omega)]
  have hL:AjL bs=BU out:=by unfold AjL;rw [if_pos he,hfull]
  rw [he,hL]
  repeat' (with_reducible first|refine qq ?_|(refine Tx 11 ?_;refine gO xM <| gO xGt ?_)|(refine Tx 30 ?_;refine gO xM <| gO xA <| gO xA ?_))
  exact Ax rfl (.cons_ (VS rfl rfl rfl) (.cons_ (Gl rfl rfl) .nil_))
 repeat' (with_reducible first|refine qq ?_|(refine Tx 11 ?_;refine gO xM <| gO xGt ?_)|(refine Tx 13 ?_;refine gO xA ?_)|(refine Tx 14 ?_;refine gO xF <| gO xD <| gO xN <| gO xM ?_))
 refine AQ (Bu 3) (Aq (fun n Fr H=>∃ (k:Nat) (pk:Int),k≤bs.length∧n=bs.length - k∧pk=II bs out k∧Fr=ofL [(1,vr 0),(4,vo 1 ((BU out).length)),(5,vo 2 bs.length),(6,vi lf),(9,vi pk),(40,vd (Dc t bs)),(41,vi bs.length),(42,vi ((k:Nat)))]∧H=[.box 26 [.d (DJ t ps),.d (Dc t bs),.d (Bd t os)],.row 3 1 (BU out).length (cI (BU out)),.row 4 1 bs.length (cBl (Fp bs out))]) (n0:=bs.length) ⟨0,-1,ad _,rfl,(Xo bs out).symm,rfl,rfl⟩ ?_)
 rintro n Fr H ⟨k,pk,hk,rfl,hpk,rfl,rfl⟩
 by_cases hlt:k<bs.length
 case pos =>
  obtain ⟨y,hy⟩:∃ y,bs[k]?=some y:=⟨_,gE hlt⟩
  have BF:=Uu t hl hy
  have hg:(Fp bs out)[k]?=some (En bs out k):=(by unfold Fp;rw [ag,ju (by omega)];rfl)
  obtain ⟨xs,hxs⟩:∃ xs,Sp bs false k=xs:=⟨_,rfl⟩
  rw [hxs] at BF
  have hxl:xs.length≤1000000:=by rw [←hxs,VG hy];have:=hl.la y (gM hy);split <;> (try split) <;> first|exact this|exact ad _
  have hbd:∀ z∈xs,0≤z∧z<(bs.length:Int):=fun z hz=>hS k hlt z (Ud (over:=false) (by rw [hxs];exact hz))
  obtain ⟨b0,hb0⟩:∃ b0:Bool,(!En bs out k && decide (pk<0))=b0:=⟨_,rfl⟩
  have hfin:∀ b:Bool,b=(b0 && xs.all fun z=>En bs out z.toNat)→II bs out (k+1)=if b=true then (k:Int) else pk:=fun b hb=>by
   cases hd:En bs out k with
   | true =>
    have hr:rdy bs out k=false:=by rw [NC,hd];rfl
    rw [hd] at hb0
    rw [hb,←hb0,Qy (.inr hr),if_neg (by simp),hpk]
   | false =>
    have hr:=Zu (out:=out) hd
    rw [hxs] at hr
    by_cases hp:pk<0
    ·rw [hd,decide_eq_true hp] at hb0
     rw [←hb0,←hr] at hb
     cases hq:rdy bs out k with
     | true=>rw [hq] at hb;rw [Zr (by rw [←hpk];exact hp) hq,hb];rfl
     | false=>rw [hq] at hb;rw [Qy (.inr hq),hb,←hpk];rfl
    ·rw [hd,decide_eq_false hp] at hb0
     rw [hb,←hb0,Qy (.inl (by omega)),if_neg (by simp),hpk]
  skip
  cases hd:En bs out k
  case true =>
   rw [hd] at hg hb0
   rw [dr,fw] at hb0
   repeat' (with_reducible first|refine qq ?_|(refine Tx 15 ?_;refine gO xLt ?_)|refine Air ?_)
   exact Ais
  rw [hd] at hg hb0
  by_cases hp:pk<0
  case pos =>
   rw [decide_eq_true hp] at hb0
   rw [dt,Bool.and_true] at hb0
   repeat' (with_reducible first|refine qq ?_|(refine Tx 15 ?_;refine gO xLt ?_)|refine Air ?_)
   exact Ais
  rw [decide_eq_false hp] at hb0
  rw [Bool.and_false] at hb0
  repeat' (with_reducible first|refine qq ?_|(refine Tx 15 ?_;refine gO xLt ?_)|refine Air ?_)
  exact Ais
 obtain rfl:k=bs.length:=by omega
 clear hlt hk
 cases hnx:nxt bs out
 case none =>
  rw [Zs hnx] at hpk
  subst hpk
  have hod:=hO.done hnx
  have he:Fo bs=24:=by unfold Fo;rw [hod,if_neg (by omega)]
  have hL:AjL bs=[]:=by unfold AjL;rw [if_neg (by rw [he];decide)]
  rw [he,hL]
  repeat' (with_reducible first|refine qq ?_|(refine Tx 15 ?_;refine gO xLt ?_)|(refine Tx 26 ?_;refine gO xM <| gO xLt ?_)|(refine Tx 27 ?_;refine gO (xMi underlying109) <| gO xA <| gO xA ?_))
  exact Ax rfl (.cons_ (.tmp (.one (Ho rfl rfl))) (.cons_ (AcU rfl (by decide) rfl) .nil_))
 case some p =>
  rw [Zt hnx] at hpk
  subst hpk
  have hO2:=hO.push hnx
  have hpl:=(Qv hnx).1
  have hlt2:=hO.lt hnx
  have tl:p<(Fp bs out).length:=by rw [Zo];exact hpl
  have stV:(Fp bs out).set p true=Fp bs (out++[p]):=(Xm bs out p).symm
  have hap:BU out++[(p:Int)]=BU (out++[p]):=(Mu out p).symm
  have hap2:(BU out).length+1=(BU (out++[p])).length:=by rw [Cl,Cl,ak];rfl
  repeat' (with_reducible first|refine qq ?_|(refine Tx 15 ?_;refine gO xLt ?_)|(refine Tx 26 ?_;refine gO xM <| gO xLt ?_)|(refine Tx 28 ?_;refine gO xM <| gO xM <| gO (xIo (i:=p) Ey) <| gZ AlT ?_)|(refine Tx 29 ?_;refine gO xM <| gO xM <| gN (by exact Cf rfl Ad CJ rfl rfl (by decide) (by decide)) <| gT (by exact Sj rfl rfl rfl rfl rfl rfl Ad CJ (by omega) (by decide) hap hap2) <| gO xA ?_)|(refine Tx 12 ?_;refine gO xM <| gO xSb <| gO xA ?_))
  refine ⟨_,_,Bu 3,_,(by rw [ak];show Db bs - (out.length+1)<_;omega),out++[p],lf - 1,hO2,rfl,by rw [ak,hlf];show _=(Db bs:Int) - ((out.length+1:Nat):Int);omega,rfl,rfl⟩
theorem Adu (k:p') (h:Hd9 p'→p:=by with_reducible first|(intro Z9;refine Tx 0 ?_;refine gN xBo <| gO xA ?_;exact Z9.o)|(intro Z9;refine Tx 1 ?_;refine gO xF <| gO xD <| gO xN <| gO xGt <| gO xM ?_;(first|iterate 4 refine Jd ?_|(refine Jy (xFa BO AP) ?_;refine Jy (xLd AP) ?_;refine Jy (xLn Ai) ?_;refine Jy xGt ?_));refine gO xPk <| gO xM ?_;(first|iterate 4 refine Jd ?_|(refine Jy (xFa FN BJ) ?_;refine Jy (xLd BJ) ?_;refine Jy (xLn Ad) ?_;refine Jy xGt ?_));refine gO xPk ?_;exact Z9.o)|fail):p:=h ⟨k⟩
theorem Xy (k:p') (h:Hd9 p'→p:=by with_reducible first|(intro Z9;refine Tx 5 ?_;refine gO (xIr Di (NJ hp)) <| gO xL <| gN (xAl Nu) <| gZ (xSk Ic) ?_;exact Z9.o)|(intro Z9;refine Tx 6 ?_;refine gO xF <| gO xD <| gO xLt <| gO xM ?_;(first|iterate 5 refine Jd ?_|(refine Jy (xFa IE AE) ?_;refine Jy (xLd AE) ?_;refine Jy (xFa Qs AE) ?_;refine Jy (xLd AE) ?_;refine Jy xLt ?_));refine gO xPk <| gO xM ?_;(first|iterate 3 refine Jd ?_|(refine Jy (xFa IE AE) ?_;refine Jy (xLd AE) ?_;refine Jy xGe ?_));refine gO xPk <| gO xM ?_;(first|iterate 3 refine Jd ?_|(refine Jy (xFa Ms AE) ?_;refine Jy (xLd AE) ?_;refine Jy xLt ?_));refine gO xPk <| gO xM ?_;(first|iterate 3 refine Jd ?_|(refine Jy (xFa Ms AE) ?_;refine Jy (xLd AE) ?_;refine Jy xGt ?_));refine gO xPk ?_;exact Z9.o)|fail):p:=h ⟨k⟩
theorem Ait (k:p') (h:Hd9 p'→p:=by with_reducible first|(intro Z9;refine Tx 18 ?_;refine gO (xIr Ad (AI hz)) <| gO xD <| gO xA ?_;exact Z9.o)|(intro Z9;refine Tx 19 ?_;refine gO xM <| gO xLt <| gO xM ?_;(first|iterate 5 refine Jd ?_|(refine Jy xM1 ?_;refine Jy (xFa BO AP) ?_;refine Jy (xLd AP) ?_;refine Jy (xLn Ai) ?_;refine Jy xGe ?_));refine gO xPk ?_;exact Z9.o)|fail):p:=h ⟨k⟩
theorem AlU (h:p:=by first|exact BP rfl Al rfl (Ie h0)|exact BP rfl Al rfl (OQ (by first|rfl|omega))|exact BP rfl Al rfl (Ie (by first|assumption|omega))|exact BP rfl Al rfl rfl):p:=h
theorem IO (t:Bool) {ps:List Prt} {bs:List Bk} {os:List Int} (hl:EB ps bs os):CV prog Ah 35 [aDg t ps bs os] [aE (Bc ps bs os)]:=by
 refine cvz func35 ntmps35 ?_
 have hl1:=hl.l1
 have hl2:=hl.l2
 have hl3:=hl.l3
 by_cases hs:EW ps bs os
 case neg =>
  rw [de0 hs]
  unfold EW at hs
  by_cases c1:ps.length≤16
  case neg =>
   repeat' (with_reducible first|refine qq ?_|refine Adu ?_|(refine Tx 2 ?_;refine gO (xMi underlying109) <| gO xA ?_))
   exact EP
  by_cases c2:bs.length≤64
  case neg =>
   repeat' (with_reducible first|refine qq ?_|refine Adu ?_|(refine Tx 2 ?_;refine gO (xMi underlying109) <| gO xA ?_))
   exact EP
  have c3:¬ os.length≤16:=fun h=>hs ⟨c1,c2,h⟩
  repeat' (with_reducible first|refine qq ?_|refine Adu ?_|(refine Tx 2 ?_;refine gO (xMi underlying109) <| gO xA ?_))
  exact EP
 have hs2:=hs
 unfold EW at hs2
 obtain ⟨c1,c2,c3⟩:=hs2
 repeat' (with_reducible first|refine qq ?_|refine Adu ?_|(refine Tx 3 ?_;refine gO xF <| gO xD <| gO xN <| gO xM ?_))
 refine AQ (Bu 1) (Aq (fun n Fr H=>∃ k:Nat,k≤ps.length∧n=ps.length - k∧Ap ((ps.map EO).take k)=0∧Fr=ofL [(1,vr 0),(30,vd (DJ t ps)),(31,vi ps.length),(32,vi ((k:Nat)))]∧H=[.box 26 [.d (DJ t ps),.d (Dc t bs),.d (Bd t os)]]) (n0:=ps.length) ⟨0,ad _,rfl,rfl,rfl,rfl⟩ ?_)
 rintro n Fr H ⟨k,hk,rfl,hf,rfl,rfl⟩
 by_cases hlt:k<ps.length
 case pos =>
  obtain ⟨p,hp⟩:∃ p,ps[k]?=some p:=⟨_,gE hlt⟩
  by_cases he:EO p=0
  case neg =>
   have h3:EO p=3:=by unfold EO at he ⊢;split at he;exact absurd rfl he;rename_i hn;rw [if_neg hn]
   rw [de1 hs (pe1 hp h3 (by decide) hf) (by decide)]
   unfold EO at he
   by_cases q1 : -2147483648≤p.lo
   case neg =>
    repeat' (with_reducible first|refine qq ?_|(refine Tx 4 ?_;refine gO xLt ?_)|refine Xy ?_|(refine Tx 7 ?_;refine gO (xMi underlying109) <| gO xA ?_))
    exact EP
   by_cases q2:p.lo≤p.hi
   case neg =>
    repeat' (with_reducible first|refine qq ?_|(refine Tx 4 ?_;refine gO xLt ?_)|refine Xy ?_|(refine Tx 7 ?_;refine gO (xMi underlying109) <| gO xA ?_))
    exact EP
   by_cases q3:p.hi<2147483648
   case neg =>
    repeat' (with_reducible first|refine qq ?_|(refine Tx 4 ?_;refine gO xLt ?_)|refine Xy ?_|(refine Tx 7 ?_;refine gO (xMi underlying109) <| gO xA ?_))
    exact EP
   by_cases q4:0≤p.fr
   case neg =>
    repeat' (with_reducible first|refine qq ?_|(refine Tx 4 ?_;refine gO xLt ?_)|refine Xy ?_|(refine Tx 7 ?_;refine gO (xMi underlying109) <| gO xA ?_))
    exact EP
   have q5:¬ p.fr≤30:=fun h=>he (if_pos ⟨q1,q2,q3,q4,h⟩)
   repeat' (with_reducible first|refine qq ?_|(refine Tx 4 ?_;refine gO xLt ?_)|refine Xy ?_|(refine Tx 7 ?_;refine gO (xMi underlying109) <| gO xA ?_))
   exact EP
  have hq:=he
  unfold EO at hq
  by_cases hn : -2147483648≤p.lo∧p.lo≤p.hi∧p.hi<2147483648∧0≤p.fr∧p.fr≤30
  case neg =>
   rw [if_neg hn] at hq
   cases hq
  obtain ⟨q1,q2,q3,q4,q5⟩:=hn
  repeat' (with_reducible first|refine qq ?_|(refine Tx 4 ?_;refine gO xLt ?_)|refine Xy ?_|(refine Tx 8 ?_;refine gO xAd <| gO xM ?_))
  refine ⟨_,_,Bu 1,_,by omega,k+1,by omega,rfl,fs1 hp he hf,rfl,rfl⟩
 obtain rfl:k=ps.length:=by omega
 have hP:=hf
 rw [al (by rw [af];exact aa _)] at hP
 clear hlt hk hf
 repeat' (with_reducible first|refine qq ?_|(refine Tx 4 ?_;refine gO xLt ?_)|(refine Tx 9 ?_;refine gO xF <| gO xD <| gO xN <| gO xM ?_))
 refine AQ (Bu 1) (Aq (fun n Fr H=>∃ k:Nat,k≤bs.length∧n=bs.length - k∧Ap ((bs.map (BR ps.length bs.length)).take k)=0∧Fr=ofL [(1,vr 0),(64,vd (Dc t bs)),(65,vi bs.length),(66,vi ((k:Nat)))]∧H=[.box 26 [.d (DJ t ps),.d (Dc t bs),.d (Bd t os)]]) (n0:=bs.length) ⟨0,ad _,rfl,rfl,rfl,rfl⟩ ?_)
 rintro n Fr H ⟨k,hk,rfl,hf,rfl,rfl⟩
 by_cases hlt:k<bs.length
 case pos =>
  obtain ⟨y,hy⟩:∃ y,bs[k]?=some y:=⟨_,gE hlt⟩
  have BC:=Xx t hl y (hl.la y (gM hy))
  generalize he:BR ps.length bs.length y=e at BC
  by_cases h0:e=0
  case neg =>
   rw [de1 hs (pe2 hP hy he h0 hf) h0]
   repeat' (with_reducible first|refine qq ?_|(refine Tx 10 ?_;refine gO xLt ?_)|(refine Tx 11 ?_;refine gO (xIr Ai (Dj hy)) <| gO xL <| gN (xAl Bt) <| gZ (xSk Bi) ?_)|(refine Tx 12 ?_;refine gO xL <| gO xL <| gO (xCl func95 (BC)) <| gO xA ?_)|(refine Tx 13 ?_;refine gO xM <| gO AlU ?_)|(refine Tx 14 ?_;refine gO xM <| gO xA ?_))
   exact Ax rfl (.cons_ (Acl rfl rfl) .nil_)
  subst h0
  repeat' (with_reducible first|refine qq ?_|(refine Tx 10 ?_;refine gO xLt ?_)|(refine Tx 11 ?_;refine gO (xIr Ai (Dj hy)) <| gO xL <| gN (xAl Bt) <| gZ (xSk Bi) ?_)|(refine Tx 12 ?_;refine gO xL <| gO xL <| gO (xCl func95 (BC)) <| gO xA ?_)|(refine Tx 13 ?_;refine gO xM <| gO (xNE Al) ?_)|(refine Tx 15 ?_;refine gO xAd <| gO xM ?_))
  refine ⟨_,_,Bu 1,_,by omega,k+1,by omega,rfl,fs1 hy he hf,rfl,rfl⟩
 obtain rfl:k=bs.length:=by omega
 have hB:=hf
 rw [al (by rw [af];exact aa _)] at hB
 clear hlt hk hf
 repeat' (with_reducible first|refine qq ?_|(refine Tx 10 ?_;refine gO xLt ?_)|(refine Tx 16 ?_;refine gO xF <| gO xD <| gO xN <| gO xM ?_))
 refine AQ (Bu 1) (Aq (fun n Fr H=>∃ k:Nat,k≤os.length∧n=os.length - k∧Ap ((os.map (Mf bs.length)).take k)=0∧Fr=ofL [(1,vr 0),(78,vd (Bd t os)),(79,vi os.length),(80,vi ((k:Nat)))]∧H=[.box 26 [.d (DJ t ps),.d (Dc t bs),.d (Bd t os)]]) (n0:=os.length) ⟨0,ad _,rfl,rfl,rfl,rfl⟩ ?_)
 rintro n Fr H ⟨k,hk,rfl,hf,rfl,rfl⟩
 by_cases hlt:k<os.length
 case pos =>
  obtain ⟨z,hz⟩:∃ z,os[k]?=some z:=⟨_,gE hlt⟩
  by_cases hb:0≤z∧z<(bs.length:Int)
  case neg =>
   rw [de1 hs (pe3 hP hB hz (if_neg hb) (by decide) hf) (by decide)]
   by_cases hz0:z<0
   case pos =>
    repeat' (with_reducible first|refine qq ?_|(refine Tx 17 ?_;refine gO xLt ?_)|refine Ait ?_|(refine Tx 20 ?_;refine gO (xMi underlying109) <| gO xA ?_))
    exact EP
   repeat' (with_reducible first|refine qq ?_|(refine Tx 17 ?_;refine gO xLt ?_)|refine Ait ?_|(refine Tx 20 ?_;refine gO (xMi underlying109) <| gO xA ?_))
   exact EP
  have hb2:=hb
  obtain ⟨z0,z1⟩:=hb2
  repeat' (with_reducible first|refine qq ?_|(refine Tx 17 ?_;refine gO xLt ?_)|refine Ait ?_|(refine Tx 21 ?_;refine gO xAd <| gO xM ?_))
  refine ⟨_,_,Bu 1,_,by omega,k+1,by omega,rfl,fs1 hz (if_pos hb) hf,rfl,rfl⟩
 obtain rfl:k=os.length:=by omega
 have hO:=hf
 rw [al (by rw [af];exact aa _)] at hO
 clear hlt hk hf
 have hpe:=pe4 hP hB hO
 rw [de2 hs hpe]
 have OR:=Py t hl (Ug hB)
 repeat' (with_reducible first|refine qq ?_|(refine Tx 17 ?_;refine gO xLt ?_)|(refine Tx 22 ?_;refine gO xL <| gO (xCl func96 (OR)) <| gO xMt <| gO xEx <| gO xEx <| gO xA <| gO xA ?_)|(refine Tx 23 ?_;refine gO xM <| gO xA ?_))
 exact Ax rfl (.cons_ (Acl rfl rfl) .nil_)
theorem AlV (h:p:=by
 rw [if_neg h0]
 repeat' (with_reducible first|refine qq ?_|(refine Tx 0 ?_;refine gN xBo <| gO xA <| gO xA ?_)|(refine Tx 1 ?_;refine gO xL <| gO (xCl func35 (CK)) <| gO xA ?_)|(refine Tx 2 ?_;refine gO xM <| gO AlU ?_)|(refine Tx 3 ?_;refine gO xM <| gO xA <| gO xA ?_))
 exact Ax rfl (.cons_ (.tmp (.one (Ho rfl rfl))) (.cons_ (Acl rfl rfl) .nil_))):p:=h
theorem VW (t:Bool) {ps:List Prt} {bs:List Bk} {os:List Int} (hl:EB ps bs os):CV prog Ah 60 [aDg t ps bs os] [.one (Bd false (if Bc ps bs os=0 then BU (Dd bs) else [])),aE (Bc ps bs os)]:=by
 refine cvz func60 ntmps60 ?_
 have CK:=IO t hl
 by_cases h0:Bc ps bs os=0
 case neg =>
  exact AlV
 have OR:=Py t hl (AhE h0)
 have ho:Fo bs=0:=(Su h0).2.2
 unfold AjL at OR
 rw [ho,if_pos rfl] at OR
 rw [if_pos h0]
 rw [h0] at CK
 rw [h0]
 repeat' (with_reducible first|refine qq ?_|(refine Tx 0 ?_;refine gN xBo <| gO xA <| gO xA ?_)|(refine Tx 1 ?_;refine gO xL <| gO (xCl func35 (CK)) <| gO xA ?_)|(refine Tx 2 ?_;refine gO xM <| gO (xNE Al) ?_)|(refine Tx 4 ?_;refine gO xL <| gO (xCl func96 (OR)) <| gO xEx <| gO xEx <| gO xA <| gO xA ?_))
 exact Ax rfl (.cons_ (.tmp (.one (AX rfl fun _=>Alc _))) (.cons_ (Gl rfl rfl) .nil_))
theorem AlW (h:p:=by
 refine ⟨_,_,Ls _ 2 ?_ ?_ ?_,_,by omega,k+1,by omega,rfl,rfl,rfl⟩
 ·rfl
 ·exact mB rfl rfl
 ·exact ⟨CN rfl,Nx,trivial⟩):p:=h
theorem IP (t:Bool) {ps:List Prt} {bs:List Bk} {os:List Int} (hl:EB ps bs os):CV prog Ah 19 [aDg t ps bs os] [.one (Bd false (if Bc ps bs os=0 then BU (Bn bs) else [])),aE (Bc ps bs os)]:=by
 refine cvz func19 ntmps19 ?_
 have hl2:=hl.l2
 have hall:Bn bs=fl (Co bs) bs.length:=rfl
 have CK:=IO t hl
 by_cases h0:Bc ps bs os=0
 case neg =>
  exact AlV
 rw [if_pos h0]
 rw [h0] at CK
 rw [h0]
 repeat' (with_reducible first|refine qq ?_|(refine Tx 0 ?_;refine gN xBo <| gO xA <| gO xA ?_)|(refine Tx 1 ?_;refine gO xL <| gO (xCl func35 (CK)) <| gO xA ?_)|(refine Tx 2 ?_;refine gO xM <| gO (xNE Al) ?_)|(refine Tx 4 ?_;refine gO xA ?_))
 refine AQ (IC 5 3 1 rfl) ?_
 repeat' (with_reducible first|refine qq ?_|(refine Tx 5 ?_;refine gO xF <| gO xD <| gO xN <| gO xM ?_))
 refine AQ (Bu 2) (Aq (fun n Fr H=>∃ k:Nat,k≤bs.length∧n=bs.length - k∧Fr=ofL [(1,vr 0),(5,vo 1 ((BU (fl (Co bs) k)).length)),(14,vd (Dc t bs)),(15,vi bs.length),(16,vi ((k:Nat)))]∧H=[.box 26 [.d (DJ t ps),.d (Dc t bs),.d (Bd t os)],.row 3 1 (BU (fl (Co bs) (k))).length (cI (BU (fl (Co bs) (k))))]) (n0:=bs.length) ⟨0,ad _,rfl,rfl,rfl⟩ ?_)
 rintro n Fr H ⟨k,hk,rfl,rfl,rfl⟩
 by_cases hlt:k<bs.length
 case pos =>
  obtain ⟨y,hy⟩:∃ y,bs[k]?=some y:=⟨_,gE hlt⟩
  have hfl:=AhC (Co bs) k
  have hnl:=Cl (fl (Co bs) k)
  by_cases k2:y.kind=2
  case pos =>
   have hd:Co bs k=true:=by unfold Co;rw [Ez hy,k2];rfl
   have hap:(BU (fl (Co bs) (k)))++[(k:Int)]=(BU (fl (Co bs) (k+1))):=by rw [Zm hd,Mu]
   have hap2:(BU (fl (Co bs) (k))).length+1=(BU (fl (Co bs) (k+1))).length:=by rw [←hap,ak];rfl
   repeat' (with_reducible first|refine qq ?_|(refine Tx 6 ?_;refine gO xLt ?_)|(refine Tx 7 ?_;refine gO xM <| gO (xIr Ai (Dj hy)) <| gO xL <| gN (xAl Bt) <| gO xA <| gZ (xSk Bi) ?_)|(refine Tx 8 ?_;refine gO xF <| gO xD <| gO xEq ?_)|(refine Tx 9 ?_;refine gO xM <| gO xM <| gN (by exact Cf rfl Ad CJ rfl rfl (by decide) (by decide)) <| gT (by exact Sj rfl rfl rfl rfl rfl rfl Ad CJ (by omega) (by decide) hap hap2) <| gO xA ?_)|(refine Tx 10 ?_;refine gO xAd <| gO xM ?_))
   exact AlW
  have hd:Co bs k=false:=by unfold Co;rw [Ez hy];exact DN k2
  have hno:(BU (fl (Co bs) (k+1)))=(BU (fl (Co bs) (k))):=by rw [AhB hd]
  repeat' (with_reducible first|refine qq ?_|(refine Tx 6 ?_;refine gO xLt ?_)|(refine Tx 7 ?_;refine gO xM <| gO (xIr Ai (Dj hy)) <| gO xL <| gN (xAl Bt) <| gO xA <| gZ (xSk Bi) ?_)|(refine Tx 8 ?_;refine gO xF <| gO xD <| gO xEq ?_)|(refine Tx 10 ?_;refine gO xAd <| gO xM ?_))
  rw [←hno]
  exact AlW
 obtain rfl:k=bs.length:=by omega
 rw [hall]
 repeat' (with_reducible first|refine qq ?_|(refine Tx 6 ?_;refine gO xLt ?_)|(refine Tx 11 ?_;refine gO xM <| gO xA <| gO xA ?_))
 exact Ax rfl (.cons_ (VS rfl rfl rfl) (.cons_ (Gl rfl rfl) .nil_))
open Go.ChangeShapes Go.WideShapes Go.ChangeAt Go.Joins Go.Deep
structure Rw where
 nb:Bool
 A:Option Addr
 ws:List Nat
 cap:Nat
 den:Int
def Rw.val (r:Rw):Value:=.agg #[.bool r.nb,.slice r.A r.ws.length r.cap,.int .i64 r.den]
def rw0:Rw:=⟨false,none,[],0,0⟩
instance:Inhabited Rw:=⟨rw0⟩
structure AoW (w:World) (m:Nat) (r:Rw):Prop where
 nul:r.A=none→r.cap=0
 fit:r.ws.length≤r.cap
 at_:An w m r.A (w32 r.ws)
 ok:Ar r.ws
def vdP (r:Rw):Prop:=if r.ws.length=0 then r.nb=false∧r.den=0 else r.ws[r.ws.length - 1]?.getD 0≠0∧0≤r.den∧r.den≤65536∧(r.den=0∨r.ws[0]?.getD 0 % 2=1)
instance (r:Rw):Decidable (vdP r):=by unfold vdP;infer_instance
def vdB (r:Rw):Bool:=decide (vdP r)
def Rw.x (r:Rw):Int:=sg r.nb (Az r.ws)
def Rw.d (r:Rw):Nat:=r.den.toNat
theorem Adv {r:Rw} (h:r.ws.length=0):vdP r ↔ r.nb=false∧r.den=0:=by unfold vdP;rw [if_pos h]
theorem Aaj {r:Rw} (h:¬ r.ws.length=0):vdP r ↔ r.ws[r.ws.length - 1]?.getD 0≠0∧0≤r.den∧r.den≤65536∧(r.den=0∨r.ws[0]?.getD 0 % 2=1):=by unfold vdP;rw [if_neg h]
theorem Pz {r:Rw} (h:vdP r):vdB r=true:=decide_eq_true h
theorem Hf {r:Rw} (h:¬ vdP r):vdB r=false:=decide_eq_false h
theorem Adw {r:Rw} (hok:Ar r.ws) (h:vdB r=true):Ab (Az r.ws)=r.ws:=by
 have h:=of_decide_eq_true h
 refine OW hok fun hne=>?_
 have hl:¬ r.ws.length=0:=fun h0=>hne (cj h0)
 exact ((Aaj hl).1 h).1
theorem Aiu (r:Rw):r.x.natAbs=Az r.ws:=Hk _ _
structure Iv where
 lo:Rw
 hi:Rw
def iv0:Iv:=⟨rw0,rw0⟩
instance:Inhabited Iv:=⟨iv0⟩
def ivP (a:Iv):Prop:=vdB a.lo=true∧vdB a.hi=true∧Yf a.lo.x a.lo.d a.hi.x a.hi.d≤0
instance (a:Iv):Decidable (ivP a):=by unfold ivP;infer_instance
/- What came in. -/
set_option maxRecDepth 100000
theorem EQ (h:p:=by
  go_wp2_with fail
  all_goals first
    | (exfalso;omega)
    | (go_ret
       exact ⟨by rw [HV.out];rfl,al_ _ _⟩)):p:=h
theorem Xz (r:Rw) (m:Nat) (w:World) (hm:m≤w.heap.size) (h:AoW w m r) (hl:r.ws.length≤1000000) :
  Calls prog 123 #[r.val] w fun e w'=>e=.returned (.bool (vdB r))∧Below w.heap.size w w':=by
 have hat:=h.at_
 have hok:=h.ok
 obtain ⟨nb,A,ws,cap,den⟩:=r
 dsimp only at hat hok hl
 simp only [Rw.val]
 have key:den<0∨den=0∨(0<den∧den≤65536)∨65536<den:=by omega
 by_cases h0:ws.length=0
 ·have hp:=Adv (r:=⟨nb,A,ws,cap,den⟩) h0
  dsimp only at hp
  have hz:(ws.length:Int)=0:=by omega
  have hzb:((ws.length:Int) == 0)=true:=by rw [hz];rfl
  rw [h0] at hzb ⊢
  clear hat hok hl h hz h0
  cases nb with
  | true =>
   rcases key with k1|k1|k1|k1
   all_goals
    have HV:=li (show vdB ⟨true,A,ws,cap,den⟩=false from Hf (fun hv=>by have:=(hp.1 hv).1;cases this))
    clear hp
    go_enter func123,ntmps123
    exact EQ
  | false =>
   rcases key with k1|k1|k1|k1
   ·have d0:(den == 0)=false:=by rw [beq_eq_false_iff_ne];omega
    have HV:=li (show vdB ⟨false,A,ws,cap,den⟩=false from Hf (fun hv=>by have:=(hp.1 hv).2;omega))
    clear hp
    go_enter func123,ntmps123
    exact EQ
   ·have d0:(den == 0)=true:=by simp;omega
    have HV:=li (show vdB ⟨false,A,ws,cap,den⟩=true from Pz (hp.2 ⟨rfl,k1⟩))
    clear hp
    go_enter func123,ntmps123
    exact EQ
   ·have d0:(den == 0)=false:=by rw [beq_eq_false_iff_ne];omega
    have HV:=li (show vdB ⟨false,A,ws,cap,den⟩=false from Hf (fun hv=>by have:=(hp.1 hv).2;omega))
    clear hp
    go_enter func123,ntmps123
    exact EQ
   ·have d0:(den == 0)=false:=by rw [beq_eq_false_iff_ne];omega
    have HV:=li (show vdB ⟨false,A,ws,cap,den⟩=false from Hf (fun hv=>by have:=(hp.1 hv).2;omega))
    clear hp
    go_enter func123,ntmps123
    exact EQ
 ·have hp:=Aaj (r:=⟨nb,A,ws,cap,den⟩) h0
  dsimp only at hp
  obtain ⟨b,off,z,hA,q1,q2,hz,g1⟩:=hat.w32_ (k:=ws.length - 1) (by omega)
  subst hA
  obtain ⟨b',off',y,hA',_,_,hy,g0⟩:=hat.w32_ (k:=0) (by omega)
  cases hA'
  rw [bz] at g0
  obtain ⟨L,hL⟩:∃ L,L=ws.length - 1:=⟨_,rfl⟩
  have hlen:ws.length=L+1:=by omega
  have hl':L≤1000000:=by omega
  have e0:((L:Int)+1 == 0)=false:=by simp;omega
  rw [←hL] at g1
  rw [hz,hy] at hp
  simp only [bh] at hp
  rw [hlen]
  clear hat hok hl h hz hy hL q1 q2 h0 hlen
  by_cases hz0:z=0
  ·subst hz0
   have hzb:(((0:Nat):Int) != 0)=false:=by rfl
   rcases key with k1|k1|k1|k1
   all_goals
    have HV:=li (show vdB ⟨nb,some ⟨b,off,none⟩,ws,cap,den⟩=false from Hf (fun hv=>(hp.1 hv).1 rfl))
    clear hp
    go_enter func123,ntmps123
    exact EQ
  ·have hzb:((z:Int) != 0)=true:=by simp;omega
   rcases key with k1|k1|k1|k1
   ·have HV:=li (show vdB ⟨nb,some ⟨b,off,none⟩,ws,cap,den⟩=false from Hf (fun hv=>by have:=(hp.1 hv).2.1;omega))
    clear hp
    go_enter func123,ntmps123
    exact EQ
   ·have d0:(den == 0)=true:=by simp;omega
    have HV:=li (show vdB ⟨nb,some ⟨b,off,none⟩,ws,cap,den⟩=true from Pz (hp.2 ⟨hz0,by omega,by omega,.inl k1⟩))
    clear hp
    go_enter func123,ntmps123
    exact EQ
   ·have d0:(den == 0)=false:=by rw [beq_eq_false_iff_ne];omega
    have d1:decide (den≤65536)=true:=decide_eq_true k1.2
    have d2:decide (0≤den)=true:=decide_eq_true (by omega)
    by_cases ho:y % 2=1
    ·have hoi:(y:Int) % 2=1:=by omega
     have HV:=li (show vdB ⟨nb,some ⟨b,off,none⟩,ws,cap,den⟩=true from Pz (hp.2 ⟨hz0,by omega,k1.2,.inr ho⟩))
     clear hp
     go_enter func123,ntmps123
     exact EQ
    ·have hoi:(y:Int) % 2=0:=by omega
     have HV:=li (show vdB ⟨nb,some ⟨b,off,none⟩,ws,cap,den⟩=false from Hf (fun hv=>by have:=(hp.1 hv).2.2.2;omega))
     clear hp
     go_enter func123,ntmps123
     exact EQ
   ·have HV:=li (show vdB ⟨nb,some ⟨b,off,none⟩,ws,cap,den⟩=false from Hf (fun hv=>by have:=(hp.1 hv).2.2.1;omega))
    clear hp
    go_enter func123,ntmps123
    exact EQ
theorem XA (r:Rw) (m:Nat) (w:World) (hm:m≤w.heap.size) (h:AoW w m r) (hl:r.ws.length≤1000000) :
  Calls prog 81 #[r.val] w fun e w'=>e=.returned (.bool (vdB r))∧Below w.heap.size w w':=by
 have hat:=h.at_
 have hok:=h.ok
 obtain ⟨nb,A,ws,cap,den⟩:=r
 dsimp only at hat hok hl
 simp only [Rw.val]
 have key:den<0∨den=0∨(0<den∧den≤65536)∨65536<den:=by omega
 by_cases h0:ws.length=0
 ·have hp:=Adv (r:=⟨nb,A,ws,cap,den⟩) h0
  dsimp only at hp
  have hz:(ws.length:Int)=0:=by omega
  have hzb:((ws.length:Int) == 0)=true:=by rw [hz];rfl
  rw [h0] at hzb ⊢
  clear hat hok hl h hz h0
  cases nb with
  | true =>
   rcases key with k1|k1|k1|k1
   all_goals
    have HV:=li (show vdB ⟨true,A,ws,cap,den⟩=false from Hf (fun hv=>by have:=(hp.1 hv).1;cases this))
    clear hp
    go_enter func81,ntmps81
    exact EQ
  | false =>
   rcases key with k1|k1|k1|k1
   ·have d0:(den == 0)=false:=by rw [beq_eq_false_iff_ne];omega
    have HV:=li (show vdB ⟨false,A,ws,cap,den⟩=false from Hf (fun hv=>by have:=(hp.1 hv).2;omega))
    clear hp
    go_enter func81,ntmps81
    exact EQ
   ·have d0:(den == 0)=true:=by simp;omega
    have HV:=li (show vdB ⟨false,A,ws,cap,den⟩=true from Pz (hp.2 ⟨rfl,k1⟩))
    clear hp
    go_enter func81,ntmps81
    exact EQ
   ·have d0:(den == 0)=false:=by rw [beq_eq_false_iff_ne];omega
    have HV:=li (show vdB ⟨false,A,ws,cap,den⟩=false from Hf (fun hv=>by have:=(hp.1 hv).2;omega))
    clear hp
    go_enter func81,ntmps81
    exact EQ
   ·have d0:(den == 0)=false:=by rw [beq_eq_false_iff_ne];omega
    have HV:=li (show vdB ⟨false,A,ws,cap,den⟩=false from Hf (fun hv=>by have:=(hp.1 hv).2;omega))
    clear hp
    go_enter func81,ntmps81
    exact EQ
 ·have hp:=Aaj (r:=⟨nb,A,ws,cap,den⟩) h0
  dsimp only at hp
  obtain ⟨b,off,z,hA,q1,q2,hz,g1⟩:=hat.w32_ (k:=ws.length - 1) (by omega)
  subst hA
  obtain ⟨b',off',y,hA',_,_,hy,g0⟩:=hat.w32_ (k:=0) (by omega)
  cases hA'
  rw [bz] at g0
  obtain ⟨L,hL⟩:∃ L,L=ws.length - 1:=⟨_,rfl⟩
  have hlen:ws.length=L+1:=by omega
  have hl':L≤1000000:=by omega
  have e0:((L:Int)+1 == 0)=false:=by simp;omega
  rw [←hL] at g1
  rw [hz,hy] at hp
  simp only [bh] at hp
  rw [hlen]
  clear hat hok hl h hz hy hL q1 q2 h0 hlen
  by_cases hz0:z=0
  ·subst hz0
   have hzb:(((0:Nat):Int) != 0)=false:=by rfl
   rcases key with k1|k1|k1|k1
   all_goals
    have HV:=li (show vdB ⟨nb,some ⟨b,off,none⟩,ws,cap,den⟩=false from Hf (fun hv=>(hp.1 hv).1 rfl))
    clear hp
    go_enter func81,ntmps81
    exact EQ
  ·have hzb:((z:Int) != 0)=true:=by simp;omega
   rcases key with k1|k1|k1|k1
   ·have HV:=li (show vdB ⟨nb,some ⟨b,off,none⟩,ws,cap,den⟩=false from Hf (fun hv=>by have:=(hp.1 hv).2.1;omega))
    clear hp
    go_enter func81,ntmps81
    exact EQ
   ·have d0:(den == 0)=true:=by simp;omega
    have HV:=li (show vdB ⟨nb,some ⟨b,off,none⟩,ws,cap,den⟩=true from Pz (hp.2 ⟨hz0,by omega,by omega,.inl k1⟩))
    clear hp
    go_enter func81,ntmps81
    exact EQ
   ·have d0:(den == 0)=false:=by rw [beq_eq_false_iff_ne];omega
    have d1:decide (den≤65536)=true:=decide_eq_true k1.2
    have d2:decide (0≤den)=true:=decide_eq_true (by omega)
    by_cases ho:y % 2=1
    ·have hoi:(y:Int) % 2=1:=by omega
     have HV:=li (show vdB ⟨nb,some ⟨b,off,none⟩,ws,cap,den⟩=true from Pz (hp.2 ⟨hz0,by omega,k1.2,.inr ho⟩))
     clear hp
     go_enter func81,ntmps81
     exact EQ
    ·have hoi:(y:Int) % 2=0:=by omega
     have HV:=li (show vdB ⟨nb,some ⟨b,off,none⟩,ws,cap,den⟩=false from Hf (fun hv=>by have:=(hp.1 hv).2.2.2;omega))
     clear hp
     go_enter func81,ntmps81
     exact EQ
   ·have HV:=li (show vdB ⟨nb,some ⟨b,off,none⟩,ws,cap,den⟩=false from Hf (fun hv=>by have:=(hp.1 hv).2.2.1;omega))
    clear hp
    go_enter func81,ntmps81
    exact EQ
end Go.Proofs.YtmdfjbpggbhgnaaGreatDoor
