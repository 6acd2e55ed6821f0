/- What the proofs of this claim share, part 12. No conditions. -/
import Derived.Test.YtmdfjbpggbhgnaaGreatDoorAt11
import Derived.Test.YtmdfjbpggbhgnaaGreatDoorAt10
import Derived.Test.YtmdfjbpggbhgnaaGreatDoorAt6
set_option maxRecDepth 100000
set_option maxHeartbeats 4000000
set_option linter.all false
open Go.Proofs.Tryz
namespace Go.Proofs.YtmdfjbpggbhgnaaGreatDoor
open Go.RowKit
variable {p p':Prop}
theorem Gi {a b:Int} (h:¬ a=b):(a == b)=false:=beq_eq_false_iff_ne.2 h
theorem Ala {n e:Int} (h:¬ (n=0∧e=0)):(!(n == 0 && e == 0))=true:=by
 by_cases h1:n=0
 ·rw [Gi (fun h2=>h ⟨h1,h2⟩),Bool.and_false];rfl
 ·rw [Gi h1];rfl
theorem Acc {n e:Int} (h:DJ n e):Nf (Ad n 0 e).1 (Ad n 0 e).2∧(Aa (Ad n 0 e).1.natAbs).length≤40000:=by
 unfold DJ at h
 have sm:=Sm.shift (n:=32) (x:=n) (k:=e) (by omega) (by omega) (by omega)
 exact ⟨sm.ok,lT (sm.lenN 10 (by decide)) (by decide)⟩
theorem Aie (k:p') (h:Hd9 p'→p:=by with_reducible first|(intro Z9;refine qq ?_;exact Z9.o)|(intro Z9;refine Tx 0 ?_;refine gO xA ?_;exact Z9.o)|(intro Z9;refine Tx 1 ?_;refine gO xM ?_;exact Z9.o)|(intro Z9;refine Tx 2 ?_;refine gO xEq <| gO xA ?_;exact Z9.o)|(intro Z9;refine Tx 3 ?_;refine gO xA ?_;exact Z9.o)|(intro Z9;refine Tx 4 ?_;refine gO xEq <| gO xA ?_;exact Z9.o)|(intro Z9;refine Tx 5 ?_;refine gO xEq <| gO xA ?_;exact Z9.o)|(intro Z9;refine Tx 6 ?_;refine gO xEq <| gO xA ?_;exact Z9.o)|(intro Z9;refine Tx 7 ?_;refine gO xEq <| gO xA ?_;exact Z9.o)|(intro Z9;refine Tx 8 ?_;refine gO xEq <| gO xA ?_;exact Z9.o)|(intro Z9;refine Tx 9 ?_;refine gO xEq <| gO xA ?_;exact Z9.o)|(intro Z9;refine Tx 10 ?_;refine gO xA ?_;exact Z9.o)|(intro Z9;refine Tx 11 ?_;refine gO xEq <| gO xA ?_;exact Z9.o)|(intro Z9;refine Tx 12 ?_;refine gO xEq <| gO xA ?_;exact Z9.o)|(intro Z9;refine Tx 13 ?_;refine gO xEq <| gO xA ?_;exact Z9.o)|(intro Z9;refine Tx 14 ?_;refine gO xEq <| gO xA ?_;exact Z9.o)|(intro Z9;refine Tx 15 ?_;refine gO xEq <| gO xA ?_;exact Z9.o)|(intro Z9;refine Tx 16 ?_;refine gO xA ?_;exact Z9.o)|(intro Z9;refine Tx 17 ?_;refine gO xA ?_;exact Z9.o)|fail):p:=h ⟨k⟩
theorem XS (k:Int):CV prog Al 201 [aI k] [aI (Bp k)]:=by
 refine cvz func201 ntmps201 ?_
 have h:k=1∨k=0∨k=2∨k=5∨k=10∨k=6∨k=11∨k=3∨k=4∨k=7∨k=8∨k=9∨(k≠1∧k≠0∧k≠2∧k≠5∧k≠10∧k≠6∧k≠11∧k≠3∧k≠4∧k≠7∧k≠8∧k≠9):=by omega
 rcases h with rfl|rfl|rfl|rfl|rfl|rfl|rfl|rfl|rfl|rfl|rfl|rfl|h
 rotate_left 12
 ·have e:Bp k = -1:=by unfold Bp;rw [if_neg (by omega),if_neg (by omega),if_neg (by omega)]
  rw [e]
  repeat' (with_reducible first|refine Aie ?_)
  exact AE rfl (.cons_ (WW rfl rfl) .nil_)
 all_goals repeat' (with_reducible first|refine Aie ?_)
 all_goals exact AE rfl (.cons_ (WW rfl (by decide)) .nil_)
theorem Sj (k:p') (h:Hd9 p'→p:=by with_reducible first|(intro Z9;refine qq ?_;exact Z9.o)|(intro Z9;refine Tx 0 ?_;refine gN xBo <| gO xA ?_;exact Z9.o)|(intro Z9;refine Tx 1 ?_;refine gO xM <| gO (by first|exact xNt|exact xNg) ?_;exact Z9.o)|fail):p:=h ⟨k⟩
theorem XT (k:p') (h:Hd9 p'→p:=by with_reducible first|(intro Z9;refine Tx 5 ?_;refine gO xF <| gO xD <| gO xLe <| gO xM ?_;(first|iterate 3 refine Jd ?_|(refine Jy (xFa Hx AQ) ?_;refine Jy (xLd AQ) ?_;refine Jy xGe ?_));refine gO xPk <| gO xM ?_;(first|iterate 3 refine Jd ?_|(refine Jy (xFa Es AQ) ?_;refine Jy (xLd AQ) ?_;refine Jy xLt ?_));refine gO xPk <| gO xM ?_;(first|iterate 3 refine Jd ?_|(refine Jy (xFa Es AQ) ?_;refine Jy (xLd AQ) ?_;refine Jy xGt ?_));refine gO xPk ?_;exact Z9.o)|fail):p:=h ⟨k⟩
theorem Ea (h:p:=by
 exact AE rfl (.cons_ (Aah rfl (by decide) (rfl)) .nil_)):p:=h
theorem NW (n e:Int) (used:Bool):CV prog Al 202 [.agg [dI n,dI e],aB used] [aE (CN n e used)]:=by
 refine cvz func202 ntmps202 ?_
 cases used
 case false =>
  unfold CN
  rw [if_neg (by decide)]
  by_cases h1:n=0∧e=0
  case pos =>
   rw [if_pos h1]
   obtain ⟨rfl,rfl⟩:=h1
   repeat' (with_reducible first|refine Sj ?_|(refine Tx 2 ?_;refine gO xL <| gO (by exact AU rfl LZ rfl rfl) <| gO (by first|exact Xt rfl rfl rfl (rfl)|exact xNe) ?_)|(refine Tx 4 ?_;refine gO xA ?_))
   exact AE rfl (.cons_ (Fg rfl (rfl)) .nil_)
  case neg =>
   rw [if_neg h1]
   repeat' (with_reducible first|refine Sj ?_|(refine Tx 2 ?_;refine gO xL <| gO (by exact AU rfl LZ rfl rfl) <| gO (by first|exact Xt rfl rfl rfl (Ala h1)|exact xNe) ?_)|(refine Tx 3 ?_;refine gO (xMi underlying109) <| gO xA ?_))
   exact Ea
 case true =>
  unfold CN
  rw [if_pos rfl]
  by_cases c1 : -2147483648<n
  case neg =>
   rw [if_neg (fun h:DJ n e=>c1 h.1)]
   repeat' (with_reducible first|refine Sj ?_|refine XT ?_|(refine Tx 6 ?_;refine gO (xMi underlying109) <| gO xA ?_))
   exact Ea
  by_cases c2:n<2147483648
  case neg =>
   rw [if_neg (fun h:DJ n e=>c2 h.2.1)]
   repeat' (with_reducible first|refine Sj ?_|refine XT ?_|(refine Tx 6 ?_;refine gO (xMi underlying109) <| gO xA ?_))
   exact Ea
  by_cases c3 : -62≤e
  case neg =>
   rw [if_neg (fun h:DJ n e=>c3 h.2.2.1)]
   repeat' (with_reducible first|refine Sj ?_|refine XT ?_|(refine Tx 6 ?_;refine gO (xMi underlying109) <| gO xA ?_))
   exact Ea
  by_cases c4:e≤30
  case neg =>
   rw [if_neg (fun h:DJ n e=>c4 h.2.2.2)]
   repeat' (with_reducible first|refine Sj ?_|refine XT ?_|(refine Tx 6 ?_;refine gO (xMi underlying109) <| gO xA ?_))
   exact Ea
  rw [if_pos (show DJ n e from ⟨c1,c2,c3,c4⟩)]
  repeat' (with_reducible first|refine Sj ?_|refine XT ?_|(refine Tx 7 ?_;refine gO xA ?_))
  exact AE rfl (.cons_ (Fg rfl (rfl)) .nil_)
theorem NX (n e:Int) (h:DJ n e):CV prog Al 203 [.agg [dI n,dI e]] [aDy false (Ad n 0 e).1 (Ad n 0 e).2]:=by
 refine cvz func203 ntmps203 ?_
 have OF:=Em n (by unfold DJ at h;omega) (by unfold DJ at h;omega)
 have SH:=Bo n 0 e ⟨by decide,fun h=>absurd rfl h⟩ (lT (Az (k:=2) (by unfold DJ at h;omega)) (by decide)) (by unfold DJ at h;omega)
 repeat' (with_reducible first|refine qq ?_|(refine Tx 0 ?_;refine gN xBo <| gN (xAl Am) ?_)|(refine AM (id:=1) 6 Bb (by kernel_rfl) ?_;dsimp only [List.take,List.drop];refine gP xF <| gP xD <| gP (xCl func68 (OF)) <| gP xF <| gP xD <| gP (xCl func21 (SH)) ?_;refine Ke ?_;refine gZ (xSk Ab) ?_))
 exact AE rfl (.cons_ (rvW Ab rfl) .nil_)
theorem Aay (k:p') (h:Hd9 p'→p:=by with_reducible first|(intro Z9;refine Tx 0 ?_;refine gN xBo <| gN xBo <| gO xA ?_;exact Z9.o)|(intro Z9;refine Tx 1 ?_;refine gO xF <| gO xD <| gO (xCl func201 (AR)) <| gO xA ?_;exact Z9.o)|(intro Z9;refine Tx 2 ?_;refine gO xM <| gO xLt ?_;exact Z9.o)|fail):p:=h ⟨k⟩
theorem Aif (k:p') (h:Hd9 p'→p:=by with_reducible first|(intro Z9;refine Tx 6 ?_;refine gO xF <| gO xD <| gO xN <| gO xA ?_;exact Z9.o)|(intro Z9;refine Tx 7 ?_;refine gO xF <| gO xD <| gO xEq ?_;exact Z9.o)|(intro Z9;refine Tx 9 ?_;refine gO xF <| gO xD <| gO xN <| gO xM ?_;exact Z9.o)|fail):p:=h ⟨k⟩
theorem Mk (k:p') (h:Hd9 p'→p:=by with_reducible first|(intro Z9;refine Tx 10 ?_;refine gO xLt ?_;exact Z9.o)|fail):p:=h ⟨k⟩
theorem XU (k:p') (h:Hd9 p'→p:=by with_reducible first|(intro Z9;refine Tx 11 ?_;refine gO (xIr Ae (AY hz)) <| gO xD <| gO xA ?_;exact Z9.o)|(intro Z9;refine Tx 12 ?_;refine gO xM <| gO xLt <| gO xM ?_;(first|iterate 3 refine Jd ?_|(refine Jy xM1 ?_;refine Jy xM1 ?_;refine Jy xGe ?_));refine gO xPk ?_;exact Z9.o)|fail):p:=h ⟨k⟩
theorem Aig (h:p:=by first|exact xCl func202 (SV)|exact xCl func202 (SU)):p:=h
theorem Va (k:p') (h:Hd9 p'→p:=by with_reducible first|(intro Z9;refine Tx 15 ?_;refine gO xF <| gO xD <| gO xEq <| gO xA ?_;exact Z9.o)|(intro Z9;refine Tx 16 ?_;refine gO xF <| gO xL <| gO xM <| gO xM ?_;(first|iterate 3 refine Jd ?_|(refine Jy (xFa Dq AQ) ?_;refine Jy (xLd AQ) ?_;refine Jy xEq ?_));refine gO xPk <| gO xM ?_;(first|iterate 3 refine Jd ?_|(refine Jy (xFa Dq AQ) ?_;refine Jy (xLd AQ) ?_;refine Jy xEq ?_));refine gO xPk <| gO xM ?_;(first|iterate 3 refine Jd ?_|(refine Jy (xFa Dq AQ) ?_;refine Jy (xLd AQ) ?_;refine Jy xEq ?_));refine gO xPk <| gO Aig <| gO xA ?_;exact Z9.o)|fail):p:=h ⟨k⟩
theorem Aih (h:p:=by first|assumption|omega):p:=h
theorem Aii (h:p:=by first|rfl|omega):p:=h
theorem Alb (k:p') (h:Hd9 p'→p:=by with_reducible first|(intro Z9;refine Tx 17 ?_;refine gO xM <| gO (by first|exact Bh rfl Ai rfl (Fp h4)|exact Bh rfl Ai rfl (Mc Aii)|exact Bh rfl Ai rfl (Fp Aih)|exact Bh rfl Ai rfl rfl) ?_;exact Z9.o)|(intro Z9;refine Tx 18 ?_;refine gO xM <| gO xA ?_;exact Z9.o)|fail):p:=h ⟨k⟩
theorem XV (k:p') (h:Hd9 p'→p:=by with_reducible first|(intro Z9;refine Tx 17 ?_;refine gO xM <| gO (xNE Ai) ?_;exact Z9.o)|(intro Z9;refine Tx 19 ?_;refine gO xF <| gO xL <| gO xM <| gO Aig <| gO xA ?_;exact Z9.o)|fail):p:=h ⟨k⟩
theorem Aij (k:p') (h:Hd9 p'→p:=by with_reducible first|(intro Z9;refine Tx 20 ?_;refine gO xM <| gO (by first|exact Bh rfl Ai rfl (Fp h5)|exact Bh rfl Ai rfl (Mc Aii)|exact Bh rfl Ai rfl (Fp Aih)|exact Bh rfl Ai rfl rfl) ?_;exact Z9.o)|(intro Z9;refine Tx 21 ?_;refine gO xM <| gO xA ?_;exact Z9.o)|fail):p:=h ⟨k⟩
theorem Alc (k:p') (h:Hd9 p'→p:=by with_reducible first|(intro Z9;refine Cj (id:=22) Bb (by kernel_rfl) ?_;refine gP xM <| gP xM ?_;(first|iterate 2 refine Kd ?_|(refine Ky (xFa Fm Bg) ?_;refine Ky (xLa Bg) ?_));refine Kd ?_;(first|iterate 2 refine Kd ?_|(refine Ky (xFa Fo Bg) ?_;refine Ky (xLa Bg) ?_));refine Kd ?_;refine Kd ?_;(first|refine Kd ?_|refine Ky xGt ?_);refine gP xPk ?_;refine Ke ?_;exact Z9.o)|fail):p:=h ⟨k⟩
theorem Aik (h:p:=by first|exact xCl func203 (V1)|exact xCl func203 (V2)):p:=h
theorem Ail (k:p') (h:Hd9 p'→p:=by with_reducible first|(intro Z9;refine Cj (id:=22) Bb (by kernel_rfl) ?_;refine gP xM <| gP xM ?_;(first|iterate 8 refine Kd ?_|(refine Ky (xFa Fm Bg) ?_;refine Ky (xLa Bg) ?_;refine Ky Aik ?_;refine Ky (xFa Fo Bg) ?_;refine Ky (xLa Bg) ?_;refine Ky Aik ?_;refine Ky (xCl func15 (CM)) ?_;refine Ky xGt ?_));refine gP xPk ?_;refine Ke ?_;exact Z9.o)|fail):p:=h ⟨k⟩
theorem XW (h:p:=by
 rw [h4] at SV
 by_cases h5:CN y.un y.ue false=0
 case neg =>
  rw [be5 h1 h2 hM hf hv h4 hc h5]
  repeat' (with_reducible first|refine qq ?_|refine Mk ?_|refine Va ?_|refine XV ?_|refine Aij ?_)
  exact AE rfl (.cons_ (ZB rfl rfl) .nil_)
 rw [h5] at SU
 rw [be7 h1 h2 hM hf hv h4 hc h5 (fun h=>by cases h.1)]
 repeat' (with_reducible first|refine qq ?_|refine Mk ?_|refine Va ?_|refine XV ?_|(refine Tx 20 ?_;refine gO xM <| gO (xNE Ai) ?_)|refine Alc ?_|(refine Tx 24 ?_;refine gO xA ?_))
 exact AE rfl (.cons_ (Fg rfl (rfl)) .nil_)):p:=h
theorem Vb (h:p:=by
 rw [be4 h1 h2 hM hf hv h4]
 repeat' (with_reducible first|refine qq ?_|refine Mk ?_|refine Va ?_|refine Alb ?_)
 exact AE rfl (.cons_ (ZB rfl rfl) .nil_)):p:=h
theorem Aim (h:p:=by
 obtain ⟨z0,z1⟩:=hb
 repeat' (with_reducible first|refine qq ?_|refine Mk ?_|refine XU ?_|(refine Tx 14 ?_;refine gO xAd <| gO xM ?_))
 refine ⟨_,_,OM _ 2 ?_ ?_ ?_,_,by omega,k+1,by omega,rfl,Aaf hz ⟨z0,z1⟩ hf,rfl,rfl⟩
 ·rfl
 ·exact mB rfl rfl
 ·exact ⟨Dd rfl,Dd rfl,trivial⟩):p:=h
theorem Vc (t:Bool) {ps:List Prt} {bs:List Bk} {os:List Int} (hl:Ff ps bs os) (y:Bk) (hyl:y.args.length≤1000000):CV prog Al 95 [aDg t ps bs os,.agg (dBk t y)] [aE (BK ps.length bs.length y)]:=by
 refine cvz func95 ntmps95 ?_
 have AR:=XS y.kind
 have SV:=NW y.vn y.ve (PC y.kind)
 have SU:=NW y.un y.ue (IM y.kind)
 have hl1:=hl.l1
 have hl2:=hl.l2
 by_cases h1:Bp y.kind<0
 case pos =>
  rw [be1 h1]
  repeat' (with_reducible first|refine qq ?_|refine Aay ?_|(refine Tx 3 ?_;refine gO (xMi underlying109) <| gO xA ?_))
  exact Ea
 by_cases h2:((y.args.length:Nat):Int)=Bp y.kind
 case neg =>
  rw [be2 h1 h2]
  repeat' (with_reducible first|refine qq ?_|refine Aay ?_|(refine Tx 4 ?_;refine gO xF <| gO xD <| gO xN <| gO xM <| gO xNe ?_)|(refine Tx 5 ?_;refine gO (xMi underlying109) <| gO xA ?_))
  exact Ea
 have hA2:y.args.length≤2:=by unfold Bp at h2;(repeat' split at h2) <;> omega
 by_cases k0:y.kind=0
 case pos =>
  have hM:DU ps.length bs.length y.kind=ps.length:=if_pos k0
  repeat' (with_reducible first|refine qq ?_|refine Aay ?_|(refine Tx 4 ?_;refine gO xF <| gO xD <| gO xN <| gO xM <| gO xNe ?_)|refine Aif ?_|(refine Tx 8 ?_;refine gO xF <| gO xD <| gO xN <| gO xA ?_))
  refine Bm (Cb 2) (Aw (fun n Fr H=>∃ k:Nat,k≤y.args.length∧n=y.args.length - k∧Ap ((y.args.map (MS ps.length)).take k)=0∧Fr=ofL [(2,vr 0),(3,vr 1),(6,vi ps.length),(34,vd (Bw t y.args)),(35,vi y.args.length),(36,vi ((k:Nat)))]∧H=[.box 26 [.d (EP t ps),.d (Ee t bs),.d (Bw t os)],.box 63 [.d (.val (.int .i64 y.kind)),.d (Bw t y.args),.d (.val (.int .i64 y.vn)),.d (.val (.int .i64 y.ve)),.d (.val (.int .i64 y.un)),.d (.val (.int .i64 y.ue))]]) (n0:=y.args.length) ⟨0,ad _,rfl,rfl,rfl,rfl⟩ ?_)
  rintro n Fr H ⟨k,hk,rfl,hf,rfl,rfl⟩
  by_cases hlt:k<y.args.length
  case pos =>
   obtain ⟨z,hz⟩:∃ z,y.args[k]?=some z:=⟨_,gE hlt⟩
   by_cases hb:0≤z∧z<((ps.length:Nat):Int)
   case neg =>
    rw [be3 h1 h2 hM (Xl hz hb hf)]
    by_cases hz0:z<0
    case pos =>
     repeat' (with_reducible first|refine qq ?_|refine Mk ?_|refine XU ?_|(refine Tx 13 ?_;refine gO (xMi underlying109) <| gO xA ?_))
     exact Ea
    repeat' (with_reducible first|refine qq ?_|refine Mk ?_|refine XU ?_|(refine Tx 13 ?_;refine gO (xMi underlying109) <| gO xA ?_))
    exact Ea
   exact Aim
  obtain rfl:k=y.args.length:=by omega
  rw [ap (by rw [af];exact aa _)] at hf
  clear hlt hk
  generalize hv:PC y.kind=vu at SV
  generalize hc:IM y.kind=cu at SU
  have hv1:vu=false:=by rw [←hv,k0];rfl
  have hc1:cu=false:=by rw [←hc,k0];rfl
  subst hv1 hc1
  by_cases h4:CN y.vn y.ve false=0
  case neg =>
   exact Vb
  exact XW
 case neg =>
  have hM:DU ps.length bs.length y.kind=bs.length:=if_neg k0
  repeat' (with_reducible first|refine qq ?_|refine Aay ?_|(refine Tx 4 ?_;refine gO xF <| gO xD <| gO xN <| gO xM <| gO xNe ?_)|refine Aif ?_)
  refine Bm (Cb 2) (Aw (fun n Fr H=>∃ k:Nat,k≤y.args.length∧n=y.args.length - k∧Ap ((y.args.map (MS bs.length)).take k)=0∧Fr=ofL [(2,vr 0),(3,vr 1),(6,vi bs.length),(34,vd (Bw t y.args)),(35,vi y.args.length),(36,vi ((k:Nat)))]∧H=[.box 26 [.d (EP t ps),.d (Ee t bs),.d (Bw t os)],.box 63 [.d (.val (.int .i64 y.kind)),.d (Bw t y.args),.d (.val (.int .i64 y.vn)),.d (.val (.int .i64 y.ve)),.d (.val (.int .i64 y.un)),.d (.val (.int .i64 y.ue))]]) (n0:=y.args.length) ⟨0,ad _,rfl,rfl,rfl,rfl⟩ ?_)
  rintro n Fr H ⟨k,hk,rfl,hf,rfl,rfl⟩
  by_cases hlt:k<y.args.length
  case pos =>
   obtain ⟨z,hz⟩:∃ z,y.args[k]?=some z:=⟨_,gE hlt⟩
   by_cases hb:0≤z∧z<((bs.length:Nat):Int)
   case neg =>
    rw [be3 h1 h2 hM (Xl hz hb hf)]
    by_cases hz0:z<0
    case pos =>
     repeat' (with_reducible first|refine qq ?_|refine Mk ?_|refine XU ?_|(refine Tx 13 ?_;refine gO (xMi underlying109) <| gO xA ?_))
     exact Ea
    repeat' (with_reducible first|refine qq ?_|refine Mk ?_|refine XU ?_|(refine Tx 13 ?_;refine gO (xMi underlying109) <| gO xA ?_))
    exact Ea
   exact Aim
  obtain rfl:k=y.args.length:=by omega
  rw [ap (by rw [af];exact aa _)] at hf
  clear hlt hk
  generalize hv:PC y.kind=vu at SV
  generalize hc:IM y.kind=cu at SU
  by_cases k11:y.kind=11
  case pos =>
   have hv1:vu=true:=by rw [←hv,k11];rfl
   have hc1:cu=true:=by rw [←hc,k11];rfl
   subst hv1 hc1
   by_cases h4:CN y.vn y.ve true=0
   case neg =>
    exact Vb
   rw [h4] at SV
   by_cases h5:CN y.un y.ue true=0
   case neg =>
    rw [be5 h1 h2 hM hf hv h4 hc h5]
    repeat' (with_reducible first|refine qq ?_|refine Mk ?_|refine Va ?_|refine XV ?_|refine Aij ?_)
    exact AE rfl (.cons_ (ZB rfl rfl) .nil_)
   rw [h5] at SU
   have o1:=RZ h4
   have o2:=RZ h5
   have V1:=NX y.vn y.ve o1
   have V2:=NX y.un y.ue o2
   have s1:=Acc o1
   have s2:=Acc o2
   have CM:=BJ (Ad y.vn 0 y.ve).1 (Ad y.vn 0 y.ve).2 (Ad y.un 0 y.ue).1 (Ad y.un 0 y.ue).2 s1.1 s2.1 s1.2 s2.2
   have hpc:=AdL o1 o2
   have hpc:Bx (Ad y.vn 0 y.ve).1 (Ad y.vn 0 y.ve).2 (Ad y.un 0 y.ue).1 (Ad y.un 0 y.ue).2=Qs y.vn y.ve y.un y.ue:=(XP _ _ _ _).trans hpc
   rw [hpc] at CM
   generalize hq:Qs y.vn y.ve y.un y.ue=q at CM
   by_cases h6:0<q
   case pos =>
    rw [be6 h1 h2 hM hf hv h4 hc h5 ⟨rfl,by rw [hq];exact h6⟩]
    repeat' (with_reducible first|refine qq ?_|refine Mk ?_|refine Va ?_|refine XV ?_|(refine Tx 20 ?_;refine gO xM <| gO (xNE Ai) ?_)|refine Ail ?_|(refine Tx 23 ?_;refine gO (xMi underlying109) <| gO xA ?_))
    exact Ea
   rw [be7 h1 h2 hM hf hv h4 hc h5 (fun h=>h6 (by rw [←hq];exact h.2))]
   repeat' (with_reducible first|refine qq ?_|refine Mk ?_|refine Va ?_|refine XV ?_|(refine Tx 20 ?_;refine gO xM <| gO (xNE Ai) ?_)|refine Ail ?_|(refine Tx 24 ?_;refine gO xA ?_))
   exact AE rfl (.cons_ (Fg rfl (rfl)) .nil_)
  have hc1:cu=false:=by rw [←hc];exact Gi k11
  subst hc1
  by_cases kv:y.kind=1∨y.kind=2∨y.kind=6
  case pos =>
   have hv1:vu=true:=by rw [←hv];rcases kv with h|h|h <;> (rw [h];rfl)
   subst hv1
   rcases kv with kv|kv|kv
   ·
    by_cases h4:CN y.vn y.ve true=0
    case neg =>
     exact Vb
    exact XW
   ·
    by_cases h4:CN y.vn y.ve true=0
    case neg =>
     exact Vb
    exact XW
   ·
    by_cases h4:CN y.vn y.ve true=0
    case neg =>
     exact Vb
    exact XW
  have hv1:vu=false:=by rw [←hv];unfold PC;rw [Gi k11,Gi (by omega),Gi (by omega),Gi (by omega)];rfl
  subst hv1
  by_cases h4:CN y.vn y.ve false=0
  case neg =>
   exact Vb
  exact XW
theorem AeD (k:p') (h:Hd9 p'→p:=by with_reducible first|(intro Z9;refine qq ?_;exact Z9.o)|(intro Z9;refine Tx 0 ?_;refine gN xBo <| gO xA ?_;exact Z9.o)|(intro Z9;refine Tx 1 ?_;refine gO xF <| gO xD <| gO xM <| gO (xIr Ak (El hy)) <| gO xF <| gO xD ?_;exact Z9.o)|(intro Z9;refine Tx 2 ?_;refine gO xEq <| gO xA ?_;exact Z9.o)|(intro Z9;refine Tx 3 ?_;refine gO xEq <| gO xA ?_;exact Z9.o)|(intro Z9;refine Tx 4 ?_;refine gO xA ?_;exact Z9.o)|(intro Z9;refine Tx 5 ?_;refine gO xF <| gO xD <| gO xM <| gO (xIr Ak (El hy)) <| gO xF <| gO xD <| gO xA ?_;exact Z9.o)|fail):p:=h ⟨k⟩
theorem Sk (t:Bool) {ps:List Prt} {bs:List Bk} {os:List Int} (hl:Ff ps bs os) {i:Nat} {y:Bk} (hy:bs[i]?=some y):CVB prog Al 129 [aDg t ps bs os,aI (i:Int)] (Bw t (Qr bs false i)):=by
 refine AhB Qw func129 ntmps129 (bi rfl) rfl ?_
 have hl2:=hl.l2
 have hil:=(gS.1 hy).1
 rw [TK hy]
 by_cases k2:y.kind=2
 case pos =>
  rw [if_pos ⟨k2,rfl⟩]
  repeat' (with_reducible first|refine AeD ?_)
  exact ⟨.inl rfl,_,_,results129,rfl,TT⟩
 rw [if_neg (fun h=>k2 h.1)]
 by_cases k0:y.kind=0
 case pos =>
  rw [if_pos k0]
  repeat' (with_reducible first|refine AeD ?_)
  exact ⟨.inl rfl,_,_,results129,rfl,TT⟩
 rw [if_neg k0]
 repeat' (with_reducible first|refine AeD ?_)
 exact ⟨.inl rfl,_,_,results129,rfl,fun _ _ _ h=>h⟩
theorem AeE (k:p') (h:Hd9 p'→p:=by with_reducible first|(intro Z9;refine Tx 16 ?_;refine gO xM <| gO xA ?_;exact Z9.o)|(intro Z9;refine Tx 17 ?_;refine gO xM <| gO xM <| gO (xIo (i:=k) DR) <| gO (by first|exact Xr rfl rfl rfl hg Ej|exact xLd Ej) <| gO (by first|exact xNt|exact xNg) <| gO xM ?_;(first|iterate 2 refine Jd ?_|(refine Jy xM1 ?_;refine Jy xLt ?_));refine gO xPk <| gO xA ?_;exact Z9.o)|(intro Z9;refine Tx 18 ?_;refine gO xL <| gO xM <| gO (xCb func129 BF) <| gO xN <| gO xM ?_;exact Z9.o)|fail):p:=h ⟨k⟩
theorem Ain (k:p') (h:Hd9 p'→p:=by with_reducible first|(intro Z9;refine Tx 20 ?_;refine gO (xIr Ae (AY hz)) <| gO xD <| gO xA ?_;exact Z9.o)|(intro Z9;refine Tx 21 ?_;refine gO xM <| gO xM ?_;(first|iterate 4 refine Jd ?_|(refine Jy xM1 ?_;refine Jy xM1 ?_;refine Jy (by exact NL (i:=z.toNat) rfl rfl rfl rfl (by omega) DR (by omega) (by decide)) ?_;refine Jy (by first|exact Xr rfl rfl rfl hgz Ej|exact xLd Ej) ?_));refine gO xPk <| gO xA ?_;exact Z9.o)|(intro Z9;refine Tx 22 ?_;refine gO xAd <| gO xM ?_;exact Z9.o)|fail):p:=h ⟨k⟩
theorem Aio (k:p') (h:Hd9 p'→p:=by with_reducible first|(intro Z9;refine Tx 23 ?_;refine gO xM ?_;exact Z9.o)|(intro Z9;refine Tx 25 ?_;refine gO xAd <| gO xM ?_;exact Z9.o)|fail):p:=h ⟨k⟩
theorem AeF (h:p:=by
 clear hd
 refine Bm (F':=ofL [(1,vr 0),(4,vo 1 ((Cu out).length)),(5,vo 2 bs.length),(6,vi lf),(9,vi pk),(10,vi ((k:Nat))),(11,vd (.val (.bool b0))),(40,vd (Ee t bs)),(41,vi bs.length),(42,vi ((k:Nat))),(56,vd (Bw t xs)),(57,vi xs.length),(58,vi ((0:Nat)))]) (H':=[.box 26 [.d (EP t ps),.d (Ee t bs),.d (Bw t os)],.row 3 1 (Cu out).length (cI (Cu out)),.row 4 1 bs.length (cBl (Ev bs out))]) (Cb 3 (h:=by rw [←hb0];exact mB rfl rfl)) ?_
 clear hb0
 refine Aw (fun n Fr H=>∃ (u:Nat) (b:Bool),u≤xs.length∧n=xs.length - u∧b=(b0 && Agi bs out xs u)∧Fr=ofL [(1,vr 0),(4,vo 1 ((Cu out).length)),(5,vo 2 bs.length),(6,vi lf),(9,vi pk),(10,vi ((k:Nat))),(11,vd (.val (.bool b))),(40,vd (Ee t bs)),(41,vi bs.length),(42,vi ((k:Nat))),(56,vd (Bw t xs)),(57,vi xs.length),(58,vi ((u:Nat)))]∧H=[.box 26 [.d (EP t ps),.d (Ee t bs),.d (Bw t os)],.row 3 1 (Cu out).length (cI (Cu out)),.row 4 1 bs.length (cBl (Ev bs out))]) (n0:=xs.length) ⟨0,b0,ad _,rfl,(Bool.and_true _).symm,rfl,rfl⟩ ?_
 rintro n Fr H ⟨u,b,hu,rfl,hb,rfl,rfl⟩
 by_cases hlu:u<xs.length
 case pos =>
  obtain ⟨z,hz⟩:∃ z,xs[u]?=some z:=⟨_,gE hlu⟩
  obtain ⟨z0,z1⟩:=hbd z (gM hz)
  have hgz:(Ev bs out)[z.toNat]?=some (Ek bs out z.toNat):=(by unfold Ev;rw [ag,jm (by omega)];rfl)
  have hst:=Xd (bs:=bs) (out:=out) hz
  cases b
  case false =>
   repeat' (with_reducible first|refine qq ?_|(refine Tx 19 ?_;refine gO xLt ?_)|refine Ain ?_)
   refine ⟨_,_,Cb 3,_,by omega,u+1,_,by omega,rfl,by rw [hst,←Bool.and_assoc,←hb];try rfl,rfl,rfl⟩
  repeat' (with_reducible first|refine qq ?_|(refine Tx 19 ?_;refine gO xLt ?_)|refine Ain ?_)
  refine ⟨_,_,Cb 3,_,by omega,u+1,_,by omega,rfl,by rw [hst,←Bool.and_assoc,←hb];try rfl,rfl,rfl⟩
 obtain rfl:u=xs.length:=by omega
 rw [Aad (aa _)] at hb
 have hf2:=hfin b hb
 cases b
 case false =>
  repeat' (with_reducible first|refine qq ?_|(refine Tx 19 ?_;refine gO xLt ?_)|refine Aio ?_)
  refine ⟨_,_,Cb 3,_,by omega,k+1,pk,by omega,rfl,hf2.symm,rfl,rfl⟩
 repeat' (with_reducible first|refine qq ?_|(refine Tx 19 ?_;refine gO xLt ?_)|refine Aio ?_|(refine Tx 24 ?_;refine gO xM <| gO xA ?_))
 refine ⟨_,_,OM _ 3 ?_ ?_ ?_,_,by omega,k+1,(k:Int),by omega,rfl,hf2.symm,rfl,rfl⟩
 ·rfl
 ·exact mB rfl rfl
 ·exact ⟨Dd rfl,TF,Xp,trivial⟩):p:=h
theorem Aip (h:p:=by first|exact AdR rfl rfl rfl rfl Ej tl stV|exact xS1 Ej|exact xSk Ej):p:=h
theorem NY (t:Bool) {ps:List Prt} {bs:List Bk} {os:List Int} (hl:Ff ps bs os) (hS:Xb bs):CV prog Al 96 [aDg t ps bs os] [.one (Bw false (Agj bs)),aE (EU bs)]:=by
 refine cvz func96 ntmps96 ?_
 have hl2:=hl.l2
 repeat' (with_reducible first|refine qq ?_|(refine Tx 0 ?_;refine gN xBo <| gO xA <| gO xA ?_)|(refine Tx 1 ?_;refine gO xA ?_))
 refine Bm (NF 4 3 1 rfl) ?_
 repeat' (with_reducible first|refine qq ?_|(refine Tx 2 ?_;refine gO xF <| gO xD <| gO xN <| gN (by first|exact Xq (n:=bs.length) rfl rfl rfl DR WV (by omega) (by decide)|exact Bi rfl rfl rfl DR WV (by omega) (by decide)) <| gO xA ?_)|(refine Tx 3 ?_;refine gO xA ?_)|(refine Tx 4 ?_;refine gO xF <| gO xD <| gO xN <| gO xM ?_))
 rw [←UR]
 refine Bm (Cb 3) (Aw (fun n Fr H=>∃ (k:Nat) (lf:Int),k≤bs.length∧n=bs.length - k∧lf=((fl (Mh bs) k).length:Nat)∧Fr=ofL [(1,vr 0),(4,vo 1 ((Cu []).length)),(5,vo 2 bs.length),(6,vi lf),(19,vd (Ee t bs)),(20,vi bs.length),(21,vi ((k:Nat)))]∧H=[.box 26 [.d (EP t ps),.d (Ee t bs),.d (Bw t os)],.row 3 1 (Cu []).length (cI (Cu [])),.row 4 1 bs.length (cBl (Fe bs k))]) (n0:=bs.length) ⟨0,0,ad _,rfl,rfl,rfl,rfl⟩ ?_)
 rintro n Fr H ⟨k,lf,hk,rfl,hlf,rfl,rfl⟩
 by_cases hlt:k<bs.length
 case pos =>
  obtain ⟨y,hy⟩:∃ y,bs[k]?=some y:=⟨_,gE hlt⟩
  have tl:k<(Fe bs k).length:=by rw [Qu];exact hlt
  have hfl:=Ahu (Mh bs) k
  by_cases k2:y.kind=2
  case pos =>
   have hd:DG bs k=true:=by unfold DG;rw [Fw hy,k2];rfl
   have hn:Mh bs k=false:=by unfold Mh;rw [Fw hy,k2];rfl
   have stV:=Xg hd
   repeat' (with_reducible first|refine qq ?_|(refine Tx 5 ?_;refine gO xLt ?_)|(refine Tx 6 ?_;refine gO xM <| gO (by first|exact xIr Ak (El hy)|exact xIo (i:=k) Ak) <| gO xL <| gN (xAl BP) <| gO xA <| gZ (xSk BE) ?_)|(refine Tx 7 ?_;refine gO xF <| gO xD <| gO xEq ?_)|(refine Tx 8 ?_;refine gO xM <| gO xM <| gO (xIo (i:=k) DR) <| gZ Aip ?_)|(refine Tx 10 ?_;refine gO xAd <| gO xM ?_))
   refine ⟨_,_,Cb 3,_,by omega,k+1,lf,by omega,rfl,by rw [Aht hn];exact hlf,rfl,rfl⟩
  have hd:DG bs k=false:=by unfold DG;rw [Fw hy];exact Gi k2
  have hn:Mh bs k=true:=by unfold Mh;rw [Fw hy,bne,Gi k2];rfl
  have hdn:=Aae hd
  repeat' (with_reducible first|refine qq ?_|(refine Tx 5 ?_;refine gO xLt ?_)|(refine Tx 6 ?_;refine gO xM <| gO (xIr Ak (El hy)) <| gO xL <| gN (xAl BP) <| gO xA <| gZ (xSk BE) ?_)|(refine Tx 7 ?_;refine gO xF <| gO xD <| gO xEq ?_)|(refine Tx 9 ?_;refine gO xM <| gO xAd <| gO xA ?_)|(refine Tx 10 ?_;refine gO xAd <| gO xM ?_))
  rw [←hdn]
  refine ⟨_,_,Cb 3,_,by omega,k+1,lf+1,by omega,rfl,by rw [AbS hn,am,hlf];try rfl,rfl,rfl⟩
 obtain rfl:k=bs.length:=by omega
 rw [UT] at hlf
 rw [Xf]
 clear hlt hk
 repeat' (with_reducible first|refine qq ?_|(refine Tx 5 ?_;refine gO xLt ?_))
 have hnd:=Mf bs
 refine Bm (Cb 3) (Aw (fun n Fr H=>∃ (out:List Nat) (lf:Int),Hy bs out∧n=DT bs - out.length∧lf=(DT bs:Int) - (out.length:Int)∧Fr=ofL [(1,vr 0),(4,vo 1 ((Cu out).length)),(5,vo 2 bs.length),(6,vi lf)]∧H=[.box 26 [.d (EP t ps),.d (Ee t bs),.d (Bw t os)],.row 3 1 (Cu out).length (cI (Cu out)),.row 4 1 bs.length (cBl (Ev bs out))]) (n0:=DT bs) ⟨[],lf,Hy.nil bs,rfl,by rw [hlf];simp,rfl,rfl⟩ ?_)
 clear hlf lf
 rintro n Fr H ⟨out,lf,hO,rfl,hlf,rfl,rfl⟩
 have hle:=hO.ok.le
 have hnl:=Dg out
 by_cases hpos:0<lf
 case neg =>
  have hfull:=hO.full (by omega)
  have he:EU bs=0:=by unfold EU;rw [hfull,if_pos (by omega)]
  have hL:Agj bs=Cu out:=by unfold Agj;rw [if_pos he,hfull]
  rw [he,hL]
  repeat' (with_reducible first|refine qq ?_|(refine Tx 11 ?_;refine gO xM <| gO xGt ?_)|(refine Tx 30 ?_;refine gO xM <| gO xA <| gO xA ?_))
  exact AE rfl (.cons_ (AbU rfl rfl rfl) (.cons_ (Fg rfl rfl) .nil_))
 repeat' (with_reducible first|refine qq ?_|(refine Tx 11 ?_;refine gO xM <| gO xGt ?_)|(refine Tx 13 ?_;refine gO xA ?_)|(refine Tx 14 ?_;refine gO xF <| gO xD <| gO xN <| gO xM ?_))
 refine Bm (Cb 3) (Aw (fun n Fr H=>∃ (k:Nat) (pk:Int),k≤bs.length∧n=bs.length - k∧pk=GU bs out k∧Fr=ofL [(1,vr 0),(4,vo 1 ((Cu out).length)),(5,vo 2 bs.length),(6,vi lf),(9,vi pk),(40,vd (Ee t bs)),(41,vi bs.length),(42,vi ((k:Nat)))]∧H=[.box 26 [.d (EP t ps),.d (Ee t bs),.d (Bw t os)],.row 3 1 (Cu out).length (cI (Cu out)),.row 4 1 bs.length (cBl (Ev bs out))]) (n0:=bs.length) ⟨0,-1,ad _,rfl,(UU bs out).symm,rfl,rfl⟩ ?_)
 rintro n Fr H ⟨k,pk,hk,rfl,hpk,rfl,rfl⟩
 by_cases hlt:k<bs.length
 case pos =>
  obtain ⟨y,hy⟩:∃ y,bs[k]?=some y:=⟨_,gE hlt⟩
  have BF:=Sk t hl hy
  have hg:(Ev bs out)[k]?=some (Ek bs out k):=(by unfold Ev;rw [ag,jm (by omega)];rfl)
  obtain ⟨xs,hxs⟩:∃ xs,Qr bs false k=xs:=⟨_,rfl⟩
  rw [hxs] at BF
  have hxl:xs.length≤1000000:=by rw [←hxs,TK hy];have:=hl.la y (gM hy);split <;> (try split) <;> first|exact this|exact ad _
  have hbd:∀ z∈xs,0≤z∧z<(bs.length:Int):=fun z hz=>hS k hlt z (RY (over:=false) (by rw [hxs];exact hz))
  obtain ⟨b0,hb0⟩:∃ b0:Bool,(!Ek bs out k && decide (pk<0))=b0:=⟨_,rfl⟩
  have hfin:∀ b:Bool,b=(b0 && xs.all fun z=>Ek bs out z.toNat)→GU bs out (k+1)=if b=true then (k:Int) else pk:=fun b hb=>by
   cases hd:Ek bs out k with
   | true =>
    have hr:rdy bs out k=false:=by rw [Xc,hd];rfl
    rw [hd] at hb0
    rw [hb,←hb0,OP (.inr hr),if_neg (by simp),hpk]
   | false =>
    have hr:=Xk (out:=out) hd
    rw [hxs] at hr
    by_cases hp:pk<0
    ·rw [hd,decide_eq_true hp] at hb0
     rw [←hb0,←hr] at hb
     cases hq:rdy bs out k with
     | true=>rw [hq] at hb;rw [Xh (by rw [←hpk];exact hp) hq,hb];rfl
     | false=>rw [hq] at hb;rw [OP (.inr hq),hb,←hpk];rfl
    ·rw [hd,decide_eq_false hp] at hb0
     rw [hb,←hb0,OP (.inl (by omega)),if_neg (by simp),hpk]
  skip
  cases hd:Ek bs out k
  case true =>
   rw [hd] at hg hb0
   rw [et,gh] at hb0
   repeat' (with_reducible first|refine qq ?_|(refine Tx 15 ?_;refine gO xLt ?_)|refine AeE ?_)
   exact AeF
  rw [hd] at hg hb0
  by_cases hp:pk<0
  case pos =>
   rw [decide_eq_true hp] at hb0
   rw [dw,Bool.and_true] at hb0
   repeat' (with_reducible first|refine qq ?_|(refine Tx 15 ?_;refine gO xLt ?_)|refine AeE ?_)
   exact AeF
  rw [decide_eq_false hp] at hb0
  rw [Bool.and_false] at hb0
  repeat' (with_reducible first|refine qq ?_|(refine Tx 15 ?_;refine gO xLt ?_)|refine AeE ?_)
  exact AeF
 obtain rfl:k=bs.length:=by omega
 clear hlt hk
 cases hnx:nxt bs out
 case none =>
  rw [Xi hnx] at hpk
  subst hpk
  have hod:=hO.done hnx
  have he:EU bs=24:=by unfold EU;rw [hod,if_neg (by omega)]
  have hL:Agj bs=[]:=by unfold Agj;rw [if_neg (by rw [he];decide)]
  rw [he,hL]
  repeat' (with_reducible first|refine qq ?_|(refine Tx 15 ?_;refine gO xLt ?_)|(refine Tx 26 ?_;refine gO xM <| gO xLt ?_)|(refine Tx 27 ?_;refine gO (xMi underlying109) <| gO xA <| gO xA ?_))
  exact AE rfl (.cons_ (.tmp (.one (Gh rfl rfl))) (.cons_ (Aah rfl (by decide) rfl) .nil_))
 case some p =>
  rw [Xj hnx] at hpk
  subst hpk
  have hO2:=hO.push hnx
  have hpl:=(OO hnx).1
  have hlt2:=hO.lt hnx
  have tl:p<(Ev bs out).length:=by rw [Xe];exact hpl
  have stV:(Ev bs out).set p true=Ev bs (out++[p]):=(US bs out p).symm
  have hap:Cu out++[(p:Int)]=Cu (out++[p]):=(TN out p).symm
  have hap2:(Cu out).length+1=(Cu (out++[p])).length:=by rw [Dg,Dg,am];rfl
  repeat' (with_reducible first|refine qq ?_|(refine Tx 15 ?_;refine gO xLt ?_)|(refine Tx 26 ?_;refine gO xM <| gO xLt ?_)|(refine Tx 28 ?_;refine gO xM <| gO xM <| gO (xIo (i:=p) DR) <| gZ Aip ?_)|(refine Tx 29 ?_;refine gO xM <| gO xM <| gN (by exact Cn rfl Ae CR rfl rfl (by decide) (by decide)) <| gT (by exact WX rfl rfl rfl rfl rfl rfl Ae CR (by omega) (by decide) hap hap2) <| gO xA ?_)|(refine Tx 12 ?_;refine gO xM <| gO xSb <| gO xA ?_))
  refine ⟨_,_,Cb 3,_,(by rw [am];show DT bs - (out.length+1)<_;omega),out++[p],lf - 1,hO2,rfl,by rw [am,hlf];show _=(DT bs:Int) - ((out.length+1:Nat):Int);omega,rfl,rfl⟩
theorem Aaz (k:p') (h:Hd9 p'→p:=by with_reducible first|(intro Z9;refine Tx 0 ?_;refine gN xBo <| gO xA ?_;exact Z9.o)|(intro Z9;refine Tx 1 ?_;refine gO xF <| gO xD <| gO xN <| gO xGt <| gO xM ?_;(first|iterate 4 refine Jd ?_|(refine Jy (xFa CB Bn) ?_;refine Jy (xLd Bn) ?_;refine Jy (xLn Ak) ?_;refine Jy xGt ?_));refine gO xPk <| gO xM ?_;(first|iterate 4 refine Jd ?_|(refine Jy (xFa Gw BW) ?_;refine Jy (xLd BW) ?_;refine Jy (xLn Ae) ?_;refine Jy xGt ?_));refine gO xPk ?_;exact Z9.o)|fail):p:=h ⟨k⟩
theorem Vd (k:p') (h:Hd9 p'→p:=by with_reducible first|(intro Z9;refine Tx 5 ?_;refine gO (xIr CS (NQ hp)) <| gO xL <| gN (xAl Mb) <| gZ (xSk Gx) ?_;exact Z9.o)|(intro Z9;refine Tx 6 ?_;refine gO xF <| gO xD <| gO xLt <| gO xM ?_;(first|iterate 5 refine Jd ?_|(refine Jy (xFa OH AQ) ?_;refine Jy (xLd AQ) ?_;refine Jy (xFa Tz AQ) ?_;refine Jy (xLd AQ) ?_;refine Jy xLt ?_));refine gO xPk <| gO xM ?_;(first|iterate 3 refine Jd ?_|(refine Jy (xFa OH AQ) ?_;refine Jy (xLd AQ) ?_;refine Jy xGe ?_));refine gO xPk <| gO xM ?_;(first|iterate 3 refine Jd ?_|(refine Jy (xFa OI AQ) ?_;refine Jy (xLd AQ) ?_;refine Jy xLt ?_));refine gO xPk <| gO xM ?_;(first|iterate 3 refine Jd ?_|(refine Jy (xFa OI AQ) ?_;refine Jy (xLd AQ) ?_;refine Jy xGt ?_));refine gO xPk ?_;exact Z9.o)|fail):p:=h ⟨k⟩
theorem AeG (k:p') (h:Hd9 p'→p:=by with_reducible first|(intro Z9;refine Tx 18 ?_;refine gO (xIr Ae (AY hz)) <| gO xD <| gO xA ?_;exact Z9.o)|(intro Z9;refine Tx 19 ?_;refine gO xM <| gO xLt <| gO xM ?_;(first|iterate 5 refine Jd ?_|(refine Jy xM1 ?_;refine Jy (xFa CB Bn) ?_;refine Jy (xLd Bn) ?_;refine Jy (xLn Ak) ?_;refine Jy xGe ?_));refine gO xPk ?_;exact Z9.o)|fail):p:=h ⟨k⟩
theorem Aiq (h:p:=by first|exact Bh rfl Ai rfl (Fp h0)|exact Bh rfl Ai rfl (Mc (by first|rfl|omega))|exact Bh rfl Ai rfl (Fp (by first|assumption|omega))|exact Bh rfl Ai rfl rfl):p:=h
theorem Fz (t:Bool) {ps:List Prt} {bs:List Bk} {os:List Int} (hl:Ff ps bs os):CV prog Al 35 [aDg t ps bs os] [aE (AP ps bs os)]:=by
 refine cvz func35 ntmps35 ?_
 have hl1:=hl.l1
 have hl2:=hl.l2
 have hl3:=hl.l3
 by_cases hs:Fx ps bs os
 case neg =>
  rw [de0 hs]
  unfold Fx at hs
  by_cases c1:ps.length≤16
  case neg =>
   repeat' (with_reducible first|refine qq ?_|refine Aaz ?_|(refine Tx 2 ?_;refine gO (xMi underlying109) <| gO xA ?_))
   exact Ea
  by_cases c2:bs.length≤64
  case neg =>
   repeat' (with_reducible first|refine qq ?_|refine Aaz ?_|(refine Tx 2 ?_;refine gO (xMi underlying109) <| gO xA ?_))
   exact Ea
  have c3:¬ os.length≤16:=fun h=>hs ⟨c1,c2,h⟩
  repeat' (with_reducible first|refine qq ?_|refine Aaz ?_|(refine Tx 2 ?_;refine gO (xMi underlying109) <| gO xA ?_))
  exact Ea
 have hs2:=hs
 unfold Fx at hs2
 obtain ⟨c1,c2,c3⟩:=hs2
 repeat' (with_reducible first|refine qq ?_|refine Aaz ?_|(refine Tx 3 ?_;refine gO xF <| gO xD <| gO xN <| gO xM ?_))
 refine Bm (Cb 1) (Aw (fun n Fr H=>∃ k:Nat,k≤ps.length∧n=ps.length - k∧Ap ((ps.map Gb).take k)=0∧Fr=ofL [(1,vr 0),(30,vd (EP t ps)),(31,vi ps.length),(32,vi ((k:Nat)))]∧H=[.box 26 [.d (EP t ps),.d (Ee t bs),.d (Bw t os)]]) (n0:=ps.length) ⟨0,ad _,rfl,rfl,rfl,rfl⟩ ?_)
 rintro n Fr H ⟨k,hk,rfl,hf,rfl,rfl⟩
 by_cases hlt:k<ps.length
 case pos =>
  obtain ⟨p,hp⟩:∃ p,ps[k]?=some p:=⟨_,gE hlt⟩
  by_cases he:Gb p=0
  case neg =>
   have h3:Gb p=3:=by unfold Gb at he ⊢;split at he;exact absurd rfl he;rename_i hn;rw [if_neg hn]
   rw [de1 hs (pe1 hp h3 (by decide) hf) (by decide)]
   unfold Gb at he
   by_cases q1 : -2147483648≤p.lo
   case neg =>
    repeat' (with_reducible first|refine qq ?_|(refine Tx 4 ?_;refine gO xLt ?_)|refine Vd ?_|(refine Tx 7 ?_;refine gO (xMi underlying109) <| gO xA ?_))
    exact Ea
   by_cases q2:p.lo≤p.hi
   case neg =>
    repeat' (with_reducible first|refine qq ?_|(refine Tx 4 ?_;refine gO xLt ?_)|refine Vd ?_|(refine Tx 7 ?_;refine gO (xMi underlying109) <| gO xA ?_))
    exact Ea
   by_cases q3:p.hi<2147483648
   case neg =>
    repeat' (with_reducible first|refine qq ?_|(refine Tx 4 ?_;refine gO xLt ?_)|refine Vd ?_|(refine Tx 7 ?_;refine gO (xMi underlying109) <| gO xA ?_))
    exact Ea
   by_cases q4:0≤p.fr
   case neg =>
    repeat' (with_reducible first|refine qq ?_|(refine Tx 4 ?_;refine gO xLt ?_)|refine Vd ?_|(refine Tx 7 ?_;refine gO (xMi underlying109) <| gO xA ?_))
    exact Ea
   have q5:¬ p.fr≤30:=fun h=>he (if_pos ⟨q1,q2,q3,q4,h⟩)
   repeat' (with_reducible first|refine qq ?_|(refine Tx 4 ?_;refine gO xLt ?_)|refine Vd ?_|(refine Tx 7 ?_;refine gO (xMi underlying109) <| gO xA ?_))
   exact Ea
  have hq:=he
  unfold Gb at hq
  by_cases hn : -2147483648≤p.lo∧p.lo≤p.hi∧p.hi<2147483648∧0≤p.fr∧p.fr≤30
  case neg =>
   rw [if_neg hn] at hq
   cases hq
  obtain ⟨q1,q2,q3,q4,q5⟩:=hn
  repeat' (with_reducible first|refine qq ?_|(refine Tx 4 ?_;refine gO xLt ?_)|refine Vd ?_|(refine Tx 8 ?_;refine gO xAd <| gO xM ?_))
  refine ⟨_,_,Cb 1,_,by omega,k+1,by omega,rfl,fs1 hp he hf,rfl,rfl⟩
 obtain rfl:k=ps.length:=by omega
 have hP:=hf
 rw [ap (by rw [af];exact aa _)] at hP
 clear hlt hk hf
 repeat' (with_reducible first|refine qq ?_|(refine Tx 4 ?_;refine gO xLt ?_)|(refine Tx 9 ?_;refine gO xF <| gO xD <| gO xN <| gO xM ?_))
 refine Bm (Cb 1) (Aw (fun n Fr H=>∃ k:Nat,k≤bs.length∧n=bs.length - k∧Ap ((bs.map (BK ps.length bs.length)).take k)=0∧Fr=ofL [(1,vr 0),(64,vd (Ee t bs)),(65,vi bs.length),(66,vi ((k:Nat)))]∧H=[.box 26 [.d (EP t ps),.d (Ee t bs),.d (Bw t os)]]) (n0:=bs.length) ⟨0,ad _,rfl,rfl,rfl,rfl⟩ ?_)
 rintro n Fr H ⟨k,hk,rfl,hf,rfl,rfl⟩
 by_cases hlt:k<bs.length
 case pos =>
  obtain ⟨y,hy⟩:∃ y,bs[k]?=some y:=⟨_,gE hlt⟩
  have BC:=Vc t hl y (hl.la y (gM hy))
  generalize he:BK ps.length bs.length y=e at BC
  by_cases h0:e=0
  case neg =>
   rw [de1 hs (pe2 hP hy he h0 hf) h0]
   repeat' (with_reducible first|refine qq ?_|(refine Tx 10 ?_;refine gO xLt ?_)|(refine Tx 11 ?_;refine gO (xIr Ak (El hy)) <| gO xL <| gN (xAl BP) <| gZ (xSk BE) ?_)|(refine Tx 12 ?_;refine gO xL <| gO xL <| gO (xCl func95 (BC)) <| gO xA ?_)|(refine Tx 13 ?_;refine gO xM <| gO Aiq ?_)|(refine Tx 14 ?_;refine gO xM <| gO xA ?_))
   exact AE rfl (.cons_ (ZB rfl rfl) .nil_)
  subst h0
  repeat' (with_reducible first|refine qq ?_|(refine Tx 10 ?_;refine gO xLt ?_)|(refine Tx 11 ?_;refine gO (xIr Ak (El hy)) <| gO xL <| gN (xAl BP) <| gZ (xSk BE) ?_)|(refine Tx 12 ?_;refine gO xL <| gO xL <| gO (xCl func95 (BC)) <| gO xA ?_)|(refine Tx 13 ?_;refine gO xM <| gO (xNE Ai) ?_)|(refine Tx 15 ?_;refine gO xAd <| gO xM ?_))
  refine ⟨_,_,Cb 1,_,by omega,k+1,by omega,rfl,fs1 hy he hf,rfl,rfl⟩
 obtain rfl:k=bs.length:=by omega
 have hB:=hf
 rw [ap (by rw [af];exact aa _)] at hB
 clear hlt hk hf
 repeat' (with_reducible first|refine qq ?_|(refine Tx 10 ?_;refine gO xLt ?_)|(refine Tx 16 ?_;refine gO xF <| gO xD <| gO xN <| gO xM ?_))
 refine Bm (Cb 1) (Aw (fun n Fr H=>∃ k:Nat,k≤os.length∧n=os.length - k∧Ap ((os.map (MS bs.length)).take k)=0∧Fr=ofL [(1,vr 0),(78,vd (Bw t os)),(79,vi os.length),(80,vi ((k:Nat)))]∧H=[.box 26 [.d (EP t ps),.d (Ee t bs),.d (Bw t os)]]) (n0:=os.length) ⟨0,ad _,rfl,rfl,rfl,rfl⟩ ?_)
 rintro n Fr H ⟨k,hk,rfl,hf,rfl,rfl⟩
 by_cases hlt:k<os.length
 case pos =>
  obtain ⟨z,hz⟩:∃ z,os[k]?=some z:=⟨_,gE hlt⟩
  by_cases hb:0≤z∧z<(bs.length:Int)
  case neg =>
   rw [de1 hs (pe3 hP hB hz (if_neg hb) (by decide) hf) (by decide)]
   by_cases hz0:z<0
   case pos =>
    repeat' (with_reducible first|refine qq ?_|(refine Tx 17 ?_;refine gO xLt ?_)|refine AeG ?_|(refine Tx 20 ?_;refine gO (xMi underlying109) <| gO xA ?_))
    exact Ea
   repeat' (with_reducible first|refine qq ?_|(refine Tx 17 ?_;refine gO xLt ?_)|refine AeG ?_|(refine Tx 20 ?_;refine gO (xMi underlying109) <| gO xA ?_))
   exact Ea
  have hb2:=hb
  obtain ⟨z0,z1⟩:=hb2
  repeat' (with_reducible first|refine qq ?_|(refine Tx 17 ?_;refine gO xLt ?_)|refine AeG ?_|(refine Tx 21 ?_;refine gO xAd <| gO xM ?_))
  refine ⟨_,_,Cb 1,_,by omega,k+1,by omega,rfl,fs1 hz (if_pos hb) hf,rfl,rfl⟩
 obtain rfl:k=os.length:=by omega
 have hO:=hf
 rw [ap (by rw [af];exact aa _)] at hO
 clear hlt hk hf
 have hpe:=pe4 hP hB hO
 rw [de2 hs hpe]
 have OR:=NY t hl (Xm hB)
 repeat' (with_reducible first|refine qq ?_|(refine Tx 17 ?_;refine gO xLt ?_)|(refine Tx 22 ?_;refine gO xL <| gO (xCl func96 (OR)) <| gO xMt <| gO xEx <| gO xEx <| gO xA <| gO xA ?_)|(refine Tx 23 ?_;refine gO xM <| gO xA ?_))
 exact AE rfl (.cons_ (ZB rfl rfl) .nil_)
theorem Air (h:p:=by
 rw [if_neg h0]
 repeat' (with_reducible first|refine qq ?_|(refine Tx 0 ?_;refine gN xBo <| gO xA <| gO xA ?_)|(refine Tx 1 ?_;refine gO xL <| gO (xCl func35 (CK)) <| gO xA ?_)|(refine Tx 2 ?_;refine gO xM <| gO Aiq ?_)|(refine Tx 3 ?_;refine gO xM <| gO xA <| gO xA ?_))
 exact AE rfl (.cons_ (.tmp (.one (Gh rfl rfl))) (.cons_ (ZB rfl rfl) .nil_))):p:=h
theorem TY (t:Bool) {ps:List Prt} {bs:List Bk} {os:List Int} (hl:Ff ps bs os):CV prog Al 60 [aDg t ps bs os] [.one (Bw false (if AP ps bs os=0 then Cu (BS bs) else [])),aE (AP ps bs os)]:=by
 refine cvz func60 ntmps60 ?_
 have CK:=Fz t hl
 by_cases h0:AP ps bs os=0
 case neg =>
  exact Air
 have OR:=NY t hl (AdP h0)
 have ho:EU bs=0:=(Iu h0).2.2
 unfold Agj at OR
 rw [ho,if_pos rfl] at OR
 rw [if_pos h0]
 rw [h0] at CK
 rw [h0]
 repeat' (with_reducible first|refine qq ?_|(refine Tx 0 ?_;refine gN xBo <| gO xA <| gO xA ?_)|(refine Tx 1 ?_;refine gO xL <| gO (xCl func35 (CK)) <| gO xA ?_)|(refine Tx 2 ?_;refine gO xM <| gO (xNE Ai) ?_)|(refine Tx 4 ?_;refine gO xL <| gO (xCl func96 (OR)) <| gO xEx <| gO xEx <| gO xA <| gO xA ?_))
 exact AE rfl (.cons_ (.tmp (.one (Bs rfl fun _=>Ahy _))) (.cons_ (Fg rfl rfl) .nil_))
theorem Ais (h:p:=by
 refine ⟨_,_,OM _ 2 ?_ ?_ ?_,_,by omega,k+1,by omega,rfl,rfl,rfl⟩
 ·rfl
 ·exact mB rfl rfl
 ·exact ⟨Dd rfl,TF,trivial⟩):p:=h
theorem GZ (t:Bool) {ps:List Prt} {bs:List Bk} {os:List Int} (hl:Ff ps bs os):CV prog Al 19 [aDg t ps bs os] [.one (Bw false (if AP ps bs os=0 then Cu (Bd bs) else [])),aE (AP ps bs os)]:=by
 refine cvz func19 ntmps19 ?_
 have hl2:=hl.l2
 have hall:Bd bs=fl (DG bs) bs.length:=rfl
 have CK:=Fz t hl
 by_cases h0:AP ps bs os=0
 case neg =>
  exact Air
 rw [if_pos h0]
 rw [h0] at CK
 rw [h0]
 repeat' (with_reducible first|refine qq ?_|(refine Tx 0 ?_;refine gN xBo <| gO xA <| gO xA ?_)|(refine Tx 1 ?_;refine gO xL <| gO (xCl func35 (CK)) <| gO xA ?_)|(refine Tx 2 ?_;refine gO xM <| gO (xNE Ai) ?_)|(refine Tx 4 ?_;refine gO xA ?_))
 refine Bm (NF 5 3 1 rfl) ?_
 repeat' (with_reducible first|refine qq ?_|(refine Tx 5 ?_;refine gO xF <| gO xD <| gO xN <| gO xM ?_))
 refine Bm (Cb 2) (Aw (fun n Fr H=>∃ k:Nat,k≤bs.length∧n=bs.length - k∧Fr=ofL [(1,vr 0),(5,vo 1 ((Cu (fl (DG bs) k)).length)),(14,vd (Ee t bs)),(15,vi bs.length),(16,vi ((k:Nat)))]∧H=[.box 26 [.d (EP t ps),.d (Ee t bs),.d (Bw t os)],.row 3 1 (Cu (fl (DG bs) (k))).length (cI (Cu (fl (DG bs) (k))))]) (n0:=bs.length) ⟨0,ad _,rfl,rfl,rfl⟩ ?_)
 rintro n Fr H ⟨k,hk,rfl,rfl,rfl⟩
 by_cases hlt:k<bs.length
 case pos =>
  obtain ⟨y,hy⟩:∃ y,bs[k]?=some y:=⟨_,gE hlt⟩
  have hfl:=Ahu (DG bs) k
  have hnl:=Dg (fl (DG bs) k)
  by_cases k2:y.kind=2
  case pos =>
   have hd:DG bs k=true:=by unfold DG;rw [Fw hy,k2];rfl
   have hap:(Cu (fl (DG bs) (k)))++[(k:Int)]=(Cu (fl (DG bs) (k+1))):=by rw [AbS hd,TN]
   have hap2:(Cu (fl (DG bs) (k))).length+1=(Cu (fl (DG bs) (k+1))).length:=by rw [←hap,am];rfl
   repeat' (with_reducible first|refine qq ?_|(refine Tx 6 ?_;refine gO xLt ?_)|(refine Tx 7 ?_;refine gO xM <| gO (xIr Ak (El hy)) <| gO xL <| gN (xAl BP) <| gO xA <| gZ (xSk BE) ?_)|(refine Tx 8 ?_;refine gO xF <| gO xD <| gO xEq ?_)|(refine Tx 9 ?_;refine gO xM <| gO xM <| gN (by exact Cn rfl Ae CR rfl rfl (by decide) (by decide)) <| gT (by exact WX rfl rfl rfl rfl rfl rfl Ae CR (by omega) (by decide) hap hap2) <| gO xA ?_)|(refine Tx 10 ?_;refine gO xAd <| gO xM ?_))
   exact Ais
  have hd:DG bs k=false:=by unfold DG;rw [Fw hy];exact Gi k2
  have hno:(Cu (fl (DG bs) (k+1)))=(Cu (fl (DG bs) (k))):=by rw [Aht hd]
  repeat' (with_reducible first|refine qq ?_|(refine Tx 6 ?_;refine gO xLt ?_)|(refine Tx 7 ?_;refine gO xM <| gO (xIr Ak (El hy)) <| gO xL <| gN (xAl BP) <| gO xA <| gZ (xSk BE) ?_)|(refine Tx 8 ?_;refine gO xF <| gO xD <| gO xEq ?_)|(refine Tx 10 ?_;refine gO xAd <| gO xM ?_))
  rw [←hno]
  exact Ais
 obtain rfl:k=bs.length:=by omega
 rw [hall]
 repeat' (with_reducible first|refine qq ?_|(refine Tx 6 ?_;refine gO xLt ?_)|(refine Tx 11 ?_;refine gO xM <| gO xA <| gO xA ?_))
 exact AE rfl (.cons_ (AbU rfl rfl rfl) (.cons_ (Fg rfl rfl) .nil_))
open Go.ChangeShapes Go.WideShapes Go.ChangeAt Go.Joins Go.Deep
structure Rw where
 nb:Bool
 A:Option Addr
 ws:List Nat
 cap:Nat
 den:Int
def Rw.val (r:Rw):Value:=.agg #[.bool r.nb,.slice r.A r.ws.length r.cap,.int .i64 r.den]
def rw0:Rw:=⟨false,none,[],0,0⟩
instance:Inhabited Rw:=⟨rw0⟩
structure RwAt (w:World) (m:Nat) (r:Rw):Prop where
 nul:r.A=none→r.cap=0
 fit:r.ws.length≤r.cap
 at_:Aj w m r.A (w32 r.ws)
 ok:An r.ws
def vdP (r:Rw):Prop:=if r.ws.length=0 then r.nb=false∧r.den=0 else r.ws[r.ws.length - 1]?.getD 0≠0∧0≤r.den∧r.den≤65536∧(r.den=0∨r.ws[0]?.getD 0 % 2=1)
instance (r:Rw):Decidable (vdP r):=by unfold vdP;infer_instance
def vdB (r:Rw):Bool:=decide (vdP r)
def Rw.x (r:Rw):Int:=sg r.nb (Ar r.ws)
def Rw.d (r:Rw):Nat:=r.den.toNat
theorem AeH {r:Rw} (h:r.ws.length=0):vdP r ↔ r.nb=false∧r.den=0:=by unfold vdP;rw [if_pos h]
theorem AaA {r:Rw} (h:¬ r.ws.length=0):vdP r ↔ r.ws[r.ws.length - 1]?.getD 0≠0∧0≤r.den∧r.den≤65536∧(r.den=0∨r.ws[0]?.getD 0 % 2=1):=by unfold vdP;rw [if_neg h]
theorem XX {r:Rw} (h:vdP r):vdB r=true:=decide_eq_true h
theorem QE {r:Rw} (h:¬ vdP r):vdB r=false:=decide_eq_false h
theorem AaB {r:Rw} (hok:An r.ws) (h:vdB r=true):Aa (Ar r.ws)=r.ws:=by
 have h:=of_decide_eq_true h
 refine Nk hok fun hne=>?_
 have hl:¬ r.ws.length=0:=fun h0=>hne (bw h0)
 exact ((AaA hl).1 h).1
theorem AeI (r:Rw):r.x.natAbs=Ar r.ws:=Gf _ _
structure Iv where
 lo:Rw
 hi:Rw
def iv0:Iv:=⟨rw0,rw0⟩
instance:Inhabited Iv:=⟨iv0⟩
def ivP (a:Iv):Prop:=vdB a.lo=true∧vdB a.hi=true∧VK a.lo.x a.lo.d a.hi.x a.hi.d≤0
instance (a:Iv):Decidable (ivP a):=by unfold ivP;infer_instance
/- What came in. -/
set_option maxRecDepth 100000
theorem Ml (h:p:=by
  clear hp
  go_enter func123,ntmps123
  go_wp2_with fail
  all_goals first
    | (exfalso;omega)
    | (go_ret
       exact ⟨by rw [HV.out];rfl,al_ _ _⟩)):p:=h
theorem Ve (r:Rw) (m:Nat) (w:World) (hm:m≤w.heap.size) (h:RwAt w m r) (hl:r.ws.length≤1000000) :
  Calls prog 123 #[r.val] w fun e w'=>e=.returned (.bool (vdB r))∧Below w.heap.size w w':=by
 have hat:=h.at_
 have hok:=h.ok
 obtain ⟨nb,A,ws,cap,den⟩:=r
 dsimp only at hat hok hl
 simp only [Rw.val]
 have key:den<0∨den=0∨(0<den∧den≤65536)∨65536<den:=by omega
 by_cases h0:ws.length=0
 ·have hp:=AeH (r:=⟨nb,A,ws,cap,den⟩) h0
  dsimp only at hp
  have hz:(ws.length:Int)=0:=by omega
  have hzb:((ws.length:Int) == 0)=true:=by rw [hz];rfl
  rw [h0] at hzb ⊢
  clear hat hok hl h hz h0
  cases nb with
  | true =>
   rcases key with k1|k1|k1|k1
   all_goals
    have HV:=ko (show vdB ⟨true,A,ws,cap,den⟩=false from QE (fun hv=>by have:=(hp.1 hv).1;cases this))
    exact Ml
  | false =>
   rcases key with k1|k1|k1|k1
   ·have d0:(den == 0)=false:=by rw [beq_eq_false_iff_ne];omega
    have HV:=ko (show vdB ⟨false,A,ws,cap,den⟩=false from QE (fun hv=>by have:=(hp.1 hv).2;omega))
    exact Ml
   ·have d0:(den == 0)=true:=by simp;omega
    have HV:=ko (show vdB ⟨false,A,ws,cap,den⟩=true from XX (hp.2 ⟨rfl,k1⟩))
    exact Ml
   ·have d0:(den == 0)=false:=by rw [beq_eq_false_iff_ne];omega
    have HV:=ko (show vdB ⟨false,A,ws,cap,den⟩=false from QE (fun hv=>by have:=(hp.1 hv).2;omega))
    exact Ml
   ·have d0:(den == 0)=false:=by rw [beq_eq_false_iff_ne];omega
    have HV:=ko (show vdB ⟨false,A,ws,cap,den⟩=false from QE (fun hv=>by have:=(hp.1 hv).2;omega))
    exact Ml
 ·have hp:=AaA (r:=⟨nb,A,ws,cap,den⟩) h0
  dsimp only at hp
  obtain ⟨b,off,z,hA,q1,q2,hz,g1⟩:=hat.w32_ (k:=ws.length - 1) (by omega)
  subst hA
  obtain ⟨b',off',y,hA',_,_,hy,g0⟩:=hat.w32_ (k:=0) (by omega)
  cases hA'
  rw [bz] at g0
  obtain ⟨L,hL⟩:∃ L,L=ws.length - 1:=⟨_,rfl⟩
  have hlen:ws.length=L+1:=by omega
  have hl':L≤1000000:=by omega
  have e0:((L:Int)+1 == 0)=false:=by simp;omega
  rw [←hL] at g1
  rw [hz,hy] at hp
  simp only [ax] at hp
  rw [hlen]
  clear hat hok hl h hz hy hL q1 q2 h0 hlen
  by_cases hz0:z=0
  ·subst hz0
   have hzb:(((0:Nat):Int) != 0)=false:=by rfl
   rcases key with k1|k1|k1|k1
   all_goals
    have HV:=ko (show vdB ⟨nb,some ⟨b,off,none⟩,ws,cap,den⟩=false from QE (fun hv=>(hp.1 hv).1 rfl))
    exact Ml
  ·have hzb:((z:Int) != 0)=true:=by simp;omega
   rcases key with k1|k1|k1|k1
   ·have HV:=ko (show vdB ⟨nb,some ⟨b,off,none⟩,ws,cap,den⟩=false from QE (fun hv=>by have:=(hp.1 hv).2.1;omega))
    exact Ml
   ·have d0:(den == 0)=true:=by simp;omega
    have HV:=ko (show vdB ⟨nb,some ⟨b,off,none⟩,ws,cap,den⟩=true from XX (hp.2 ⟨hz0,by omega,by omega,.inl k1⟩))
    exact Ml
   ·have d0:(den == 0)=false:=by rw [beq_eq_false_iff_ne];omega
    have d1:decide (den≤65536)=true:=decide_eq_true k1.2
    have d2:decide (0≤den)=true:=decide_eq_true (by omega)
    by_cases ho:y % 2=1
    ·have hoi:(y:Int) % 2=1:=by omega
     have HV:=ko (show vdB ⟨nb,some ⟨b,off,none⟩,ws,cap,den⟩=true from XX (hp.2 ⟨hz0,by omega,k1.2,.inr ho⟩))
     exact Ml
    ·have hoi:(y:Int) % 2=0:=by omega
     have HV:=ko (show vdB ⟨nb,some ⟨b,off,none⟩,ws,cap,den⟩=false from QE (fun hv=>by have:=(hp.1 hv).2.2.2;omega))
     exact Ml
   ·have HV:=ko (show vdB ⟨nb,some ⟨b,off,none⟩,ws,cap,den⟩=false from QE (fun hv=>by have:=(hp.1 hv).2.2.1;omega))
    exact Ml
end Go.Proofs.YtmdfjbpggbhgnaaGreatDoor
