/- What the proofs of this claim share, part 18. No conditions. -/
import Derived.Test.YtmdfjbpggbhgnaaGreatDoorMr17
import Derived.Test.YtmdfjbpggbhgnaaGreatDoorMr15
import Derived.Test.YtmdfjbpggbhgnaaGreatDoorMr10
import Derived.Test.YtmdfjbpggbhgnaaGreatDoorMr14
import Derived.Test.YtmdfjbpggbhgnaaGreatDoorMr16
import Derived.Test.YtmdfjbpggbhgnaaGreatDoorMr12
import Derived.Test.YtmdfjbpggbhgnaaGreatDoorMr9
import Derived.Laws.StructEq
set_option maxRecDepth 100000
set_option maxHeartbeats 8000000
set_option linter.all false
open Go.Proofs.Tryz
namespace Go.Proofs.YtmdfjbpggbhgnaaGreatDoor
open Go.RowKit
variable {F:List Int} {E:List Pq} {a s:Int} {y:Bk} {p p':Prop} {i n:Nat} {w:World}
def mvL (F:List Int) (E:List Pq) (s:Int) (y:Bk):List Pq:=y.args.map (mvP F E s)
theorem AnN {u:Nat} (h:y.args[u]?=some a):(mvL F E s y)[u]?=some (mvP F E s a):=by unfold mvL;rw [ag,h];rfl
theorem AjA:(mvL F E s y).length=y.args.length:=af ..
theorem Aey (h:y.args[0]?=some a):∃ X,mvL F E s y=mvP F E s a::X:=by
 unfold mvL
 cases hl:y.args with
 | nil=>rw [hl] at h;cases h
 | cons x l=>rw [hl] at h;cases h;exact ⟨_,rfl⟩
theorem Aez {b:Int} (h:y.args[0]?=some a) (h1:y.args[1]?=some b):∃ X,mvL F E s y=mvP F E s a::mvP F E s b::X:=by
 unfold mvL
 rcases hl:y.args with _|⟨x,_|⟨z,l⟩⟩
 ·rw [hl] at h;cases h
 ·rw [hl] at h1;cases h1
 ·rw [hl] at h h1;cases h;cases h1;exact ⟨_,rfl⟩
theorem Agn (k:p') (h:Hd9 p'→p:=by with_reducible first|(intro Z9;refine Tx 0 ?_;refine gN xBo <| gN xBo <| gN (xAl Aj) ?_;exact Z9.o)|(intro Z9;refine Apo (id:=1) 10 (.box 63 [.d (.val (.int .i64 y.kind)),.d (Bd t y.args),.d (.val (.int .i64 y.vn)),.d (.val (.int .i64 y.ve)),.d (.val (.int .i64 y.un)),.d (.val (.int .i64 y.ue))]) AV (by kernel_rfl) ?_;dsimp only [List.take,List.drop];refine Acj rfl rfl (xFa BO AP) (xFa BO AP) ?_;refine Acj rfl rfl (xLd AP) (xLd AP) ?_;refine Acj rfl rfl xM1 xM1 ?_;refine Acj rfl rfl (xIr Ai (Dj hy)) (xIr Ai (Dj hy)) ?_;refine Acj rfl rfl (xLa Bi) (xLa Bi) ?_;refine Acj rfl rfl (xFa Mq BJ) (xFa Mq BJ) ?_;refine Acj rfl rfl (xLd BJ) (xLd BJ) ?_;refine Acj rfl rfl xM1 xM1 ?_;refine Acj rfl rfl (xIr Ad (AI hFi)) (xIr Ad (AI hFi)) ?_;refine Acj rfl rfl (xLd AE) (xLd AE) ?_;refine AkV ?_;refine App rfl rfl rfl (by with_unfolding_all exact Vl rfl Bt) rfl rfl rfl (by with_unfolding_all exact Ya rfl rfl rfl rfl rfl Bi rfl (bi rfl) rfl) ?_;refine gO xA ?_;exact Z9.o)|(intro Z9;refine Tx 2 ?_;refine gO xA ?_;exact Z9.o)|(intro Z9;refine Tx 3 ?_;refine gO xF <| gO xD <| gO xNe ?_;exact Z9.o)|fail):p:=h ⟨k⟩
theorem Gg (k:p') (h:Hd9 p'→p:=by with_reducible first|(intro Z9;refine Tx 9 ?_;refine gO xF <| gO xD ?_;exact Z9.o)|(intro Z9;refine Tx 10 ?_;refine gO xEq <| gO xA ?_;exact Z9.o)|fail):p:=h ⟨k⟩
theorem GM (k:p') (h:Hd9 p'→p:=by with_reducible first|(intro Z9;refine Tx 12 ?_;refine gO xEq <| gO xA ?_;exact Z9.o)|fail):p:=h ⟨k⟩
theorem Hy (k:p') (h:Hd9 p'→p:=by with_reducible first|(intro Z9;refine Tx 14 ?_;refine gO xEq <| gO xA ?_;exact Z9.o)|fail):p:=h ⟨k⟩
theorem Ld (k:p') (h:Hd9 p'→p:=by with_reducible first|(intro Z9;refine Tx 15 ?_;refine gO xEq <| gO xA ?_;exact Z9.o)|fail):p:=h ⟨k⟩
theorem Ago (k:p') (h:Hd9 p'→p:=by with_reducible first|(intro Z9;refine AG (id:=16) 7 AV (by kernel_rfl) ?_;dsimp only [List.take,List.drop];refine gP xM <| gP (xIo (i:=0) Af) <| gP xL <| gP xM <| gP (xIo (i:=1) Af) <| gP xL <| gP (xCl func97 (C)) ?_;refine Ke ?_;refine gZ (xSk Aa) ?_;exact Z9.o)|fail):p:=h ⟨k⟩
theorem Agp (k:p') (h:Hd9 p'→p:=by with_reducible first|(intro Z9;refine AG (id:=22) 7 AV (by kernel_rfl) ?_;dsimp only [List.take,List.drop];refine gP xM <| gP (xIo (i:=0) Af) <| gP xL <| gP xM <| gP (xIo (i:=1) Af) <| gP xL <| gP (xCl func100 (C)) ?_;refine Ke ?_;refine gZ (xSk Aa) ?_;exact Z9.o)|fail):p:=h ⟨k⟩
theorem AnO (h:p:=by first|exact xCl func99 (WH)|exact xCl func99 (WU)):p:=h
theorem Hh (h:p:=by first|exact xNt|exact xNg):p:=h
theorem AnP (k:p') (h:Hd9 p'→p:=by with_reducible first|(intro Z9;refine AG (id:=31) 18 AV (by kernel_rfl) ?_;dsimp only [List.take,List.drop];refine gP xM <| gP (xIo (i:=0) Af) <| gP xL <| gP xM <| gP xF <| gP xL <| gP xM <| gP AnO <| gP Hh <| gP xM ?_;(first|iterate 5 refine Kd ?_|(refine Ky (xFa Ee AU) ?_;refine Ky (xLa AU) ?_;refine Ky xM1 ?_;refine Ky AnO ?_;refine Ky Hh ?_));refine gP xPk <| gP (xCl func98 (IX)) <| gP (xCl func100 (C)) ?_;refine Ke ?_;refine gZ (xSk Aa) ?_;exact Z9.o)|fail):p:=h ⟨k⟩
theorem Agq (h:p:=by
 rw [hw] at WH IX C
 simp only [dt,dr,fy,di] at IX C
 simp only [dt,dr,fy,di]
 repeat' (with_reducible first|refine qq ?_|refine Gg ?_|refine GM ?_|refine Hy ?_|refine Ld ?_|(refine Tx 17 ?_;refine gO xEq <| gO xA ?_)|(refine Tx 18 ?_;refine gO xEq <| gO xA ?_)|(refine Tx 20 ?_;refine gO xEq <| gO xA ?_)|(refine Tx 21 ?_;refine gO xEq <| gO xA ?_)|(refine Tx 23 ?_;refine gO xEq <| gO xA ?_)|(refine Tx 26 ?_;refine gO xEq <| gO xA ?_)|(refine Tx 30 ?_;refine gO xEq <| gO xA ?_)|refine AnP ?_)
 exact Ax rfl (.cons_ (rvW Aa rfl) .nil_)):p:=h
theorem GN (h:p:=by
 exact Ax rfl (.cons_ (rvW Aa rfl) .nil_)):p:=h
theorem AnQ (h:p:=by first|exact xIr Ad (AI hFi)|exact xIr Ad (AI hF0)|exact xIr Ad (AI hF1)|exact xIr Ad (hE0)|exact xIr Ad (hE1)|exact xIr Ad (hI0)|exact xIr Ad (hI1)):p:=h
theorem AnR (h:p:=by first|exact xIr Ag (hE0)|exact xIr Ag (hE1)|exact xIr Ag (hI0)|exact xIr Ag (hI1)):p:=h
theorem AeA (h:p:=by first|exact xIr Af (hE0)|exact xIr Af (hE1)|exact xIr Af (hI0)|exact xIr Af (hI1)):p:=h
theorem AnS (h:p:=by first|exact xIr Ad (AI ha)|exact xIr Ad (AI hFa)|exact xIr Ad (hEa)):p:=h
theorem AjB (h:p:=by first|exact xCl func103 (MA)|exact xCl func103 (MB)|exact xCl func103 (MC)):p:=h
theorem AbT (h:p:=by first|exact xCl func97 (D1)|exact xCl func97 (D2)|exact xCl func97 (D3)):p:=h
theorem Agr (h:p:=by first|exact xCl func104 (MG0)|exact xCl func104 (MG1)):p:=h
theorem Ags (h:p:=by first|exact xIr Ad (AI hA0)|exact xIr Ad (hEa)):p:=h
theorem WK (h:p:=by first|exact Za rfl rfl rfl|exact xLt):p:=h
theorem UW (mk t u:Bool) {ps:List Prt} {bs:List Bk} (os:List Int) (c:Ct) (hE:c.E.length=bs.length) (sE:∀ p∈c.E,Sm p LB LB) (i:Nat) {y:Bk} (hy:bs[i]?=some y) (B:Aco ps bs.length y) (hF:c.F.length=bs.length) (hR:c.R.length=bs.length) (sR:∀ p∈c.R,IwS p LB LB) (hn:bs.length≤1000000) (hpn:ps.length≤1000000) (hs2:0≤scA c.F i∧scA c.F i≤30) (hsa:y.kind≠0→∀ a∈y.args,0≤sG c.F a∧sG c.F a≤30):CV prog Ah 36 [aDg t ps bs os,.agg (dCx u c (.row mk 3 c.E.length (Av dyP c.E))),aI (i:Int)] [aDy false (Aw ps c.F c.R c.E y (scA c.F i)).1 (Aw ps c.F c.R c.E y (scA c.F i)).2]:=by
 refine cvz func36 ntmps36 ?_
 have hil:=(gS.1 hy).1
 have hFi:=OT (F:=c.F) (k:=i) (by omega)
 obtain ⟨s,hs⟩:∃ s,scA c.F i=s:=⟨_,rfl⟩
 rw [hs] at hFi
 have hBl:=B.len
 obtain ⟨s0,s1⟩:=hs2
 rw [hs] at s0 s1
 rw [hs]
 have um:=Tm s0 s1
 by_cases h:y.kind=0
 case pos =>
  obtain ⟨j,pp,hA0,ha0,hp,PS⟩:=B.port h
  have l3:=(gS.1 hp).1
  have hL0:=(gS.1 hA0).1
  rw [show Aw ps c.F c.R c.E y s=ixP (decide (s<pp.fr)) s by unfold Aw;rw [if_pos h,ha0,UM hp]]
  have UN:=DY s s0 s1 (decide (s<pp.fr))
  repeat' (with_reducible first|refine qq ?_|refine Agn ?_|refine Gg ?_|(refine AG (id:=11) 13 AV (by kernel_rfl) ?_;dsimp only [List.take,List.drop];refine gP xM <| gP xM <| gP xF <| gP xD <| gP xF <| gP xD <| gP (xIr Ad (AI hA0)) <| gP xD <| gP (xIr Di (NJ hp)) <| gP xF <| gP xD <| gP WK <| gP (xCl func98 (UN)) ?_;refine Ke ?_;refine gZ (xSk Aa) ?_))
  exact GN
 repeat' (with_reducible first|refine qq ?_|refine Agn ?_)
 refine AQ (IC 9 43 3 rfl) ?_
 repeat' (with_reducible first|refine qq ?_|(refine Tx 4 ?_;refine gO xF <| gO xD <| gO xN <| gO xM ?_))
 refine AQ (Bu 5) (Aq (fun n Fr H=>∃ q:Nat,q≤y.args.length∧n=y.args.length - q∧Fr=ofL [(3,vr 0),(4,vr 1),(6,vr 2),(7,vr 3),(8,vi s),(9,vo 4 (((mvL c.F c.E s y).take q).length)),(30,vd (Bd t y.args)),(31,vi y.args.length),(32,vi ((q:Nat)))]∧H=[.box 26 [.d (DJ t ps),.d (Dc t bs),.d (Bd t os)],.box 30 [.d (Bd u c.F),.d (.row false 6 c.R.length (Av (dIw false) c.R)),.d (.row mk 3 c.E.length (Av dyP c.E))],.box 43 [.d (.val (.bool false)),.d (.val (.slice none 0 0)),.d (.val (.int .i64 0))],.box 63 [.d (.val (.int .i64 y.kind)),.d (Bd t y.args),.d (.val (.int .i64 y.vn)),.d (.val (.int .i64 y.ve)),.d (.val (.int .i64 y.un)),.d (.val (.int .i64 y.ue))],.row 43 3 ((mvL c.F c.E s y).take (q)).length ((Av dyP ((mvL c.F c.E s y).take (q))).map C.d)]) (n0:=y.args.length) ⟨0,ad _,rfl,rfl,rfl⟩ ?_)
 rintro n Fr H ⟨q,hu,rfl,rfl,rfl⟩
 by_cases hlu:q<y.args.length
 case pos =>
  obtain ⟨z,ha⟩:∃ z,y.args[q]?=some z:=⟨_,gE hlu⟩
  obtain ⟨z0,z1⟩:=B.all h z (gM ha)
  obtain ⟨a,rfl⟩:=jz z0
  have hat:=AnN (F:=c.F) (E:=c.E) (s:=s) ha
  rw [Apq sE,EK,GI] at hat
  have hFa:=OT (F:=c.F) (k:=a) (by omega)
  have hEa:=XS (E:=c.E) (k:=a) (by omega)
  have se:=Df sE a
  obtain ⟨e,he⟩:∃ e,c.E[a]?.getD (0,0)=e:=⟨_,rfl⟩
  obtain ⟨r,hr⟩:∃ r,scA c.F a=r:=⟨_,rfl⟩
  rw [he] at se hEa hat
  rw [hr] at hFa hat
  have UN:=DY s s0 s1 (decide (s<r))
  have PL:=DZ e (ixP (decide (s<r)) s) se (IY s0 s1) (by decide) (by decide)
  obtain ⟨hap,hap2,hoL⟩:=Ok hat
  repeat' (with_reducible first|refine qq ?_|(refine Tx 5 ?_;refine gO xLt ?_)|(refine Tx 6 ?_;refine gO AnS <| gO xD <| gO xA ?_)|(refine AG (id:=7) 17 AV (by kernel_rfl) ?_;dsimp only [List.take,List.drop];refine gP xM <| gP xF <| gP xD <| gP xM <| gP (xIr Af (hEa)) <| gP xL <| gP xM <| gP xM <| gP xF <| gP xD <| gP xM <| gP AnS <| gP xD <| gP WK <| gP (xCl func98 (UN)) <| gP (xCl func97 (PL)) <| gQ (by exact Cf rfl Af Aj rfl rfl (by decide) (by decide)) ?_;refine Ke ?_;refine gT (by exact Vs rfl rfl rfl rfl rfl rfl Af Aj (by omega) (by decide) (by decide) rfl hap hap2) <| gO xA ?_)|(refine Tx 8 ?_;refine gO xAd <| gO xM ?_))
  refine ⟨_,_,Bu 5,_,by omega,q+1,by omega,rfl,rfl,rfl⟩
 obtain rfl:q=y.args.length:=by omega
 clear hlu hu
 rw [←AjA (F:=c.F) (E:=c.E) (s:=s),bc]
 repeat' (with_reducible first|refine qq ?_|(refine Tx 5 ?_;refine gO xLt ?_))
 rcases B.hk with k|k|k|k|k|k|k|k|k|k|k|k
 ·
  exact absurd k h
 ·
  have WH:=Gb y.vn y.ve s (B.sv (by omega)) s0 s1
  have IX:=DY s s0 s1 (!Bf y.vn y.ve s)
  rw [show Aw ps c.F c.R c.E y s=ixP (!Bf y.vn y.ve s) s by unfold Aw;rw [if_neg (by omega),if_pos k]]
  repeat' (with_reducible first|refine qq ?_|refine Gg ?_|refine GM ?_|(refine Tx 13 ?_;refine gO xM <| gO xF <| gO xL <| gO xM <| gO (xCl func99 (WH)) <| gO Hh <| gO (xCl func98 (IX)) <| gZ (xSk Aa) ?_))
  exact GN
 ·
  obtain ⟨a,hA0,ha0,hl0⟩:=B.a0 (by omega)
  have hl0:=hl0 (by omega)
  have hL0:=(gS.1 hA0).1
  obtain ⟨m0,hm0⟩:∃ m,mvP c.F c.E s (a:Int)=m:=⟨_,rfl⟩
  have t0:=DW (F:=c.F) s0 s1 sE (a:Int)
  rw [hm0] at t0
  obtain ⟨X,hX⟩:=Aey (F:=c.F) (E:=c.E) (s:=s) hA0
  rw [hX,hm0]
  refine AQ (F':=ofL [(3,vr 0),(4,vr 1),(6,vr 2),(7,vr 3),(8,vi s),(9,vo 4 ((X.length+1)))]) (H':=[.box 26 [.d (DJ t ps),.d (Dc t bs),.d (Bd t os)],.box 30 [.d (Bd u c.F),.d (.row false 6 c.R.length (Av (dIw false) c.R)),.d (.row mk 3 c.E.length (Av dyP c.E))],.box 43 [.d (.val (.bool false)),.d (.val (.slice none 0 0)),.d (.val (.int .i64 0))],.box 63 [.d (.val (.int .i64 y.kind)),.d (Bd t y.args),.d (.val (.int .i64 y.vn)),.d (.val (.int .i64 y.ve)),.d (.val (.int .i64 y.un)),.d (.val (.int .i64 y.ue))],.row 43 3 (X.length+1) ((Av dyP (m0::X)).map C.d)]) (Bu 5) ?_
  have WH:=Gb y.vn y.ve s (B.sv (by omega)) s0 s1
  have ib:=IY (b:=(!Bf y.vn y.ve s)) s0 s1
  have IX:=DY s s0 s1 (!Bf y.vn y.ve s)
  have C:=(NR Ah false false m0.1 m0.2 (ixP (!Bf y.vn y.ve s) s).1 (ixP (!Bf y.vn y.ve s) s).2 t0.ok ib.ok t0.lz ib.lz).cv
  rw [show Aw ps c.F c.R c.E y s=Gz m0 (ixP (!Bf y.vn y.ve s) s) by unfold Aw;rw [if_neg (by omega),if_neg (by omega),if_neg (by omega),if_neg (by omega),if_neg (by omega),if_neg (by omega),if_neg (by omega),if_neg (by omega),ha0,hm0]]
  repeat' (with_reducible first|refine qq ?_|refine Gg ?_|refine GM ?_|refine Hy ?_|refine Ld ?_|(refine Tx 17 ?_;refine gO xEq <| gO xA ?_)|(refine Tx 18 ?_;refine gO xEq <| gO xA ?_)|(refine Tx 20 ?_;refine gO xEq <| gO xA ?_)|(refine Tx 21 ?_;refine gO xEq <| gO xA ?_)|(refine Tx 23 ?_;refine gO xEq <| gO xA ?_)|(refine Tx 26 ?_;refine gO xEq <| gO xA ?_)|(refine Tx 30 ?_;refine gO xEq <| gO xA ?_)|(refine AG (id:=32) 11 AV (by kernel_rfl) ?_;dsimp only [List.take,List.drop];refine gP xM <| gP (xIo (i:=0) Af) <| gP xL <| gP xM <| gP xF <| gP xL <| gP xM <| gP (xCl func99 (WH)) <| gP Hh <| gP (xCl func98 (IX)) <| gP (xCl func100 (C)) ?_;refine Ke ?_;refine gZ (xSk Aa) ?_))
  exact GN
 ·
  obtain ⟨a,hA0,ha0,hl0⟩:=B.a0 (by omega)
  have hl0:=hl0 (by omega)
  have hL0:=(gS.1 hA0).1
  obtain ⟨b,hA1,ha1,hl1⟩:=B.a1 (by omega)
  have hL1:=(gS.1 hA1).1
  obtain ⟨m0,hm0⟩:∃ m,mvP c.F c.E s (a:Int)=m:=⟨_,rfl⟩
  have t0:=DW (F:=c.F) s0 s1 sE (a:Int)
  rw [hm0] at t0
  obtain ⟨m1,hm1⟩:∃ m,mvP c.F c.E s (b:Int)=m:=⟨_,rfl⟩
  have t1:=DW (F:=c.F) s0 s1 sE (b:Int)
  rw [hm1] at t1
  obtain ⟨X,hX⟩:=Aez (F:=c.F) (E:=c.E) (s:=s) hA0 hA1
  rw [hX,hm0,hm1]
  refine AQ (F':=ofL [(3,vr 0),(4,vr 1),(6,vr 2),(7,vr 3),(8,vi s),(9,vo 4 ((X.length+2)))]) (H':=[.box 26 [.d (DJ t ps),.d (Dc t bs),.d (Bd t os)],.box 30 [.d (Bd u c.F),.d (.row false 6 c.R.length (Av (dIw false) c.R)),.d (.row mk 3 c.E.length (Av dyP c.E))],.box 43 [.d (.val (.bool false)),.d (.val (.slice none 0 0)),.d (.val (.int .i64 0))],.box 63 [.d (.val (.int .i64 y.kind)),.d (Bd t y.args),.d (.val (.int .i64 y.vn)),.d (.val (.int .i64 y.ve)),.d (.val (.int .i64 y.un)),.d (.val (.int .i64 y.ue))],.row 43 3 (X.length+2) ((Av dyP (m0::m1::X)).map C.d)]) (Bu 5) ?_
  have C:=DZ m0 m1 t0 t1 (by decide) (by decide)
  rw [show Aw ps c.F c.R c.E y s=Dn m0 m1 by unfold Aw;rw [if_neg (by omega),if_neg (by omega),if_pos (by omega),ha0,ha1,hm0,hm1]]
  repeat' (with_reducible first|refine qq ?_|refine Gg ?_|refine GM ?_|refine Hy ?_|refine Ago ?_)
  exact GN
 ·
  obtain ⟨a,hA0,ha0,hl0⟩:=B.a0 (by omega)
  have hl0:=hl0 (by omega)
  have hL0:=(gS.1 hA0).1
  obtain ⟨b,hA1,ha1,hl1⟩:=B.a1 (by omega)
  have hL1:=(gS.1 hA1).1
  obtain ⟨m0,hm0⟩:∃ m,mvP c.F c.E s (a:Int)=m:=⟨_,rfl⟩
  have t0:=DW (F:=c.F) s0 s1 sE (a:Int)
  rw [hm0] at t0
  obtain ⟨m1,hm1⟩:∃ m,mvP c.F c.E s (b:Int)=m:=⟨_,rfl⟩
  have t1:=DW (F:=c.F) s0 s1 sE (b:Int)
  rw [hm1] at t1
  obtain ⟨X,hX⟩:=Aez (F:=c.F) (E:=c.E) (s:=s) hA0 hA1
  rw [hX,hm0,hm1]
  refine AQ (F':=ofL [(3,vr 0),(4,vr 1),(6,vr 2),(7,vr 3),(8,vi s),(9,vo 4 ((X.length+2)))]) (H':=[.box 26 [.d (DJ t ps),.d (Dc t bs),.d (Bd t os)],.box 30 [.d (Bd u c.F),.d (.row false 6 c.R.length (Av (dIw false) c.R)),.d (.row mk 3 c.E.length (Av dyP c.E))],.box 43 [.d (.val (.bool false)),.d (.val (.slice none 0 0)),.d (.val (.int .i64 0))],.box 63 [.d (.val (.int .i64 y.kind)),.d (Bd t y.args),.d (.val (.int .i64 y.vn)),.d (.val (.int .i64 y.ve)),.d (.val (.int .i64 y.un)),.d (.val (.int .i64 y.ue))],.row 43 3 (X.length+2) ((Av dyP (m0::m1::X)).map C.d)]) (Bu 5) ?_
  have C:=DZ m0 m1 t0 t1 (by decide) (by decide)
  rw [show Aw ps c.F c.R c.E y s=Dn m0 m1 by unfold Aw;rw [if_neg (by omega),if_neg (by omega),if_pos (by omega),ha0,ha1,hm0,hm1]]
  repeat' (with_reducible first|refine qq ?_|refine Gg ?_|refine GM ?_|refine Hy ?_|refine Ld ?_|refine Ago ?_)
  exact GN
 ·
  obtain ⟨a,hA0,ha0,hl0⟩:=B.a0 (by omega)
  have hl0:=hl0 (by omega)
  have hL0:=(gS.1 hA0).1
  obtain ⟨m0,hm0⟩:∃ m,mvP c.F c.E s (a:Int)=m:=⟨_,rfl⟩
  have t0:=DW (F:=c.F) s0 s1 sE (a:Int)
  rw [hm0] at t0
  obtain ⟨X,hX⟩:=Aey (F:=c.F) (E:=c.E) (s:=s) hA0
  rw [hX,hm0]
  refine AQ (F':=ofL [(3,vr 0),(4,vr 1),(6,vr 2),(7,vr 3),(8,vi s),(9,vo 4 ((X.length+1)))]) (H':=[.box 26 [.d (DJ t ps),.d (Dc t bs),.d (Bd t os)],.box 30 [.d (Bd u c.F),.d (.row false 6 c.R.length (Av (dIw false) c.R)),.d (.row mk 3 c.E.length (Av dyP c.E))],.box 43 [.d (.val (.bool false)),.d (.val (.slice none 0 0)),.d (.val (.int .i64 0))],.box 63 [.d (.val (.int .i64 y.kind)),.d (Bd t y.args),.d (.val (.int .i64 y.vn)),.d (.val (.int .i64 y.ve)),.d (.val (.int .i64 y.un)),.d (.val (.int .i64 y.ue))],.row 43 3 (X.length+1) ((Av dyP (m0::X)).map C.d)]) (Bu 5) ?_
  rw [show Aw ps c.F c.R c.E y s=m0 by unfold Aw;rw [if_neg (by omega),if_neg (by omega),if_neg (by omega),if_pos (by omega),ha0,hm0]]
  repeat' (with_reducible first|refine qq ?_|refine Gg ?_|refine GM ?_|refine Hy ?_|refine Ld ?_|(refine Tx 17 ?_;refine gO xEq <| gO xA ?_)|(refine Tx 19 ?_;refine gO xM <| gO (xIo (i:=0) Af) <| gO xL <| gZ (xSk Aa) ?_))
  exact GN
 ·
  obtain ⟨a,hA0,ha0,hl0⟩:=B.a0 (by omega)
  have hl0:=hl0 (by omega)
  have hL0:=(gS.1 hA0).1
  have hF0:=OT (F:=c.F) (k:=a) (by omega)
  have hr0:=hsa (by omega) a (gM hA0)
  rw [EK] at hr0
  have hv:=B.sv (by omega)
  have sv:=FB hv
  have hv2:=hv
  unfold DE at hv2
  have RV:=(Sz (G:=Ah) y.vn y.ve (by omega) (by omega)).cv
  have hEa:=XS (E:=c.E) (k:=a) (by omega)
  have se:=Df sE a
  obtain ⟨e,he⟩:∃ e,c.E[a]?.getD (0,0)=e:=⟨_,rfl⟩
  rw [he] at se hEa
  obtain ⟨r,hr⟩:∃ r,scA c.F a=r:=⟨_,rfl⟩
  rw [hr] at hF0 hr0
  obtain ⟨v,hvv⟩:∃ v,Ae y.vn 0 y.ve=v:=⟨_,rfl⟩
  rw [hvv] at RV sv
  have AB:=(Us Ah false v.1 v.2 sv.ok sv.lz).cv
  have sa:=sv.abs
  have MU:=Gc (FW v) e sa se (by decide) (by decide) (by decide)
  have sm:=Sm.mul sa se (by decide)
  have ib:=IY (b:=decide (s - r+y.ve<0)) s0 s1
  have IX:=DY s s0 s1 (decide (s - r+y.ve<0))
  have AD:=DZ (CB (FW v) e) (ixP (decide (s - r+y.ve<0)) s) sm ib (by decide) (by decide)
  rw [show Aw ps c.F c.R c.E y s=Dn (CB (FW v) e) (ixP (decide (s - r+y.ve<0)) s) by unfold Aw;rw [if_neg (by omega),if_neg (by omega),if_neg (by omega),if_neg (by omega),if_neg (by omega),if_pos k,ha0,EK,GI,he,hr,hvv]]
  repeat' (with_reducible first|refine qq ?_|refine Gg ?_|refine GM ?_|refine Hy ?_|refine Ld ?_|(refine Tx 17 ?_;refine gO xEq <| gO xA ?_)|(refine Tx 18 ?_;refine gO xEq <| gO xA ?_)|(refine Tx 20 ?_;refine gO xEq <| gO xA ?_)|(refine Tx 21 ?_;refine gO xEq <| gO xA ?_)|(refine Tx 23 ?_;refine gO xEq <| gO xA ?_)|(refine Tx 24 ?_;refine gO xF <| gO xL <| gO (xCl func102 (RV)) <| gO (xCl func101 (AB)) <| gN (xAl Aj) <| gZ (xSk Aa) ?_)|(refine AG (id:=25) 28 AV (by kernel_rfl) ?_;dsimp only [List.take,List.drop];refine gP xL <| gP xF <| gP xD <| gP xF <| gP xD <| gP Ags <| gP xD <| gP (xIr Af (hEa)) <| gP xL <| gP (xCl func103 (MU)) <| gP xM <| gP xM <| gP xF <| gP xD <| gP xF <| gP xD <| gP Ags <| gP xD <| gP (by first|exact xIr Ad (AI hFi)|exact xIr Ad (AI hF0)|exact xIr Ad (hEa)) <| gP xD <| gP xSb <| gP xF <| gP xF <| gP xD <| gP xAd <| gP WK <| gP (xCl func98 (IX)) <| gP (xCl func97 (AD)) ?_;refine Ke ?_;refine gZ (xSk Aa) ?_))
  exact GN
 ·
  obtain ⟨a,hA0,ha0,hl0⟩:=B.a0 (by omega)
  have hl0:=hl0 (by omega)
  have hL0:=(gS.1 hA0).1
  obtain ⟨b,hA1,ha1,hl1⟩:=B.a1 (by omega)
  have hL1:=(gS.1 hA1).1
  have hF0:=OT (F:=c.F) (k:=a) (by omega)
  have hr0:=hsa (by omega) a (gM hA0)
  rw [EK] at hr0
  have hE0:=XS (E:=c.E) (k:=a) (by omega)
  have se0:=Df sE a
  obtain ⟨e0,he0⟩:∃ e,c.E[a]?.getD (0,0)=e:=⟨_,rfl⟩
  rw [he0] at se0 hE0
  obtain ⟨r0,hq0⟩:∃ r,scA c.F a=r:=⟨_,rfl⟩
  rw [hq0] at hF0 hr0
  have hI0:=Abu (R:=c.R) (k:=a) (by omega)
  have si0:=Bx sR a
  obtain ⟨P0,hP0⟩:∃ P,c.R[a]?.getD iZ=P:=⟨_,rfl⟩
  rw [hP0] at si0 hI0
  have MG0:=Ro P0 (si0.more LBx LBx)
  have sg0:=IZ si0
  obtain ⟨G0,hG0⟩:∃ G,FX P0=G:=⟨_,rfl⟩
  rw [hG0] at MG0 sg0
  have hF1:=OT (F:=c.F) (k:=b) (by omega)
  have hr1:=hsa (by omega) b (gM hA1)
  rw [EK] at hr1
  have hE1:=XS (E:=c.E) (k:=b) (by omega)
  have se1:=Df sE b
  obtain ⟨e1,he1⟩:∃ e,c.E[b]?.getD (0,0)=e:=⟨_,rfl⟩
  rw [he1] at se1 hE1
  obtain ⟨r1,hq1⟩:∃ r,scA c.F b=r:=⟨_,rfl⟩
  rw [hq1] at hF1 hr1
  have hI1:=Abu (R:=c.R) (k:=b) (by omega)
  have si1:=Bx sR b
  obtain ⟨P1,hP1⟩:∃ P,c.R[b]?.getD iZ=P:=⟨_,rfl⟩
  rw [hP1] at si1 hI1
  have MG1:=Ro P1 (si1.more LBx LBx)
  have sg1:=IZ si1
  obtain ⟨G1,hG1⟩:∃ G,FX P1=G:=⟨_,rfl⟩
  rw [hG1] at MG1 sg1
  have MA:=Gc G0 e1 sg0 se1 (by decide) (by decide) (by decide)
  have sMA:Sm (CB G0 e1) (LB+LB) (LB+LB):=Sm.mul sg0 se1 (by decide)
  have MB:=Gc G1 e0 sg1 se0 (by decide) (by decide) (by decide)
  have sMB:Sm (CB G1 e0) (LB+LB) (LB+LB):=Sm.mul sg1 se0 (by decide)
  have MC:=Gc e0 e1 se0 se1 (by decide) (by decide) (by decide)
  have sMC:Sm (CB e0 e1) (LB+LB) (LB+LB):=Sm.mul se0 se1 (by decide)
  obtain ⟨A,hA⟩:∃ q,CB G0 e1=q:=⟨_,rfl⟩
  rw [hA] at MA
  rw [hA] at sMA
  obtain ⟨Bq,hBq⟩:∃ q,CB G1 e0=q:=⟨_,rfl⟩
  rw [hBq] at MB
  rw [hBq] at sMB
  obtain ⟨Cq,hCq⟩:∃ q,CB e0 e1=q:=⟨_,rfl⟩
  rw [hCq] at MC
  rw [hCq] at sMC
  have D1:=DZ A Bq sMA sMB (by decide) (by decide)
  have t1:Sm (Dn A Bq) 16385 8192:=Sm.sum sMA sMB (by decide)
  obtain ⟨S1,hS⟩:∃ q,Dn A Bq=q:=⟨_,rfl⟩
  rw [hS] at D1 t1
  have D2:=DZ S1 Cq t1 sMC (by decide) (by decide)
  have t2:Sm (Dn S1 Cq) 24578 8192:=Sm.sum t1 (sMC.more (by decide) (by decide)) (by decide)
  obtain ⟨S2,hT⟩:∃ q,Dn S1 Cq=q:=⟨_,rfl⟩
  rw [hT] at D2 t2
  have ib:=IY (b:=decide (s - r0 - r1<0)) s0 s1
  have IX:=DY s s0 s1 (decide (s - r0 - r1<0))
  have D3:=DZ S2 (ixP (decide (s - r0 - r1<0)) s) t2 ib (by decide) (by decide)
  rw [show Aw ps c.F c.R c.E y s=Dn S2 (ixP (decide (s - r0 - r1<0)) s) by unfold Aw;rw [if_neg (by omega),if_neg (by omega),if_neg (by omega),if_neg (by omega),if_neg (by omega),if_neg (by omega),if_pos k,ha0,ha1,EK,EK,GI,GI,OB,OB,he0,he1,hq0,hq1,hP0,hP1,hG0,hG1,hA,hBq,hCq,hS,hT]]
  repeat' (with_reducible first|refine qq ?_|refine Gg ?_|refine GM ?_|refine Hy ?_|refine Ld ?_|(refine Tx 17 ?_;refine gO xEq <| gO xA ?_)|(refine Tx 18 ?_;refine gO xEq <| gO xA ?_)|(refine Tx 20 ?_;refine gO xEq <| gO xA ?_)|(refine Tx 21 ?_;refine gO xEq <| gO xA ?_)|(refine Tx 23 ?_;refine gO xEq <| gO xA ?_)|(refine Tx 26 ?_;refine gO xEq <| gO xA ?_)|(refine Ca (id:=27) AV (by kernel_rfl) ?_;refine gP xF <| gP xD <| gP (by first|exact xIr Ad (AI hA0)|exact xIr Ad (hE0)|exact xIr Ad (hE1)|exact xIr Ad (hI0)|exact xIr Ad (hI1)) <| gP xD <| gP xF <| gP xD <| gP (by first|exact xIr Ad (AI hA1)|exact xIr Ad (hE0)|exact xIr Ad (hE1)|exact xIr Ad (hI0)|exact xIr Ad (hI1)) <| gP xD <| gP xA <| gP xA ?_;refine Ke ?_)|(refine AG (id:=28) 26 AV (by kernel_rfl) ?_;dsimp only [List.take,List.drop];refine gP xF <| gP xD <| gP xM <| gP AnR <| gP xL <| gP Agr <| gP xF <| gP xD <| gP xM <| gP AeA <| gP xL <| gP AjB <| gP xF <| gP xD <| gP xM <| gP AnR <| gP xL <| gP Agr <| gP xF <| gP xD <| gP xM <| gP AeA <| gP xL <| gP AjB <| gP AbT <| gQ (xAl Aj) ?_;refine Ke ?_;refine gZ (xSk Aa) ?_)|(refine AG (id:=29) 30 AV (by kernel_rfl) ?_;dsimp only [List.take,List.drop];refine gP xL <| gP xF <| gP xD <| gP xM <| gP AeA <| gP xL <| gP xF <| gP xD <| gP xM <| gP AeA <| gP xL <| gP AjB <| gP AbT <| gP xM <| gP xM <| gP xF <| gP xD <| gP xM <| gP AnQ <| gP xD <| gP xSb <| gP xF <| gP xD <| gP xM <| gP AnQ <| gP xD <| gP xSb <| gP WK <| gP (xCl func98 (IX)) <| gP AbT ?_;refine Ke ?_;refine gZ (xSk Aa) ?_))
  exact GN
 ·
  obtain ⟨a,hA0,ha0,hl0⟩:=B.a0 (by omega)
  have hl0:=hl0 (by omega)
  have hL0:=(gS.1 hA0).1
  obtain ⟨b,hA1,ha1,hl1⟩:=B.a1 (by omega)
  have hL1:=(gS.1 hA1).1
  obtain ⟨m0,hm0⟩:∃ m,mvP c.F c.E s (a:Int)=m:=⟨_,rfl⟩
  have t0:=DW (F:=c.F) s0 s1 sE (a:Int)
  rw [hm0] at t0
  obtain ⟨m1,hm1⟩:∃ m,mvP c.F c.E s (b:Int)=m:=⟨_,rfl⟩
  have t1:=DW (F:=c.F) s0 s1 sE (b:Int)
  rw [hm1] at t1
  obtain ⟨X,hX⟩:=Aez (F:=c.F) (E:=c.E) (s:=s) hA0 hA1
  rw [hX,hm0,hm1]
  refine AQ (F':=ofL [(3,vr 0),(4,vr 1),(6,vr 2),(7,vr 3),(8,vi s),(9,vo 4 ((X.length+2)))]) (H':=[.box 26 [.d (DJ t ps),.d (Dc t bs),.d (Bd t os)],.box 30 [.d (Bd u c.F),.d (.row false 6 c.R.length (Av (dIw false) c.R)),.d (.row mk 3 c.E.length (Av dyP c.E))],.box 43 [.d (.val (.bool false)),.d (.val (.slice none 0 0)),.d (.val (.int .i64 0))],.box 63 [.d (.val (.int .i64 y.kind)),.d (Bd t y.args),.d (.val (.int .i64 y.vn)),.d (.val (.int .i64 y.ve)),.d (.val (.int .i64 y.un)),.d (.val (.int .i64 y.ue))],.row 43 3 (X.length+2) ((Av dyP (m0::m1::X)).map C.d)]) (Bu 5) ?_
  have C:=(NR Ah false false m0.1 m0.2 m1.1 m1.2 t0.ok t1.ok t0.lz t1.lz).cv
  rw [show Aw ps c.F c.R c.E y s=Gz m0 m1 by unfold Aw;rw [if_neg (by omega),if_neg (by omega),if_neg (by omega),if_neg (by omega),if_pos (by omega),ha0,ha1,hm0,hm1]]
  repeat' (with_reducible first|refine qq ?_|refine Gg ?_|refine GM ?_|refine Hy ?_|refine Ld ?_|(refine Tx 17 ?_;refine gO xEq <| gO xA ?_)|(refine Tx 18 ?_;refine gO xEq <| gO xA ?_)|(refine Tx 20 ?_;refine gO xEq <| gO xA ?_)|refine Agp ?_)
  exact GN
 ·
  obtain ⟨a,hA0,ha0,hl0⟩:=B.a0 (by omega)
  have hl0:=hl0 (by omega)
  have hL0:=(gS.1 hA0).1
  obtain ⟨b,hA1,ha1,hl1⟩:=B.a1 (by omega)
  have hL1:=(gS.1 hA1).1
  obtain ⟨m0,hm0⟩:∃ m,mvP c.F c.E s (a:Int)=m:=⟨_,rfl⟩
  have t0:=DW (F:=c.F) s0 s1 sE (a:Int)
  rw [hm0] at t0
  obtain ⟨m1,hm1⟩:∃ m,mvP c.F c.E s (b:Int)=m:=⟨_,rfl⟩
  have t1:=DW (F:=c.F) s0 s1 sE (b:Int)
  rw [hm1] at t1
  obtain ⟨X,hX⟩:=Aez (F:=c.F) (E:=c.E) (s:=s) hA0 hA1
  rw [hX,hm0,hm1]
  refine AQ (F':=ofL [(3,vr 0),(4,vr 1),(6,vr 2),(7,vr 3),(8,vi s),(9,vo 4 ((X.length+2)))]) (H':=[.box 26 [.d (DJ t ps),.d (Dc t bs),.d (Bd t os)],.box 30 [.d (Bd u c.F),.d (.row false 6 c.R.length (Av (dIw false) c.R)),.d (.row mk 3 c.E.length (Av dyP c.E))],.box 43 [.d (.val (.bool false)),.d (.val (.slice none 0 0)),.d (.val (.int .i64 0))],.box 63 [.d (.val (.int .i64 y.kind)),.d (Bd t y.args),.d (.val (.int .i64 y.vn)),.d (.val (.int .i64 y.ve)),.d (.val (.int .i64 y.un)),.d (.val (.int .i64 y.ue))],.row 43 3 (X.length+2) ((Av dyP (m0::m1::X)).map C.d)]) (Bu 5) ?_
  have C:=(NR Ah false false m0.1 m0.2 m1.1 m1.2 t0.ok t1.ok t0.lz t1.lz).cv
  rw [show Aw ps c.F c.R c.E y s=Gz m0 m1 by unfold Aw;rw [if_neg (by omega),if_neg (by omega),if_neg (by omega),if_neg (by omega),if_pos (by omega),ha0,ha1,hm0,hm1]]
  repeat' (with_reducible first|refine qq ?_|refine Gg ?_|refine GM ?_|refine Hy ?_|refine Ld ?_|(refine Tx 17 ?_;refine gO xEq <| gO xA ?_)|(refine Tx 18 ?_;refine gO xEq <| gO xA ?_)|(refine Tx 20 ?_;refine gO xEq <| gO xA ?_)|(refine Tx 21 ?_;refine gO xEq <| gO xA ?_)|refine Agp ?_)
  exact GN
 ·
  obtain ⟨a,hA0,ha0,hl0⟩:=B.a0 (by omega)
  have hl0:=hl0 (by omega)
  have hL0:=(gS.1 hA0).1
  obtain ⟨m0,hm0⟩:∃ m,mvP c.F c.E s (a:Int)=m:=⟨_,rfl⟩
  have t0:=DW (F:=c.F) s0 s1 sE (a:Int)
  rw [hm0] at t0
  obtain ⟨X,hX⟩:=Aey (F:=c.F) (E:=c.E) (s:=s) hA0
  rw [hX,hm0]
  refine AQ (F':=ofL [(3,vr 0),(4,vr 1),(6,vr 2),(7,vr 3),(8,vi s),(9,vo 4 ((X.length+1)))]) (H':=[.box 26 [.d (DJ t ps),.d (Dc t bs),.d (Bd t os)],.box 30 [.d (Bd u c.F),.d (.row false 6 c.R.length (Av (dIw false) c.R)),.d (.row mk 3 c.E.length (Av dyP c.E))],.box 43 [.d (.val (.bool false)),.d (.val (.slice none 0 0)),.d (.val (.int .i64 0))],.box 63 [.d (.val (.int .i64 y.kind)),.d (Bd t y.args),.d (.val (.int .i64 y.vn)),.d (.val (.int .i64 y.ve)),.d (.val (.int .i64 y.un)),.d (.val (.int .i64 y.ue))],.row 43 3 (X.length+1) ((Av dyP (m0::X)).map C.d)]) (Bu 5) ?_
  rw [show Aw ps c.F c.R c.E y s=m0 by unfold Aw;rw [if_neg (by omega),if_neg (by omega),if_neg (by omega),if_pos (by omega),ha0,hm0]]
  repeat' (with_reducible first|refine qq ?_|refine Gg ?_|refine GM ?_|refine Hy ?_|refine Ld ?_|(refine Tx 17 ?_;refine gO xEq <| gO xA ?_)|(refine Tx 18 ?_;refine gO xEq <| gO xA ?_)|(refine Tx 19 ?_;refine gO xM <| gO (xIo (i:=0) Af) <| gO xL <| gZ (xSk Aa) ?_))
  exact GN
 ·
  obtain ⟨a,hA0,ha0,hl0⟩:=B.a0 (by omega)
  have hl0:=hl0 (by omega)
  have hL0:=(gS.1 hA0).1
  obtain ⟨m0,hm0⟩:∃ m,mvP c.F c.E s (a:Int)=m:=⟨_,rfl⟩
  have t0:=DW (F:=c.F) s0 s1 sE (a:Int)
  rw [hm0] at t0
  obtain ⟨X,hX⟩:=Aey (F:=c.F) (E:=c.E) (s:=s) hA0
  rw [hX,hm0]
  refine AQ (F':=ofL [(3,vr 0),(4,vr 1),(6,vr 2),(7,vr 3),(8,vi s),(9,vo 4 ((X.length+1)))]) (H':=[.box 26 [.d (DJ t ps),.d (Dc t bs),.d (Bd t os)],.box 30 [.d (Bd u c.F),.d (.row false 6 c.R.length (Av (dIw false) c.R)),.d (.row mk 3 c.E.length (Av dyP c.E))],.box 43 [.d (.val (.bool false)),.d (.val (.slice none 0 0)),.d (.val (.int .i64 0))],.box 63 [.d (.val (.int .i64 y.kind)),.d (Bd t y.args),.d (.val (.int .i64 y.vn)),.d (.val (.int .i64 y.ve)),.d (.val (.int .i64 y.un)),.d (.val (.int .i64 y.ue))],.row 43 3 (X.length+1) ((Av dyP (m0::X)).map C.d)]) (Bu 5) ?_
  have WH:=Gb y.vn y.ve s (B.sv (by omega)) s0 s1
  have WU:=Gb y.un y.ue s (B.su k) s0 s1
  have ib:=IY (b:=(!Bf y.vn y.ve s || !Bf y.un y.ue s)) s0 s1
  have IX:=DY s s0 s1 (!Bf y.vn y.ve s || !Bf y.un y.ue s)
  have C:=(NR Ah false false m0.1 m0.2 (ixP (!Bf y.vn y.ve s || !Bf y.un y.ue s) s).1 (ixP (!Bf y.vn y.ve s || !Bf y.un y.ue s) s).2 t0.ok ib.ok t0.lz ib.lz).cv
  rw [show Aw ps c.F c.R c.E y s=Gz m0 (ixP (!Bf y.vn y.ve s || !Bf y.un y.ue s) s) by unfold Aw;rw [if_neg (by omega),if_neg (by omega),if_neg (by omega),if_neg (by omega),if_neg (by omega),if_neg (by omega),if_neg (by omega),if_pos k,ha0,hm0]]
  cases hw:Bf y.vn y.ve s
  case false =>
   exact Agq
  case true =>
   exact Agq
theorem Agt (k:p') (h:Hd9 p'→p:=by with_reducible first|(intro Z9;refine Ca (id:=1) AV (by kernel_rfl) ?_;refine gP xF <| gP xD <| gP xM <| gP (by first|exact xIr Ag (hIi)|exact xIr Ag (hEi)) <| gP xL <| gP (xCl func104 (MG)) <| gP xF <| gP xD <| gP xM <| gP (by first|exact xIr Af (hIi)|exact xIr Af (hEi)) <| gP xL <| gP (xCl func37 (AD1)) <| gP xF <| gP xD <| gP xM <| gP (by first|exact xIr Ad (AI hFi)|exact xIr Ad (hIi)|exact xIr Ad (hEi)) <| gP xD <| gP (xCl func111 (SM1)) <| gP Hh ?_;refine Ke ?_;exact Z9.o)|fail):p:=h ⟨k⟩
theorem Hz (h:p:=by
 exact Ax rfl (.cons_ (DD rfl (rfl)) .nil_)):p:=h
theorem Agu (h:p:=by first|exact xIr Ai (Dj hy)|exact xIr Ai (hIi)|exact xIr Ai (hEi)|exact xIr Ai (hIa)|exact xIr Ai (hEa)):p:=h
theorem Agv (h:p:=by first|exact xIr Ad (AI hFi)|exact xIr Ad (hIi)|exact xIr Ad (hEi)|exact xIr Ad (hIa)|exact xIr Ad (hEa)):p:=h
theorem Agw (h:p:=by first|exact xIr Ag (hIi)|exact xIr Ag (hEi)|exact xIr Ag (hIa)|exact xIr Ag (hEa)):p:=h
theorem Agx (h:p:=by first|exact xIr Af (hIi)|exact xIr Af (hEi)|exact xIr Af (hIa)|exact xIr Af (hEa)):p:=h
theorem Agy (h:p:=by first|exact xCl func111 (SM1)|exact xCl func111 (SM2)):p:=h
theorem Agz (h:p:=by first|exact xCl func37 (AD1)|exact xCl func37 (AD2)):p:=h
theorem Yb (t u:Bool) {ps:List Prt} {bs:List Bk} (os:List Int) (c:Ct) (hE:c.E.length=bs.length) (sE:∀ p∈c.E,Sm p LB LB) (i:Nat) {y:Bk} (hy:bs[i]?=some y) (B:Aco ps bs.length y) (hF:c.F.length=bs.length) (hR:c.R.length=bs.length) (sR:∀ p∈c.R,IwS p LB LB) (hn:bs.length≤1000000) (hs2:0≤scA c.F i∧scA c.F i≤30):CV prog Ah 40 [aDg t ps bs os,.agg (dCt u c),aI (i:Int)] [aB (Rx c.F c.R c.E y i)]:=by
 refine cvz func40 ntmps40 ?_
 have hil:=(gS.1 hy).1
 have hFi:=OT (F:=c.F) (k:=i) (by omega)
 obtain ⟨s,hs⟩:∃ s,scA c.F i=s:=⟨_,rfl⟩
 rw [hs] at hFi
 have hBl:=B.len
 rw [hs] at hs2
 have hIi:=Abu (R:=c.R) (k:=i) (by omega)
 have hEi:=XS (E:=c.E) (k:=i) (by omega)
 have si:=Bx sR i
 have se:=Df sE i
 obtain ⟨P,hP⟩:∃ P,c.R[i]?.getD iZ=P:=⟨_,rfl⟩
 obtain ⟨e,he⟩:∃ e,c.E[i]?.getD (0,0)=e:=⟨_,rfl⟩
 rw [hP] at si hIi
 rw [he] at se hEi
 have MG:=Ro P (si.more LBx LBx)
 have sg:=IZ si
 obtain ⟨M,hM⟩:∃ M,FX P=M:=⟨_,rfl⟩
 rw [hM] at MG sg
 have AD1:=(QR Ah false false M.1 M.2 e.1 e.2 sg.ok se.ok sg.lz se.lz).cv
 have ss1:=Sm.sum sg se (by decide)
 obtain ⟨S1,hS1⟩:∃ S,Ci M.1 M.2 e.1 e.2=S:=⟨_,rfl⟩
 rw [hS1] at AD1 ss1
 have hQ1:Dn M e=S1:=hS1
 have SM1:=OG S1 s (ss1.more (by decide) (by decide)) hs2.1 hs2.2
 have hb:Rx c.F c.R c.E y i=(Gd S1 s && (!decide (y.kind=11) || Gd (Dn (rG c.R (Cp y)).2 (eG c.E (Cp y))) s)):=by unfold Rx;rw [hs,hP,he,hM,hQ1]
 rw [hb]
 cases c1:Gd S1 s
 case false =>
  rw [c1] at SM1
  rw [fw]
  repeat' (with_reducible first|refine qq ?_|(refine Tx 0 ?_;refine gN xBo <| gN xBo <| gO xA ?_)|refine Agt ?_|(refine Tx 2 ?_;refine gO xA ?_))
  exact Hz
 rw [c1] at SM1
 rw [em]
 by_cases k11:y.kind=11
 case neg =>
  rw [decide_eq_false k11,dt,fy]
  repeat' (with_reducible first|refine qq ?_|(refine Tx 0 ?_;refine gN xBo <| gN xBo <| gO xA ?_)|refine Agt ?_|(refine Tx 3 ?_;refine gO xF <| gO xD <| gO xM <| gO (by first|exact xIr Ai (Dj hy)|exact xIr Ai (hIi)|exact xIr Ai (hEi)) <| gO xF <| gO xD <| gO xEq ?_)|(refine Tx 6 ?_;refine gO xA ?_))
  exact Hz
 rw [decide_eq_true k11,dr,di]
 obtain ⟨a,hA0,ha0,hl0⟩:=B.a0 (by omega)
 have hl0:=hl0 (by omega)
 have hL0:=(gS.1 hA0).1
 rw [ha0,OB,GI]
 have hIa:=Abu (R:=c.R) (k:=a) (by omega)
 have hEa:=XS (E:=c.E) (k:=a) (by omega)
 have sj:=Bx sR a
 have sf:=Df sE a
 obtain ⟨Q,hQ⟩:∃ Q,c.R[a]?.getD iZ=Q:=⟨_,rfl⟩
 obtain ⟨f,hf⟩:∃ f,c.E[a]?.getD (0,0)=f:=⟨_,rfl⟩
 rw [hQ] at sj hIa
 rw [hf] at sf hEa
 rw [hQ,hf]
 have sq:=sj.s2
 have AD2:=(QR Ah false false Q.2.1 Q.2.2 f.1 f.2 sq.ok sf.ok sq.lz sf.lz).cv
 have ss2:=Sm.sum sq sf (by decide)
 obtain ⟨S2,hS2⟩:∃ S,Ci Q.2.1 Q.2.2 f.1 f.2=S:=⟨_,rfl⟩
 rw [hS2] at AD2 ss2
 have hQ2:Dn Q.2 f=S2:=hS2
 have SM2:=OG S2 s (ss2.more (by decide) (by decide)) hs2.1 hs2.2
 rw [hQ2]
 repeat' (with_reducible first|refine qq ?_|(refine Tx 0 ?_;refine gN xBo <| gN xBo <| gO xA ?_)|(refine Ca (id:=1) AV (by kernel_rfl) ?_;refine gP xF <| gP xD <| gP xM <| gP Agw <| gP xL <| gP (xCl func104 (MG)) <| gP xF <| gP xD <| gP xM <| gP Agx <| gP xL <| gP Agz <| gP xF <| gP xD <| gP xM <| gP Agv <| gP xD <| gP Agy <| gP Hh ?_;refine Ke ?_)|(refine Tx 3 ?_;refine gO xF <| gO xD <| gO xM <| gO Agu <| gO xF <| gO xD <| gO xEq ?_)|(refine Tx 4 ?_;refine gO xF <| gO xD <| gO xM <| gO Agu <| gO xF <| gO xD <| gO (by first|exact xIr Ad (hIi)|exact xIr Ad (hEi)|exact xIr Ad (AI hA0)|exact xIr Ad (hIa)|exact xIr Ad (hEa)) <| gO xD <| gO xA ?_)|(refine Ca (id:=5) AV (by kernel_rfl) ?_;refine gP xF <| gP xD <| gP xM <| gP Agw <| gP xF <| gP xL <| gP xF <| gP xD <| gP xM <| gP Agx <| gP xL <| gP Agz <| gP xF <| gP xD <| gP xM <| gP Agv <| gP xD <| gP Agy <| gP xA ?_;refine Ke ?_))
 exact Hz
section
variable {ps:List Prt} {bs:List Bk} {os:List Int} {F:List Int} {R:List Iq} {E:List Pq} {i:Nat} {e:Pq}
theorem AeB (he:Bc ps bs os=0) (hF:UT bs F) (hl:R.length=bs.length) (sR:∀ p∈R,IwS p LB LB) (lE:E.length=bs.length) (sE:∀ p∈E,Sm p LB LB) (nE:∀ p∈E,0≤gv p):ckE ps bs os F (R.map Hg) (E.map CY)=0:=by
 unfold ckE
 rw [if_neg (not_not_intro he),if_pos ⟨hF.len,by rw [af];exact hl,by rw [af];exact lE⟩]
 refine Ga fun x hx=>?_
 obtain ⟨k,hk⟩:=fe hx
 rw [List.getElem?_zipWith] at hk
 rcases ha:(R.map Hg)[k]? with _|q
 ·rw [ha] at hk;cases hk
 rcases hb:(E.map CY)[k]? with _|r
 ·rw [ha,hb] at hk;cases hk
 rw [ha,hb] at hk
 cases hk
 rw [ag,ct] at ha hb
 obtain ⟨a,ha,rfl⟩:=ha
 obtain ⟨p,hp,rfl⟩:=hb
 have sa:=sR a (gM ha)
 have sp:=sE p (gM hp)
 have np:=nE p (gM hp)
 have n1:0≤p.1:=cm fun hn=>by
  have:=gr (show p.1<0 by omega) (Be (GQ - p.2))
  unfold gv at np
  omega
 unfold Mj
 rw [show rvP (CY p)=p from EJ p,show rvP (Hg a).1=a.1 from EJ a.1,show rvP (Hg a).2=a.2 from EJ a.2,QY sp.ok,show ivC (Hg a)=true from XI sa,FH sp,FH sa.s1,FH sa.s2]
 have hs:¬ sgI p.1<0:=by unfold sgI;(repeat' split) <;> omega
 simp [hs]
theorem AnT {p:Pq} {m:Nat} (h:Sm p n 62) (h0:0≤gv p) (hg:gv p<2 ^ (m+GQ)):Sm p (m+62) 62:=by
 refine ⟨h.ok,?_,h.d⟩
 have hp:=Be (GQ - p.2)
 have hd:=h.d
 have e:(2:Int) ^ (m+GQ)=2 ^ (m+p.2)*2 ^ (GQ - p.2):=by rw [←av];congr 1;have:=h.le;omega
 unfold gv at h0 hg
 rw [e] at hg
 have h2:p.1<2 ^ (m+p.2):=Int.lt_of_mul_lt_mul_right hg (bf hp)
 have h3:0≤p.1:=cm fun hn=>by
  have:=gr (show p.1<0 by omega) hp
  omega
 have h4:(2:Int) ^ (m+p.2)≤2 ^ (m+62):=US (by omega)
 have h8:((p.1.natAbs:Nat):Int)<((2 ^ (m+62):Nat):Int):=by
  rw [Int.natAbs_of_nonneg h3]
  push_cast
  omega
 exact_mod_cast h8
theorem AbU {a:Nat} (h:a≠i):eG (E.set i e) (a:Int)=eG E (a:Int):=by
 unfold eG
 rw [am,fu (fun h2=>h h2.symm)]
theorem Qb (B:Aco ps n y) (hno:y.kind≠0→∀ a∈y.args,a≠(i:Int)):Aw ps F R (E.set i e) y s=Aw ps F R E y s:=by
 have g0:y.kind≠0→y.kind≠1→eG (E.set i e) (Cp y)=eG E (Cp y):=fun k0 k1=>by
  obtain ⟨a,h1,h2,_⟩:=B.a0 k1
  rw [h2]
  exact AbU fun h=>hno k0 _ (gM h1) (by rw [h])
 have g1:(y.kind=3∨y.kind=4∨y.kind=7∨y.kind=8∨y.kind=9)→eG (E.set i e) (EN y)=eG E (EN y):=fun k=>by
  obtain ⟨a,h1,h2,_⟩:=B.a1 k
  rw [h2]
  exact AbU fun h=>hno (by omega) _ (gM h1) (by rw [h])
 have m0:y.kind≠0→y.kind≠1→mvP F (E.set i e) s (Cp y)=mvP F E s (Cp y):=fun a b=>by unfold mvP;rw [g0 a b]
 have m1:(y.kind=3∨y.kind=4∨y.kind=7∨y.kind=8∨y.kind=9)→mvP F (E.set i e) s (EN y)=mvP F E s (EN y):=fun a=>by unfold mvP;rw [g1 a]
 unfold Aw
 rcases B.hk with h|h|h|h|h|h|h|h|h|h|h|h
 ·rw [if_pos h,if_pos h]
 ·rw [if_neg (by omega),if_pos h,if_neg (by omega),if_pos h]
 all_goals
  first
  | rw [m0 (by omega) (by omega),m1 (by omega),g0 (by omega) (by omega),g1 (by omega)]
  | (have a:=m0 (by omega) (by omega);have b:=g0 (by omega) (by omega);simp [h,a,b])
theorem AeC {k:Nat} (B:Aco ps n y) (hno:y.kind≠0→∀ a∈y.args,a≠(i:Int)) (hk:k≠i):Rx F R (E.set i e) y k=Rx F R E y k:=by
 unfold Rx
 rw [fu (fun h2=>hk h2.symm)]
 by_cases h:y.kind=11
 ·obtain ⟨a,h1,h2,_⟩:=B.a0 (by omega)
  rw [h2,AbU fun h3=>hno (by omega) _ (gM h1) (by rw [h3])]
 ·simp [h]
def AeD (bs:List Bk) (i:Nat):Prop:=∀ y∈bs,y.kind≠0→∀ a∈y.args,a≠(i:Int)
theorem WL (he:Bc ps bs os=0) (hno:AeD bs i) {k:Nat} (hl:k<bs.length) (hk:k≠i):FY ps bs ⟨F,R,E.set i e⟩ k=FY ps bs ⟨F,R,E⟩ k:=by
 obtain ⟨y,hy⟩:∃ y,bs[k]?=some y:=⟨_,gE hl⟩
 have B:=UK he hy
 have hn:=hno y (gM hy)
 unfold FY
 rw [Ij hy]
 dsimp only
 rw [Qb B hn,AeC B hn hk,fu (fun h2=>hk h2.symm)]
theorem AbV (A:Tq ps bs os ⟨F,R,E⟩) (hno:AeD bs i) {y:Bk} (hy:bs[i]?=some y):FY ps bs ⟨F,R,E.set i e⟩ i=if Ir e (Aw ps F R E y (scA F i))<0 then 3 else if Rx F R (E.set i e) y i=false then 4 else 0:=by
 have B:=UK A.he hy
 have hl:=(gS.1 hy).1
 obtain ⟨h1,h2,_⟩:=A.parts hy
 unfold FY
 rw [Ij hy]
 dsimp only at h1 h2 ⊢
 have hE:(E.set i e)[i]?.getD (0,0)=e:=by rw [gm (by have:=A.ok.lE;dsimp only at this;omega)];rfl
 rw [h1,h2,Qb B (hno y (gM hy)),hE,if_neg (by decide),if_neg (by decide)]
section
variable (A:Tq ps bs os ⟨F,R,E⟩) (hF:UT bs F) (sR:∀ p∈R,IwS p LB LB) (hE:Lb bs E) (hno:AeD bs i) {y:Bk} (hy:bs[i]?=some y)
include A hF sR hE hno hy
theorem AbW (se:Sm e n 62) (hn:n≤LB) (h0:0≤gv e):ckE ps bs os F (R.map Hg) ((E.set i e).map CY)=0:=by
 refine AeB A.he hF A.ok.lR sR (by rw [bt];exact hE.len) (fun p hp=>?_) fun p hp=>?_
 ·rcases gy hp with hp|rfl
  ·exact (hE.sm p hp).more (by decide) (by decide)
  ·exact se.more hn (by decide)
 ·rcases gy hp with hp|rfl
  ·exact hE.nn p hp
  ·exact h0
theorem AbX (se:Sm e n 62) (hn:n≤LB) (h0:0≤gv e) {z:Int} (hz:FY ps bs ⟨F,R,E.set i e⟩ i=z):vfE ps bs os F (R.map Hg) ((E.set i e).map CY)=decide (z=0)∧vfP ps bs os F (R.map Hg) ((E.set i e).map CY)=if z=0 then (0,0) else (z,(i:Int)):=by
 have hc:=AbW A hF sR hE hno hy se hn h0
 have hl:=(gS.1 hy).1
 have hv:=A.ver
 unfold vfE vfP vfF
 rw [hc,Any,if_pos rfl]
 by_cases h:z=0
 ·have:vfK ps bs ⟨F,R,E.set i e⟩=none:=UR.2 fun k hk=>by
   by_cases hki:k=i
   ·rw [hki,hz,h]
   ·rw [WL A.he hno hk hki]
    exact hv k hk
  rw [this,if_pos h,decide_eq_true h]
  exact ⟨rfl,rfl⟩
 ·have:vfK ps bs ⟨F,R,E.set i e⟩=some i:=AbB hl (fun k hk=>by
   rw [WL A.he hno (by omega) (by omega)]
   exact hv k (by omega)) (by rw [hz];exact h)
  rw [this,if_neg h,decide_eq_false h]
  refine ⟨rfl,?_⟩
  show (FY ps bs ⟨F,R,E.set i e⟩ i,(i:Int))=_
  rw [hz]
theorem MS:Sm (Aw ps F R E y (scA F i)) 40064 9000∧0≤gv (Aw ps F R E y (scA F i))∧gv (Aw ps F R E y (scA F i))≤gv (E[i]?.getD (0,0)):=by
 have hl:=(gS.1 hy).1
 have hv:y.kind=6→DE y.vn y.ve:=fun h6=>LQ A.he hy (by rw [h6];rfl)
 have lb:∀ p∈E,Sm p LB LB:=Abz hE.sm
 have hs:=hF.sc i hl
 exact ⟨MQ hs.1 hs.2 sR lb hv,(Qa (ps:=ps) (F:=F) (y:=y) hs.1 hs.2 sR lb lb hv hE.inE).1,(A.parts hy).2.2.1⟩
theorem AeE (se:Sm e n 62) (hn:n≤LB) (hg:gv (E[i]?.getD (0,0))≤gv e):vfE ps bs os F (R.map Hg) ((E.set i e).map CY)=Rx F R (E.set i e) y i∧vfP ps bs os F (R.map Hg) ((E.set i e).map CY)=if Rx F R (E.set i e) y i=true then (0,0) else (4,(i:Int)):=by
 obtain ⟨sb,b0,b1⟩:=MS A hF sR hE hno hy
 have hc:¬ Ir e (Aw ps F R E y (scA F i))<0:=Int.not_lt.2 ((Oh se.le sb.le).2 (by omega))
 have hz:=AbV (e:=e) A hno hy
 rw [if_neg hc] at hz
 have h1:=AbX A hF sR hE hno hy se hn (by omega) hz
 cases hf:Rx F R (E.set i e) y i
 ·rw [hf] at h1;exact h1
 ·rw [hf] at h1;exact h1
theorem AeF (se:Sm e n 62) (hn:n≤LB) (h0:0≤gv e) (hg:gv e<gv (Aw ps F R E y (scA F i))):vfE ps bs os F (R.map Hg) ((E.set i e).map CY)=false∧vfP ps bs os F (R.map Hg) ((E.set i e).map CY)=(3,(i:Int)):=by
 obtain ⟨sb,b0,b1⟩:=MS A hF sR hE hno hy
 have hc:Ir e (Aw ps F R E y (scA F i))<0:=Int.not_le.1 fun h=>by have:=(Oh se.le sb.le).1 h;omega
 have hz:=AbV (e:=e) A hno hy
 rw [if_pos hc] at hz
 exact AbX A hF sR hE hno hy se hn h0 hz
theorem Apr (hb:sgI (Aw ps F R E y (scA F i)).1≠0):Sm (Dn (upQ (Aw ps F R E y (scA F i))) (-1,62)) 320 62∧0≤gv (Dn (upQ (Aw ps F R E y (scA F i))) (-1,62))∧gv (Dn (upQ (Aw ps F R E y (scA F i))) (-1,62))<gv (Aw ps F R E y (scA F i))∧Sm (upQ (Aw ps F R E y (scA F i))) 250 62:=by
 obtain ⟨sb,b0,b1⟩:=MS A hF sR hE hno hy
 generalize Aw ps F R E y (scA F i)=b at *
 obtain ⟨u1,u2,k,u3⟩:=AfQ sb.le
 have su:Sm (upQ b) 40064 62:=(MO (den:=62) sb.neg (by decide)).neg
 have hp:b.1≠0:=fun h=>hb (by rw [h];rfl)
 have hP:=Be (GQ - b.2)
 have hb0:0<gv b:=by
  unfold gv at b0 ⊢
  refine Int.mul_pos (cm fun hn=>?_) hP
  have:=gr (show b.1<0 by omega) hP
  omega
 have eE:=(hE.at_ i).1
 have lE:=Anv eE
 have h62:(2:Int) ^ (GQ - 62)≤2 ^ (128+GQ):=US (by unfold GQ;omega)
 have hsum:(2:Int) ^ (128+GQ)+2 ^ (128+GQ)=2 ^ (129+GQ):=by rw [show 129+GQ=(128+GQ)+1 by omega,il];omega
 have su2:Sm (upQ b) (129+62) 62:=AnT su (by omega) (by omega)
 have s1:Sm ((-1,62):Pq) (129+62) 62:=⟨⟨by decide,fun _=>by decide⟩,by decide,by decide⟩
 have hg:gv (Dn (upQ b) (-1,62))=gv (upQ b)+gv (-1,62):=Fx su.le s1.le
 have h1:gv (-1,62) = -2 ^ (GQ - 62):=by unfold gv;rw [Int.neg_one_mul]
 have hk:1≤k:=cm fun hn=>by
  have:=lh (show k≤0 by omega) (bf (Be (GQ - 62)))
  omega
 have hk2:2 ^ (GQ - 62)≤k*2 ^ (GQ - 62):=by
  have:=fg hk (bf (Be (GQ - 62)))
  rwa [jf] at this
 refine ⟨(Sm.sum su2 s1 (by decide)).more (by decide) (by decide),by omega,by omega,su2.more (by decide) (by decide)⟩
theorem AnU {z:Int} (z0:0≤z) (z1:z<256):Sm (DP (z,0) (-6)) 128 62∧Sm (Dn (E[i]?.getD (0,0)) (DP (z,0) (-6))) 191 62∧gv (E[i]?.getD (0,0))≤gv (Dn (E[i]?.getD (0,0)) (DP (z,0) (-6))):=by
 have eE:=(hE.at_ i).1
 have st:Sm (DP (z,0) (-6)) 128 62:=by
  show Sm (Ae z 0 (-6)) 128 62
  unfold Ae
  split
  ·exact Sm.mk_nf (m:=z) (n:=128) (d:=62) (p:=0+(-(max (-65536) (min (-6) 65536))).toNat) (by decide) (by decide) (Nat.lt_trans (show z.natAbs<256 by omega) (by decide))
  ·rename_i h;exact absurd h (by decide)
 have hs:=Oi (p:=(z,0)) (n:=6) (show 0+6≤GQ by decide) (by decide)
 have h0:0≤gv (DP (z,0) (-6)):=by
  have hz:0≤gv (z,0):=by rw [Oj];exact gu z0 (bf (Be GQ))
  rw [←hs] at hz
  exact Int.nonneg_of_mul_nonneg_left hz (by decide)
 refine ⟨st,(Sm.sum eE st (by decide)).more (by decide) (by decide),?_⟩
 rw [show gv (Dn (E[i]?.getD (0,0)) (DP (z,0) (-6)))=_ from Fx eE.le st.le]
 omega
end
end
open Go.ChangeShapes Go.WideShapes Go.ChangeAt Go.Joins Go.Deep
def AjC (w:World):Eh:=fun t b=>t=true∧b<w.heap.size
theorem AbY {A:Option Addr} {s c:Nat} {cs:List D} {xs:List Value} (h:An w w.heap.size A xs) (hc:n≤c) (hA:A=none→c=0) (hl:cs.length=n*s) (hr:AY (Br w (AjC w)) cs xs):Br w (AjC w) (.row true s n cs) (.slice A n c):=by
 refine .row xs hc hA hl hr.1 (fun hne=>?_) hr.2
 obtain ⟨b,off,h1,_,h2,h3⟩:=h (fun h0=>hne (by have:=hr.1;rw [h0] at this;exact cj (by simpa using this)))
 exact ⟨b,off,h1,⟨rfl,h2⟩,h3⟩
theorem AeG {zs:List Int}:∀ v∈Mk zs,v.oneCell'=true:=fun v hv=>by
 obtain ⟨z,_,rfl⟩:=List.mem_map.1 hv
 rfl
theorem AbZ {A:Option Addr} {zs:List Int} {c:Nat} (h:An w w.heap.size A (Mk zs)) (hc:zs.length≤c) (hA:A=none→c=0):Br w (AjC w) (Bd true zs) (.slice A zs.length c):=by
 unfold Bd
 rw [Alb]
 exact AbY h hc hA (by simp [Mk]) (VR AeG)
theorem AjD {ps:List Prt}:∀ v∈Rq Prt.cells ps,v.oneCell'=true:=fun v hv=>by
 obtain ⟨l,hl,hv⟩:=List.mem_flatten.1 hv
 obtain ⟨p,_,rfl⟩:=List.mem_map.1 hl
 simp only [Prt.cells,dk,dm,or_false] at hv
 rcases hv with rfl|rfl|rfl <;> rfl
theorem TA {α:Type} {f:α→List Value} {s:Nat} (hf:∀ x,(f x).length=s):∀ l:List α,(Rq f l).length=l.length*s
 | []=>by simp [Rq]
 | x::l=>by
  have ih:=TA hf l
  unfold Rq at ih ⊢
  rw [bp,fz,ak,ih,hf,bw,bj]
  omega
theorem AjE {A:Option Addr} {ps:List Prt} {c:Nat} (h:An w w.heap.size A (Rq Prt.cells ps)) (hc:ps.length≤c) (hA:A=none→c=0):Br w (AjC w) (DJ true ps) (.slice A ps.length c):=by
 unfold DJ
 rw [Xp Zw]
 exact AbY h hc hA (by rw [af];exact TA (f:=Prt.cells) (s:=3) (fun _=>rfl) ps) (VR AjD)
theorem AgA {w:World}:∀ {bs:List Bk},(∀ b∈bs,An w w.heap.size b.A (Mk b.args)∧b.args.length≤b.cap∧(b.A=none→b.cap=0))→AY (Br w (AjC w)) (Av (dBk true) bs) (Rq Bk.cells bs)
 | [],_=>.nil_
 | b::bs,h=>by
  have ih:=AgA (w:=w) (bs:=bs) fun x hx=>h x (by simp [hx])
  obtain ⟨h1,h2,h3⟩:=h b (by simp)
  exact .cons_ (.val rfl) (.cons_ (AbZ h1 h2 h3) (.cons_ (.val rfl) (.cons_ (.val rfl) (.cons_ (.val rfl) (.cons_ (.val rfl) ih)))))
theorem Aca (t:Bool):∀ bs:List Bk,(Av (dBk t) bs).length=bs.length*6
 | []=>rfl
 | b::bs=>by
  have ih:=Aca t bs
  show (Av (dBk t) ([b]++bs)).length=_
  rw [Nv,ak,ih,bw,bj]
  show 6+bs.length*6=_
  omega
section
variable {H:Type} {enc:TypeId × Value→H} {w:World} {spare:Nat→Bool} {held:Bool}
theorem AeH {r:Go.Reach} {b0:Nat} {v:Value} {d:DataW H} {p:List MemPlace} (hv:Value.okWide prog w r b0 26 v) (h:DataW.Trod enc prog w 0 spare held 26 v d p) :
  ∃ (ps:List Prt) (bs:List Bk) (os:List Int),EM w (AjC w) (aDg true ps bs os) v:=by
 obtain ⟨v0,v1,v2,y0,y1,y2,m,rfl,rfl,rfl,g0,g1,g2⟩:=open_agg3 underlying26 (by kernel_rfl) (by kernel_rfl) hv h
 obtain ⟨A1,c1,ps,rfl,n1,k1,l1,h1,b1⟩:=Sq Ala Uh (fun _=>rfl) (by decide) underlying22 underlying81 (by kernel_rfl) (Pp (by kernel_rfl)) (by kernel_rfl) rfl g0
 obtain ⟨A2,c2,bs,e2,l2,h2,b2⟩:=Sv g1
 obtain ⟨A3,c3,os,rfl,n3,k3,l3,h3,b3⟩:=IH underlying24 underlying3 (by kernel_rfl) g2
 have hs:(A2=none→c2=0)∧bs.length≤c2:=by
  rcases open_slice underlying23 g1 with ⟨hcs,_⟩|⟨a,len,cap,m,n,D,Pl,hcs,_,hl,hm,hmm,_,hx⟩
  ·have e3:v1=.slice none 0 0:=by simpa using hcs
   rw [e2] at e3
   simp only [Value.slice.injEq] at e3
   exact ⟨fun _=>e3.2.2,by omega⟩
  ·have e3:v1=.slice (some a) len cap:=by simpa using hcs
   rw [e2] at e3
   simp only [Value.slice.injEq] at e3
   exact ⟨fun h0=>(by rw [e3.1] at h0;cases h0),by omega⟩
 refine ⟨ps,bs,os,[.slice A1 ps.length c1,v1,.slice A3 os.length c3],rfl,?_⟩
 rw [e2]
 exact .cons_ (AjE h1 k1 n1) (.cons_ (AbY h2 hs.2 hs.1 (Aca true bs) (AgA fun b hb=>⟨(b2 b hb).2.2.2.1,(b2 b hb).2.1,(b2 b hb).1⟩)) (.cons_ (AbZ h3 k3 n3) .nil_))
end
def Aoh (w:World):Eh:=fun _ b=>b<w.heap.size
theorem Aoh.of {x:A} {v:Value} (h:EM w (AjC w) x v):EM w (Aoh w) x v:=h.mono (fun _ _ hb=>hb.2) fun _ _ _=>rfl
theorem AjF {f:FuncId} {args:List A} (h:CV prog Ah f args [aB true]) {w:World} (ht:Ah w) {vs:List Value} (ha:AY (EM w (Aoh w)) args vs) :
  Calls prog f vs.toArray w fun e w'=>e=.returned (.bool true)∧Below w.heap.size w w' :=
 (h w _ vs ht (fun t b hb=>hb) ha).mono fun e w' ⟨v,h1,h2,h3⟩=>by
  have h4:Br w' _ (dB true) v:=h2
  cases h4
  exact ⟨h1,h3⟩
structure RowA (α:Type) (s:Nat) where
 cs:List Value
 len:cs.length=s
 a:α
instance {α:Type} {s:Nat} [Inhabited α]:Inhabited (RowA α s):=⟨⟨List.replicate s undef,gg,default⟩⟩
section
variable {H:Type} {enc:TypeId × Value→H} {w:World} {spare:Nat→Bool} {held:Bool}
instance:Inhabited Rv:=⟨⟨false,[],0⟩⟩
end
section
variable {P:Program} {G:World→Prop} {o:Oper} {F:Frm} {H:List Ob}
theorem Acb {t e:Nat} {x y:Operand} {id off:Nat} {ty:TypeId} {cs:List C} {k:IntKind} {b:Bool} (ho:o.op=.indexAddr t x y) (hx:F.ev x=.one (.ref id off none)) (hH:H[id]?=some (.box ty cs)) (hy:F.ev y=.one (.d (.val (.int k (i:Int))))) (ht:P.underlying t=some (.array n e)) (hk:TyK P e b 1) (hi:i<n):AN P G o F H (.one (.ref id (off+i) none)) []:=BN fun b0 m a hp hcx hor=>by
 have hv:=Ba hor (x:=x) (by rw [ho];simp [Op.operands])
 have hw:=Dg (m:=m) (v:=a.eval y) (by rw [←hy];exact Ba hor (by rw [ho];simp [Op.operands]))
 rw [hx] at hv
 obtain ⟨g,q,he,hr⟩:=(Off.ref (off:=i) (id:=id) (o:=off) (k:=none)).get hcx hv (fun id o k hpk=>by cases hpk;exact ⟨_,getElem?_pre hp hH,rfl⟩)
 refine ⟨_,?_,hr⟩
 obtain ⟨f,hf,hf2⟩:=Option.map_eq_some_iff.1 hk.s
 unfold execOp
 simp [ho,he,hw,Instr.indexAt,run_underlying ht,Instr.sureAddr,asIntOf,sizeOf,typeInfo,hi,hf,hf2,lj]
end
section
variable {H:Type} {enc:TypeId × Value→H} {w:World} {spare:Nat→Bool} {held:Bool}
theorem Acc {r:Go.Reach} {b0:Nat} {v:Value} {d:DataW H} {p:List MemPlace} (hv:Value.okWide prog w r b0 83 v) (h:DataW.Trod enc prog w 0 spare held 83 v d p) :
  ∃ a b:Int,v=.agg #[.int .u8 a,.int .u8 b]∧0≤a∧a≤255∧0≤b∧b≤255:=by
 have hu:prog.underlying 83=some (.array 2 5):=by kernel_rfl
 have hc1:prog.cellsOf 5=1:=by kernel_rfl
 have hc2:prog.cellsOf 83=2:=by kernel_rfl
 unfold Value.okWide at hv
 rw [hu] at hv
 obtain ⟨cs,rfl,hs,_⟩:=hv
 obtain ⟨fuel,hf⟩:=h
 obtain ⟨xs,m,_,_,hl,hx,hi⟩:=DataW.trod_array hu hf
 rw [hc2] at hl hs
 rw [hc1] at hi
 have h0:=hi 0 (by decide)
 have h1:=hi 1 (by decide)
 obtain ⟨y0,e0⟩:∃ y,xs[0]?=some y:=⟨_,gE (by omega)⟩
 obtain ⟨y1,e1⟩:∃ y,xs[1]?=some y:=⟨_,gE (by omega)⟩
 rw [e0] at h0
 rw [e1] at h1
 obtain ⟨a,q0,_,w0⟩:=DataW.trod_int underlying5 h0
 obtain ⟨b,q1,_,w1⟩:=DataW.trod_int underlying5 h1
 have hcs:cs.toList=[.int .u8 a,.int .u8 b]:=by
  have hl2:cs.toList.length=2:=hl
  have q0:(cs.toList.drop (0*1)).take 1=[.int .u8 a]:=q0
  have q1:(cs.toList.drop (1*1)).take 1=[.int .u8 b]:=q1
  generalize cs.toList=l at *
  match l,hl2 with
  | [x,y],_=>simp at q0 q1;rw [q0,q1]
 obtain ⟨a0,a1⟩:=bounds_u8 w0
 obtain ⟨b0,b1⟩:=bounds_u8 w1
 exact ⟨a,b,by rw [show cs=#[.int .u8 a,.int .u8 b] from Array.toList_inj.1 hcs],a0,a1,b0,b1⟩
end
def eiV (ns:List Int):List Pq:=ns.map fun n=>Ae n 0 (-3)
theorem Aps {ns:List Int} {k:Nat} {n:Int} (h:ns[k]?=some n):(eiV ns)[k]?=some (Ae n 0 (-3)):=by unfold eiV;rw [ag,h];rfl
def UX:List Int:=[4,4,4,4]
def AjG:List Iq:=[CC [(-1,0),(1,0)],CC [(-1,0),(1,0)],CC [(-2,0),(2,0)],CC [(-2,0),(2,0)]]
def AjS:List Pq:=eiV [0,1,1,1]
def exCt:Ct:=⟨UX,AjG,AjS⟩
theorem Eg {t:Bool} {H:List Ob} {cs:List C} {ds:List D} (hc:cs=ds.map C.d) (h:∀ d∈ds,DQ d):AY (Fd t H) cs ds:=by
 subst hc
 exact AY.map_l.2 ⟨rfl,fun j a b ha hb=>by rw [ha] at hb;cases hb;exact .d fun _=>h _ (gM ha)⟩
theorem OH:∀ d∈Av (dIw false) AjG,DQ d:=fun d hd=>Cc (f:=dIw false) (fun a=>EH a) AjG d hd
def Yc:List (Rv × Rv):=AjG.map Hg
def AjH:List Rv:=AjS.map CY
theorem Apt:dCr false UX Yc AjH=dCt false exCt:=by
 unfold dCr dCt Yc AjH
 rw [Oy,UB]
 rfl
theorem AnV:∀ q∈Yc,RvL q.1∧RvL q.2:=fun q hq=>by
 obtain ⟨a,ha,rfl⟩:=List.mem_map.1 hq
 have key:(AjG.all fun a=>decide ((Ab a.1.1.natAbs).length≤40000) && decide ((Ab a.2.1.natAbs).length≤40000))=true:=by decide +kernel
 have:=List.all_eq_true.1 key a ha
 rw [ai,decide_eq_true_eq,decide_eq_true_eq] at this
 exact ⟨⟨Ay _,this.1⟩,⟨Ay _,this.2⟩⟩
theorem Apu:∀ r∈AjH,RvL r:=fun r hr=>by
 obtain ⟨a,ha,rfl⟩:=List.mem_map.1 hr
 have key:(AjS.all fun a=>decide ((Ab a.1.natAbs).length≤40000))=true:=by decide +kernel
 exact ⟨Ay _,of_decide_eq_true (List.all_eq_true.1 key a ha)⟩
theorem Apv:ckE flP flB flO UX Yc AjH=0:=by decide +kernel
theorem Apw:vfE flP flB flO UX Yc AjH=true:=by decide +kernel
theorem AgB:EB flP flB flO:=⟨by decide,by decide,by decide,by decide⟩
section
variable {P:Program} {G:World→Prop} {o:Oper} {F:Frm} {H:List Ob}
theorem AgC {m:Mm}:∀ {vs:List Value} {v:Value},Fj m (.agg (vs.map fun u=>.d (.val u))) v→v=.agg vs.toArray:=fun {vs v} h=>by
 obtain ⟨xs,rfl,hl⟩:=h
 have:xs=vs:=by
  refine ek fun j=>?_
  have hlen:=hl.1
  rw [af] at hlen
  cases hj:vs[j]? with
  | none =>
   rw [List.getElem?_eq_none_iff] at hj ⊢
   omega
  | some u =>
   have hlt:=(gS.1 hj).1
   obtain ⟨x,hx⟩:∃ x,xs[j]?=some x:=⟨_,gE (by omega)⟩
   have h1:=hl.2 j (.d (.val u)) x (by simp [hj]) hx
   have h2:Br m.w m.S (.val u) x:=h1
   cases h2
   exact hx
 rw [this]
theorem Acd {t t':TypeId} {x y:Operand} {b r:Bool} {op:BinOp} {xs ys:List Value} (ho:o.op=.binOp op t x y t') (hg:P.eqGuardType P.depth t=false) (hop:(op=.eql∧b=r)∨(op=.neq∧b=!r)) (hx:F.ev x=.agg (xs.map fun u=>.d (.val u))) (hy:F.ev y=.agg (ys.map fun u=>.d (.val u)))
  (he:∀ w,(Op.equalIn 10000 t (.agg xs.toArray) (.agg ys.toArray)).run P w=.ok r w):AN P G o F H (.one (.d (.val (.bool b)))) []:=BN fun b0 m a _ _ hor=>by
 have ex:=AgC (m:=m) (v:=a.eval x) (by rw [←hx];exact Ba hor (by rw [ho];simp [Op.operands]))
 have ey:=AgC (m:=m) (v:=a.eval y) (by rw [←hy];exact Ba hor (by rw [ho];simp [Op.operands]))
 refine ⟨.bool b,?_,Br.val rfl⟩
 unfold execOp
 simp only [ho,ex,ey]
 rw [ah]
 have h:((do eqGuard op t x y (.agg xs.toArray) (.agg ys.toArray);binOp op t (.agg xs.toArray) (.agg ys.toArray)):Sem Value).run P m.w=.ok (.bool b) m.w:=by
  rw [ah,run_eqGuard_agg m.w op t x y _ _ hg,au]
  rcases hop with ⟨rfl,rfl⟩|⟨rfl,rfl⟩
  ·rw [run_eql_struct,he,au]
  ·rw [run_neq_struct,he,au]
 rw [h]
 rfl
end
theorem Ace {P:Program} {fn:Func} {F:Frm} {H:List Ob} {ids:List Nat} {rows:List Nw} {t:Tmp} {ty ty' id k:Nat} {cs:List C} {ys:List Yr} (hk:TyK P ty true k) (hr:fn.results=#[.cell t ty]) (hF:F t=.one (.ref id 0 none)) (hH:H[id]?=some (.box ty' cs)) (hi:cs.length=k) (h:AY (YC ids rows) ys cs):AnE P fn F H ids rows (.agg ys):=by
 obtain ⟨⟨d,hu,hd⟩,hz⟩:=hk
 exact .cell hr hF hH hu hd (by rw [hz,hi]) h
theorem MT (l:List Pq):∀ d∈Av dyP l,DQ d:=fun d hd=>Cc (f:=dyP) (fun p=>Lz _ _) l d hd
theorem FI (l:List Int):∀ d∈l.map dI,DQ d:=fun d hd=>by
 obtain ⟨z,_,rfl⟩:=List.mem_map.1 hd
 exact .val _
theorem OI (a b c d:Int) (w:World):(Op.equalIn 10000 34 (.agg #[.int .i64 a,.int .i64 b]) (.agg #[.int .i64 c,.int .i64 d])).run prog w=.ok (a == c && b == d) w:=by
 have hS:prog.underlying 34=some (.struct (prog.fieldsOf 34)):=by kernel_rfl
 have hp:prog.stoodInHeld 34=false:=by kernel_rfl
 have hi:prog.underlying 3=some (.int .i64):=by kernel_rfl
 rw [show (10000:Nat)=9999+1 from rfl,run_equalIn_agg w 9999 34 _ _ hS hp]
 simp only [Program.fieldsOf,underlying34]
 go_simp
 cases h1:(a == c) <;> cases h2:(b == d) <;> simp_all
section
variable {G:World→Prop} {o:Oper} {F:Frm} {H:List Ob} {t':TypeId} {x y:Operand} {a b c d:Int} {r:Bool}
theorem Acf (ho:o.op=.binOp .eql 34 x y t') (hx:F.ev x=.agg [.d (.val (.int .i64 a)),.d (.val (.int .i64 b))]) (hy:F.ev y=.agg [.d (.val (.int .i64 c)),.d (.val (.int .i64 d))]) (hr:(a == c && b == d)=r):AN prog G o F H (.one (.d (.val (.bool r)))) [] :=
 Acd (xs:=[.int .i64 a,.int .i64 b]) (ys:=[.int .i64 c,.int .i64 d]) ho (by kernel_rfl) (.inl ⟨rfl,hr.symm⟩) hx hy (OI a b c d)
end
def Aoi:List Pq:=AjS.set 1 (Ae 1 0 (-4))
def exC2:Ct:=⟨UX,AjG,Aoi⟩
def AjI:List Rv:=Aoi.map CY
theorem AnW:dCr false UX Yc AjI=dCt false exC2:=by
 unfold dCr dCt Yc AjI
 rw [Oy,UB]
 rfl
theorem AnX:∀ r∈AjI,RvL r:=fun r hr=>by
 obtain ⟨a,ha,rfl⟩:=List.mem_map.1 hr
 have key:(Aoi.all fun a=>decide ((Ab a.1.natAbs).length≤40000))=true:=by decide +kernel
 exact ⟨Ay _,of_decide_eq_true (List.all_eq_true.1 key a ha)⟩
theorem AnY:ckE flP flB flO UX Yc AjI=0:=by decide +kernel
theorem AgD:vfE flP flB flO UX Yc AjI=false∧vfP flP flB flO UX Yc AjI=(3,1):=by decide +kernel
theorem Acg:∀ d∈dDg false flP flB flO,DQ d:=fun d hd=>by
 simp only [dDg,dk,dm,or_false] at hd
 rcases hd with rfl|rfl|rfl
 ·refine .row fun d hd=>?_
  simp [flP,Av,AjM] at hd
  rcases hd with rfl|rfl|rfl <;> exact .val _
 ·refine .row fun d hd=>?_
  obtain ⟨l,hl,hd⟩:=List.mem_flatten.1 hd
  obtain ⟨b,_,rfl⟩:=List.mem_map.1 hl
  simp only [dBk,dk,dm,or_false] at hd
  rcases hd with rfl|rfl|rfl|rfl|rfl|rfl
  ·exact .val _
  ·exact .row (FI _)
  all_goals exact .val _
 ·exact .row (FI _)
theorem UY (t:Bool) (ns:List Int) (hn:∀ z∈ns,-1000≤z∧z≤1000) (hl:ns.length≤1000000):CVN prog Ah 166 [.one (Bd t ns)] [⟨43,3,(eiV ns).length,Av dyP (eiV ns)⟩] (.one (.own 0 (eiV ns).length)):=by
 refine Tv QA func166 rfl ntmps166 (bi rfl) ?_
 repeat' (with_reducible first|refine qq ?_|(refine Tx 0 ?_;refine gO xA ?_)|(refine Tx 1 ?_;refine gO xA ?_))
 refine AQ (IC 3 43 3 rfl) ?_
 repeat' (with_reducible first|refine qq ?_|(refine Tx 2 ?_;refine gO xM <| gO xN <| gO xM ?_))
 refine AQ (Bu 1) (Aq (fun n Fr H=>∃ k:Nat,k≤ns.length∧n=ns.length - k∧Fr=ofL [(3,vo 0 (((eiV ns).take k).length)),(6,vd (Bd t ns)),(7,vi ns.length),(8,vi ((k:Nat)))]∧H=[.row 43 3 ((eiV ns).take (k)).length ((Av dyP ((eiV ns).take (k))).map C.d)]) (n0:=ns.length) ⟨0,ad _,rfl,rfl,rfl⟩ ?_)
 rintro n Fr H ⟨k,hk,rfl,rfl,rfl⟩
 by_cases hlt:k<ns.length
 case pos =>
  obtain ⟨z,hz⟩:∃ z,ns[k]?=some z:=⟨_,gE hlt⟩
  have hb:=hn z (gM hz)
  have OF:=QE (G:=Ah) z (by omega) (by omega)
  have SH:=EF (G:=Ah) false z 0 (-3) ⟨by decide,fun h=>absurd rfl h⟩ (lT (AC (k:=2) (by omega)) (by decide)) (by omega)
  obtain ⟨hap,hap2,hoL⟩:=Ok (Aps hz)
  repeat' (with_reducible first|refine qq ?_|(refine Tx 3 ?_;refine gO xLt ?_)|(refine Tx 4 ?_;refine gO (xIr Ad (AI hz)) <| gO xD <| gO xA ?_)|(refine Tx 5 ?_;refine gO xM <| gO xM <| gO (xCl func39 (OF.cv)) <| gO (xCl func38 (SH.cv)) <| gN (by exact Cf rfl Af Aj rfl rfl (by decide) (by decide)) <| gT (by exact Vs rfl rfl rfl rfl rfl rfl Af Aj (by omega) (by decide) (by decide) rfl hap hap2) <| gO xA ?_)|(refine Tx 6 ?_;refine gO xAd <| gO xM ?_))
  refine ⟨_,_,Bu 1,_,?_,k+1,by omega,rfl,rfl,rfl⟩
  ·omega
 obtain rfl:k=ns.length:=by omega
 have hel:(eiV ns).length=ns.length:=af ..
 rw [←hel,bc]
 repeat' (with_reducible first|refine qq ?_|(refine Tx 3 ?_;refine gO xLt ?_)|(refine Tx 7 ?_;refine gO xM <| gO xA ?_))
 exact ⟨.inl rfl,[0],by decide,.cons_ ⟨rfl,MT _⟩ .nil_,.tmp results166 rfl ⟨0,_,rfl,rfl,rfl,rfl⟩⟩
theorem WM (h:p:=by first|exact xCl func165 (I1)|exact xCl func165 (I2)):p:=h
theorem UZ  : CVN prog Ah 75 [] [⟨3,1,4,UX.map dI⟩,⟨45,6,4,Av (dIw false) AjG⟩,⟨43,3,4,Av dyP AjS⟩] (.agg [.own 0 4,.own 1 4,.own 2 4]):=by
 refine Tv QA func75 rfl ntmps75 (bi rfl) ?_
 have I1:=Tb (-1) 1 (by decide) (by decide)
 have I2:=Tb (-2) 2 (by decide) (by decide)
 have EI:=UY true [0,1,1,1] (by decide) (by decide)
 repeat' (with_reducible first|refine qq ?_|(refine Tx 0 ?_;refine gN (xAl Ns) ?_)|(refine Tx 1 ?_;refine gN (by exact Fm rfl rfl Ad CJ (by decide) (by decide) (by decide) rfl rfl rfl) <| gO WM <| gO WM <| gO WM <| gO WM <| gN (by exact Fm rfl rfl Ag Ak (by decide) (by decide) (by decide) rfl rfl rfl) <| gN (by exact Fm rfl rfl Ad CJ (by decide) (by decide) (by decide) rfl rfl rfl) <| gN (by exact AbI rfl func166 (by kernel_rfl) (by with_unfolding_all exact rfl) EI (by with_unfolding_all first|((repeat' first|exact Bh rfl rfl|refine Au rfl rfl ?_ ?_|refine DM rfl rfl ?_|refine BW rfl rfl ?_|exact AX rfl (fun h=>by cases h)|exact Ho rfl rfl|exact cexp_e rfl rfl|refine Cg rfl rfl rfl ?_) <;> fail)|fail)) <| gO (by exact AO rfl Qr rfl rfl) <| gZ (xSk CA) ?_))
 exact ⟨.inl rfl,[1,2,4],by decide,.cons_ ⟨rfl,FI _⟩ (.cons_ ⟨rfl,OH⟩ (.cons_ ⟨rfl,MT _⟩ .nil_)),Ace CA results75 rfl rfl rfl (.cons_ ⟨1,_,rfl,rfl,rfl,rfl⟩ (.cons_ ⟨2,_,rfl,rfl,rfl,rfl⟩ (.cons_ ⟨4,_,rfl,rfl,rfl,rfl⟩ .nil_)))⟩
theorem WN (h:p:=by first|exact De rfl Al rfl (OP rfl)|exact De rfl Al rfl (OP (by first|rfl|omega))|exact De rfl Al rfl (Si (by first|assumption|omega))|exact De rfl Al rfl rfl):p:=h
theorem Yd  : CV prog Ah 30 [] [aB true]:=by
 refine cvz func30 ntmps30 ?_
 have FC:=Abo
 have XC:=UZ
 have VC1:=EL false AgB UX Yc AjH AnV Apu (by decide) (by decide) (by decide)
 rw [Apw,Apv,Apt] at VC1
 generalize vfP flP flB flO UX Yc AjH=e1 at VC1
 have VC2:=EL false AgB UX Yc AjI AnV AnX (by decide) (by decide) (by decide)
 rw [AgD.1,AgD.2,AnY,AnW] at VC2
 have OF:=QE (G:=Ah) 1 (by decide) (by decide)
 have SH:=EF (G:=Ah) false 1 0 (-4) ⟨by decide,fun h=>absurd rfl h⟩ (by decide +kernel) (by decide)
 repeat' (with_reducible first|refine qq ?_|(refine Tx 0 ?_;refine gO xA ?_)|(refine Tx 1 ?_;refine gO (xCl func74 (FC)) ?_;refine Jl (by exact AbJ rfl func75 (by kernel_rfl) (by with_unfolding_all exact rfl) XC (by with_unfolding_all first|((repeat' first|exact Bh rfl rfl|refine Au rfl rfl ?_ ?_|refine DM rfl rfl ?_|refine BW rfl rfl ?_|exact AX rfl (fun h=>by cases h)|exact Ho rfl rfl|exact cexp_e rfl rfl|refine Cg rfl rfl rfl ?_) <;> fail)|fail)) ?_;refine gN (xAl Pn) <| gN (xAl Ns) <| gZ (xSk BK) <| gZ (xSk CA) ?_)|(refine Tx 2 ?_;refine gO xL <| gO xL <| gO (by exact Fa rfl func12 (by kernel_rfl) (by with_unfolding_all exact rfl) rfl VC1 (by with_unfolding_all exact Au rfl rfl ⟨false,BW rfl rfl (Eg rfl Acg)⟩ (Au rfl rfl ⟨false,BW rfl rfl (Au rfl rfl (Cg rfl rfl rfl (Eg rfl (FI UX))) (Au rfl rfl (Cg rfl rfl rfl (Eg rfl OH)) (Au rfl rfl (Cg rfl rfl rfl (Eg rfl (MT AjS))) (Bh rfl rfl))))⟩ (Bh rfl rfl)))) <| gO xMt <| gO xEx <| gO (by exact DB rfl rfl rfl) <| gO xEx <| gN (xAl CL) <| gO xA <| gZ (xSk Bb) <| gO xA ?_)|(refine AG (id:=3) 5 AV (by kernel_rfl) ?_;dsimp only [List.take,List.drop];refine gP xF <| gP xD <| gP (xCl func39 (OF.cv)) <| gP (xCl func38 (SH.cv)) <| gP (xIo (i:=1) Af) ?_;refine Ke ?_;refine gZ (xSk Aa) ?_)|(refine Tx 4 ?_;refine gO xL <| gO xL <| gO (by exact Fa rfl func12 (by kernel_rfl) (by with_unfolding_all exact rfl) rfl VC2 (by with_unfolding_all exact Au rfl rfl ⟨false,BW rfl rfl (Eg rfl Acg)⟩ (Au rfl rfl ⟨false,BW rfl rfl (Au rfl rfl (Cg rfl rfl rfl (Eg rfl (FI UX))) (Au rfl rfl (Cg rfl rfl rfl (Eg rfl OH)) (Au rfl rfl (Cg rfl rfl rfl (Eg rfl (MT Aoi))) (Bh rfl rfl))))⟩ (Bh rfl rfl)))) <| gO xMt <| gO xEx <| gO (by exact DB rfl rfl rfl) <| gO xEx <| gN (xAl CL) <| gO xA <| gZ (xSk Bb) <| gO xA ?_)|(refine Tx 5 ?_;refine gO xM <| gO WN <| gO xM ?_;(first|iterate 2 refine Jd ?_|(refine Jy xM1 ?_;refine Jy WN ?_));refine gO xPk <| gO xM ?_;(first|refine Jd ?_|refine Jy xM1 ?_);refine gO xPk <| gO xM ?_;(first|iterate 2 refine Jd ?_|(refine Jy xM1 ?_;refine Jy Hh ?_));refine gO xPk <| gO xM ?_;(first|iterate 3 refine Jd ?_|(refine Jy (xLa Bb) ?_;refine Jy (by exact AO rfl Dq rfl rfl) ?_;refine Jy (by first|exact Acf rfl rfl rfl rfl|exact xEq) ?_));refine gO xPk <| gO xA ?_))
 exact Hz
theorem Ach:prog.underlying 83=some (.array 2 5):=by kernel_rfl
section
variable {G:World→Prop} {o:Oper} {F:Frm} {H:List Ob} {t':TypeId} {x y:Operand} {a b c d:Int} {r:Bool}
theorem AjJ (ho:o.op=.binOp .neq 34 x y t') (hx:F.ev x=.agg [.d (.val (.int .i64 a)),.d (.val (.int .i64 b))]) (hy:F.ev y=.agg [.d (.val (.int .i64 c)),.d (.val (.int .i64 d))]) (hr:(!(a == c && b == d))=r):AN prog G o F H (.one (.d (.val (.bool r)))) [] :=
 Acd (xs:=[.int .i64 a,.int .i64 b]) (ys:=[.int .i64 c,.int .i64 d]) ho (by kernel_rfl) (.inr ⟨rfl,hr.symm⟩) hx hy (OI a b c d)
end
theorem Aci {bs:List Bk} {k:Nat} (h:∀ y∈bs.take k,y.kind≠0→∀ a∈y.args,a≠(i:Int)) (hy:bs[k]?=some y) (hk:y.kind≠0→∀ a∈y.args,a≠(i:Int)):∀ y∈bs.take (k+1),y.kind≠0→∀ a∈y.args,a≠(i:Int):=fun z hz=>by
 rw [ay,hy] at hz
 rcases List.mem_append.1 hz with hz|hz
 ·exact h z hz
 ·obtain rfl:z=y:=by simpa using hz
  exact hk
theorem AeI {l:List Int} {k:Nat} (h:∀ a∈l.take k,a≠(i:Int)) (ha:l[k]?=some a) (hk:a≠(i:Int)):∀ a∈l.take (k+1),a≠(i:Int):=fun z hz=>by
 rw [ay,ha] at hz
 rcases List.mem_append.1 hz with hz|hz
 ·exact h z hz
 ·obtain rfl:z=a:=by simpa using hz
  exact hk
theorem AgE {e:Pq} {bs:List Bk} (hE:Lb bs E) (se:Sm e n 62) (hn:n≤LB):(∀ r∈(E.set i e).map CY,RvL r)∧(∀ p∈E.set i e,Sm p LB LB):=by
 have h:∀ p∈E.set i e,Sm p LB LB:=fun p hp=>by
  rcases gy hp with hp|rfl
  ·exact (hE.sm p hp).more (by decide) (by decide)
  ·exact se.more hn (by decide)
 exact ⟨fun r hr=>by
  obtain ⟨p,hp,rfl⟩:=List.mem_map.1 hr
  exact Hq (h p hp) (by decide),h⟩
theorem AgF (k:p') (h:Hd9 p'→p:=by with_reducible first|(intro Z9;refine Tx 1 ?_;refine gO (xCl func30 (AW)) <| gO Hh <| gO xM ?_;(first|iterate 3 refine Jd ?_|(refine Jy (xLa BK) ?_;refine Jy (xCl func31 (LT)) ?_;refine Jy Hh ?_));refine gO xPk <| gO xM ?_;(first|iterate 4 refine Jd ?_|(refine Jy (xFa BO AP) ?_;refine Jy (xLd AP) ?_;refine Jy (xLn Ai) ?_;refine Jy xGt ?_));refine gO xPk <| gO xM ?_;(first|refine Jd ?_|refine Jy (xLa BK) ?_);refine Jd ?_;(first|refine Jd ?_|refine Jy xNe ?_);refine gO xPk <| gO xM ?_;(first|iterate 4 refine Jd ?_|(refine Jy (xFa BO AP) ?_;refine Jy (xLd AP) ?_;refine Jy (xLn Ai) ?_;refine Jy xEq ?_));refine gO xPk ?_;exact Z9.o)|fail):p:=h ⟨k⟩
theorem WO (k:p') (h:Hd9 p'→p:=by with_reducible first|(intro Z9;refine Tx 1 ?_;refine gO (xCl func30 (AW)) <| gO Hh <| gO xM ?_;(first|iterate 3 refine Jd ?_|(refine Jy (xLa BK) ?_;refine Jy (xCl func31 (LT)) ?_;refine Jy Hh ?_));refine gO xPk <| gO xM ?_;(first|iterate 4 refine Jd ?_|(refine Jy (xFa BO AP) ?_;refine Jy (xLd AP) ?_;refine Jy (xLn Ai) ?_;refine Jy xGt ?_));refine gO xPk <| gO xM ?_;(first|iterate 3 refine Jd ?_|(refine Jy (xLa BK) ?_;refine Jy (xCl func25 (CK)) ?_;refine Jy xNe ?_));refine gO xPk <| gO xM ?_;(first|iterate 4 refine Jd ?_|(refine Jy (xFa BO AP) ?_;refine Jy (xLd AP) ?_;refine Jy (xLn Ai) ?_;refine Jy xEq ?_));refine gO xPk ?_;exact Z9.o)|fail):p:=h ⟨k⟩
theorem AgG (k:p') (h:Hd9 p'→p:=by with_reducible first|(intro Z9;refine Tx 3 ?_;refine gO xL <| gO xM <| gO (by first|exact QO rfl rfl rfl (by decide) hm|exact RQ rfl rfl rfl (by omega)) <| gO (by first|exact CX rfl underlying5 underlying3 rfl hwr|exact Dz rfl underlying5 underlying3 rfl) <| gO xAd ?_;refine Jl (by exact Lc rfl func32 (by kernel_rfl) (by with_unfolding_all exact rfl) MK (by with_unfolding_all first|((repeat' first|exact Bh rfl rfl|refine Au rfl rfl ?_ ?_|refine DM rfl rfl ?_|refine BW rfl rfl ?_|exact AX rfl (fun h=>by cases h)|fail) <;> fail)|fail)) ?_;refine gO (by first|exact AbH rfl rfl|exact Vq rfl rfl) <| gO (by first|exact WE rfl rfl rfl|exact DB rfl rfl rfl) <| gO (by first|exact WE rfl rfl rfl|exact xEx) <| gO (by first|exact WE rfl rfl rfl|exact xEx) <| gN (xAl Ns) <| gZ (xSk CA) <| gO xA <| gO xA ?_;exact Z9.o)|fail):p:=h ⟨k⟩
theorem AgH (h:p:=by first|exact Oa rfl rfl rfl ldV Aa|exact xLa Bb):p:=h
theorem WP (h:p:=by first|exact Oa rfl rfl rfl ldV Aa|exact xLa BK):p:=h
theorem WQ (h:p:=by first|exact Oa rfl rfl rfl ldV Aa|exact xLa Aa):p:=h
theorem WR (h:p:=by first|exact Oa rfl rfl rfl ldV Aa|exact xLa CA):p:=h
theorem AgI (k:p') (h:Hd9 p'→p:=by with_reducible first|(intro Z9;refine Tx 18 ?_;refine gO WP <| gO WR <| gO xM <| gO (xCl func36 BD (ha:=by with_unfolding_all exact Au rfl rfl (BW rfl rfl (Au rfl rfl (AX rfl (fun h=>by cases h)) (Au rfl rfl (AX rfl (fun h=>by cases h)) (Au rfl rfl (AX rfl (fun h=>by cases h)) (Bh rfl rfl))))) (Au rfl rfl (BW rfl rfl (Au rfl rfl (Cg rfl rfl rfl (Cn rfl (Ds _))) (Au rfl rfl (AX rfl (fun h=>by cases h)) (Au rfl rfl (Cg rfl rfl rfl (Cn (He _) (DI _))) (Bh rfl rfl))))) (Au rfl rfl (DM rfl rfl (AX rfl (fun h=>by cases h))) (Bh rfl rfl))))) <| gN (xAl Aj) <| gZ (xSk Aa) ?_;exact Z9.o)|(intro Z9;refine Tx 20 ?_;refine gO WP <| gO WR <| gO (by exact Fa rfl func12 (by kernel_rfl) (by with_unfolding_all exact rfl) rfl VC (by with_unfolding_all exact Au rfl rfl ⟨true,BW rfl rfl (Au rfl rfl (AX rfl (fun h=>by cases h)) (Au rfl rfl (AX rfl (fun h=>by cases h)) (Au rfl rfl (AX rfl (fun h=>by cases h)) (Bh rfl rfl))))⟩ (Au rfl rfl ⟨false,BW rfl rfl (Au rfl rfl (Cg rfl rfl rfl (Cn rfl (Ds _))) (Au rfl rfl (AX rfl (fun _=>.row (Cc (f:=dIw false) EH _))) (Au rfl rfl (Cg rfl rfl rfl (Cn (He _) (DI _))) (Bh rfl rfl))))⟩ (Bh rfl rfl)))) <| gO xMt <| gO xEx <| gO (by exact DB rfl rfl rfl) <| gO xEx <| gN (xAl CL) <| gO xA <| gZ (xSk Bb) <| gO xA ?_;exact Z9.o)|(intro Z9;refine Tx 21 ?_;refine gO xM <| gO (xNE Al) <| gO xM ?_;(first|iterate 3 refine Jd ?_|(refine Jy xM1 ?_;refine Jy Hh ?_;refine Jy xM1 ?_));(first|iterate 4 refine Jd ?_|(refine Jy AgH ?_;refine Jy xM1 ?_;refine Jy (by exact AO rfl Dq rfl rfl) ?_;refine Jy (by first|exact AjJ (r:=false) rfl rfl rfl (by simp)|exact xNe) ?_));(first|refine Jd ?_|refine Jy xPk ?_);refine gO xPk <| gO xM ?_;(first|iterate 6 refine Jd ?_|(refine Jy xM1 ?_;refine Jy WP ?_;refine Jy WR ?_;refine Jy xM1 ?_;refine Jy (by exact Fa rfl func40 (by kernel_rfl) (by with_unfolding_all exact rfl) rfl FT (by with_unfolding_all exact Au rfl rfl ⟨true,BW rfl rfl (Au rfl rfl (AX rfl (fun h=>by cases h)) (Au rfl rfl (AX rfl (fun h=>by cases h)) (Au rfl rfl (AX rfl (fun h=>by cases h)) (Bh rfl rfl))))⟩ (Au rfl rfl ⟨false,BW rfl rfl (Au rfl rfl (Cg rfl rfl rfl (Cn rfl (Ds _))) (Au rfl rfl (AX rfl (fun _=>.row (Cc (f:=dIw false) EH _))) (Au rfl rfl (Cg rfl rfl rfl (Cn (He _) (DI _))) (Bh rfl rfl))))⟩ (Au rfl rfl ⟨true,DM rfl rfl (AX rfl (fun h=>by cases h))⟩ (Bh rfl rfl))))) ?_;refine Jy (by first|exact We rfl underlying4 rfl rfl rfl|exact xNe) ?_));refine gO xPk ?_;exact Z9.o)|(intro Z9;refine Tx 23 ?_;refine gO WQ <| gO (xCl func41 (SG)) <| gO xEq ?_;exact Z9.o)|fail):p:=h ⟨k⟩
theorem AgJ (h:p:=by first|exact CX rfl underlying5 underlying3 rfl hwb|exact Dz rfl underlying5 underlying3 rfl):p:=h
theorem AnZ (k:p') (h:Hd9 p'→p:=by with_reducible first|(intro Z9;refine AG (id:=19) 15 AV (by kernel_rfl) ?_;dsimp only [List.take,List.drop];refine gP xF <| gP xD <| gP xM <| gP xF <| gP xD <| gP xM <| gP (xIo (i:=i) Af) <| gP WQ <| gP (by exact Acb (i:=1) rfl rfl rfl rfl Ach GU (by decide)) <| gP xD <| gP AgJ <| gP (xCl func39 (OF)) <| gP (xCl func38 (SH)) <| gP (xCl func37 (AD)) <| gP (xIo (i:=i) Af) ?_;refine Ke ?_;refine gZ (by first|exact Wa rfl rfl rfl rfl Aa tl stV|exact xSk Aa) ?_;exact Z9.o)|(intro Z9;refine Tx 24 ?_;refine gO xA ?_;exact Z9.o)|fail):p:=h ⟨k⟩
theorem AgK (h:p:=by first|exact Wa rfl rfl rfl rfl Aa tl stV|exact Wa rfl rfl rfl rfl Aa tl2 stV2|exact xSk Aa):p:=h
theorem AgL (h:p:=by first|exact xCl func39 (OF)|exact xCl func39 (OF1)):p:=h
theorem AgM (h:p:=by first|exact xCl func38 (SH)|exact xCl func38 (SH1)):p:=h
theorem Aoa (k:p') (h:Hd9 p'→p:=by with_reducible first|(intro Z9;refine AG (id:=19) 15 AV (by kernel_rfl) ?_;dsimp only [List.take,List.drop];refine gP xF <| gP xD <| gP xM <| gP xF <| gP xD <| gP xM <| gP (xIo (i:=i) Af) <| gP WQ <| gP (by exact Acb (i:=1) rfl rfl rfl rfl Ach GU (by decide)) <| gP xD <| gP AgJ <| gP AgL <| gP AgM <| gP (xCl func37 (AD)) <| gP (xIo (i:=i) Af) ?_;refine Ke ?_;refine gZ AgK ?_;exact Z9.o)|(intro Z9;refine AG (id:=25) 9 AV (by kernel_rfl) ?_;dsimp only [List.take,List.drop];refine gP xF <| gP xD <| gP xM <| gP WQ <| gP (xCl func28 (UP)) <| gP AgL <| gP AgM <| gP (xCl func42 (SU)) <| gP (xIo (i:=i) Af) ?_;refine Ke ?_;refine gZ AgK ?_;exact Z9.o)|(intro Z9;refine Tx 26 ?_;refine gO WP <| gO WR <| gO (by exact Fa rfl func12 (by kernel_rfl) (by with_unfolding_all exact rfl) rfl VD (by with_unfolding_all exact Au rfl rfl ⟨true,BW rfl rfl (Au rfl rfl (AX rfl (fun h=>by cases h)) (Au rfl rfl (AX rfl (fun h=>by cases h)) (Au rfl rfl (AX rfl (fun h=>by cases h)) (Bh rfl rfl))))⟩ (Au rfl rfl ⟨false,BW rfl rfl (Au rfl rfl (Cg rfl rfl rfl (Cn rfl (Ds _))) (Au rfl rfl (AX rfl (fun _=>.row (Cc (f:=dIw false) EH _))) (Au rfl rfl (Cg rfl rfl rfl (Cn (He _) (DI _))) (Bh rfl rfl))))⟩ (Bh rfl rfl)))) <| gO xMt <| gO xEx <| gO (by exact DB rfl rfl rfl) <| gO xEx <| gO xA <| gZ (xSk Bb) <| gO xA ?_;exact Z9.o)|(intro Z9;refine Tx 27 ?_;refine gO xM <| gO WN <| gO xM ?_;(first|iterate 2 refine Jd ?_|(refine Jy xM1 ?_;refine Jy Hh ?_));refine gO xPk <| gO xM ?_;(first|iterate 4 refine Jd ?_|(refine Jy AgH ?_;refine Jy xM1 ?_;refine Jy (by exact AO rfl Dq rfl rfl) ?_;refine Jy (by first|exact Acf (r:=true) rfl rfl rfl (by simp)|exact xEq) ?_));refine gO xPk <| gO xA ?_;exact Z9.o)|fail):p:=h ⟨k⟩
theorem AgN (h:p:=by
 rw [v2] at VC
 dsimp only at VC
 by_cases hb0:sgI b.1=0
 case pos =>
  repeat' (with_reducible first|refine qq ?_|refine AgI ?_|refine AnZ ?_)
  exact Ax rfl (.cons_ (DD rfl (rfl)) .nil_)
 obtain ⟨se2,ne2,ge2,su2⟩:=LE hb0
 have UP:=AnM b (sb.more (by decide) (by decide))
 have OF1:=(QE (G:=Ah) 1 (by decide) (by decide)).cv
 have SH1:=(EF (G:=Ah) false 1 0 (-62) ⟨by decide,fun h=>absurd rfl h⟩ (lT (AC (k:=2) (by decide)) (by decide)) (by decide)).cv
 rw [show Ae 1 0 (-62)=(1,62) by decide] at SH1
 dsimp only at SH1
 have SU:=(Aim Ah false false (upQ b).1 (upQ b).2 1 62 su2.ok ⟨by decide,fun _=>by decide⟩ su2.lz (lT (AC (k:=2) (by decide)) (by decide))).cv
 obtain ⟨e2,he2⟩:∃ e2,Dn (upQ b) (-1,62)=e2:=⟨_,rfl⟩
 rw [show Ci (upQ b).1 (upQ b).2 (-1) 62=e2 from he2] at SU
 rw [he2] at se2 ne2 ge2
 have tl2:i<((c.E.set i e1).map some).length:=by rw [af,bt,hE.len];exact hil
 have stV2:((c.E.set i e1).map some).set i (some e2)=(c.E.set i e2).map some:=by rw [←fo,List.set_set]
 obtain ⟨r2,q2⟩:=AgE (i:=i) hE se2 (by decide)
 obtain ⟨w1,w2⟩:=VL e2 320 se2 (by decide) ne2 ge2
 have z2:=CZ e2 320 se2 (by decide) ne2
 have VD:=EL true hl c.F (c.R.map Hg) ((c.E.set i e2).map CY) (Oz sR (by decide)) r2 (by rw [hF.len];exact hl.l2) (by rw [af,hR];exact hl.l2) (by rw [af,bt,hE.len];exact hl.l2)
 rw [z2,Aeo,w1,w2] at VD
 unfold dCt Bd at VD
 try dsimp only at VD
 rw [hF.len,bt,hE.len,hR] at VD
 repeat' (with_reducible first|refine qq ?_|refine AgI ?_|refine Aoa ?_)
 exact Ax rfl (.cons_ (DD rfl (rfl)) .nil_)):p:=h
theorem Lf (ps:List Prt) (bs:List Bk) (os:List Int) (k:Int) (hk0:0≤k) (hk1:k<256) (a0 b0:Int) (ha0:0≤a0) (ha1:a0<256) (hb0:0≤b0) (hb1:b0<256):CV prog Ah 8 [aDg true ps bs os,.one (.val (.int .u8 k)),.agg [.val (.int .u8 a0),.val (.int .u8 b0)]] [aB true]:=by
 refine cvz func8 ntmps8 ?_
 have AW:=Yd
 have LT:=AdT ps bs os
 cases h1:LW ps bs os
 case false =>
  rw [h1] at LT
  repeat' (with_reducible first|refine qq ?_|(refine Tx 0 ?_;refine gN xBo <| gN xBo <| gO xA ?_)|refine AgF ?_|(refine Tx 2 ?_;refine gO (xCl func30 (AW)) <| gO xA ?_))
  exact Hz
 rw [h1] at LT
 have hl:=(AaN h1).1
 have hn:=hl.l2
 have hpn:=hl.l1
 by_cases h24:bs.length≤24
 case neg =>
  repeat' (with_reducible first|refine qq ?_|(refine Tx 0 ?_;refine gN xBo <| gN xBo <| gO xA ?_)|refine AgF ?_|(refine Tx 2 ?_;refine gO (xCl func30 (AW)) <| gO xA ?_))
  exact Hz
 have CK:=AaK true hl
 by_cases h0:Bc ps bs os=0
 case neg =>
  repeat' (with_reducible first|refine qq ?_|(refine Tx 0 ?_;refine gN xBo <| gN xBo <| gO xA ?_)|refine WO ?_|(refine Tx 2 ?_;refine gO (xCl func30 (AW)) <| gO xA ?_))
  exact Hz
 rw [h0] at CK
 by_cases hz:bs.length=0
 case pos =>
  repeat' (with_reducible first|refine qq ?_|(refine Tx 0 ?_;refine gN xBo <| gN xBo <| gO xA ?_)|refine WO ?_|(refine Tx 2 ?_;refine gO (xCl func30 (AW)) <| gO xA ?_))
  exact Hz
 obtain ⟨m,hm⟩:∃ m,k.tmod 16=m:=⟨_,rfl⟩
 have hm2:0≤m∧m<16:=by rw [←hm,ld hk0];omega
 have hwr:IntKind.i64.wrap m=m:=fq m (by omega)
 obtain ⟨f,e,l,hf,hres,hI⟩:=Abp h0 hl (1+m) (by omega)
 have MK:=XZ true hl h0 (1+m) (by omega) (by omega) hf hres hI
 rcases hmk:mkC ps bs os e l with _|c
 case none =>
  rw [hmk] at MK
  repeat' (with_reducible first|refine qq ?_|(refine Tx 0 ?_;refine gN xBo <| gN xBo <| gO xA ?_)|refine WO ?_|refine AgG ?_|(refine Tx 4 ?_;refine gO xM <| gO (xNE Al) <| gO xM ?_;(first|iterate 2 refine Jd ?_|(refine Jy xM1 ?_;refine Jy Hh ?_));refine gO xPk <| gO xM ?_;(first|iterate 2 refine Jd ?_|(refine Jy (xLa BK) ?_;refine Jy (xLa CA) ?_));refine Jd ?_;(first|refine Jd ?_|refine Jy xNe ?_);refine gO xPk ?_)|(refine Tx 5 ?_;refine gO xM <| gO WN <| gO xM ?_;(first|iterate 2 refine Jd ?_|(refine Jy xM1 ?_;refine Jy Hh ?_));refine gO xPk <| gO xA ?_))
  exact Hz
 rw [hmk] at MK
 obtain ⟨A,hF,hR,sR,hE,hv⟩:=Ajx h0 hI hmk
 have CR:=Aev true false hl c.F (c.R.map Hg) (c.E.map CY) (Oz sR (by decide)) (Apk hE) (by rw [hF.len];exact hl.l2) (by rw [af,hR];exact hl.l2) (by rw [af,hE.len];exact hl.l2) (AbG h0 hF hR sR hE)
 rw [Aeo] at CR
 unfold dCt Bd at CR
 try dsimp only at CR
 rw [hF.len,hE.len,hR] at CR
 obtain ⟨i,hi,hil⟩:∃ i:Nat,a0.tmod (bs.length:Int)=(i:Int)∧i<bs.length:=⟨(a0.tmod (bs.length:Int)).toNat,by have:=Int.tmod_nonneg (bs.length:Int) ha0;omega,by have:=Int.tmod_lt_of_pos a0 (show (0:Int)<bs.length by omega);have:=Int.tmod_nonneg (bs.length:Int) ha0;omega⟩
 have hwa:IntKind.i64.wrap a0=a0:=fq a0 (by omega)
 have hwb:IntKind.i64.wrap b0=b0:=fq b0 (by omega)
 repeat' (with_reducible first|refine qq ?_|(refine Tx 0 ?_;refine gN xBo <| gN xBo <| gO xA ?_)|refine WO ?_|refine AgG ?_|(refine Tx 4 ?_;refine gO xM <| gO (xNE Al) <| gO xM ?_;(first|iterate 2 refine Jd ?_|(refine Jy xM1 ?_;refine Jy Hh ?_));refine gO xPk <| gO xM ?_;(first|iterate 4 refine Jd ?_|(refine Jy (xLa BK) ?_;refine Jy (xLa CA) ?_;refine Jy (by exact Fa rfl func26 (by kernel_rfl) (by with_unfolding_all exact rfl) rfl CR (by with_unfolding_all exact Au rfl rfl ⟨true,BW rfl rfl (Au rfl rfl (AX rfl (fun h=>by cases h)) (Au rfl rfl (AX rfl (fun h=>by cases h)) (Au rfl rfl (AX rfl (fun h=>by cases h)) (Bh rfl rfl))))⟩ (Au rfl rfl ⟨false,BW rfl rfl (Au rfl rfl (Cg rfl rfl rfl (Cn rfl (Ds _))) (Au rfl rfl (AX rfl (fun _=>.row (Cc (f:=dIw false) EH _))) (Au rfl rfl (Cg rfl rfl rfl (Cn rfl (DI _))) (Bh rfl rfl))))⟩ (Bh rfl rfl)))) ?_;refine Jy xNe ?_));refine gO xPk ?_)|(refine Tx 6 ?_;refine gO (by exact Acb (i:=0) rfl rfl rfl rfl Ach GU (by decide)) <| gO xD <| gO (by first|exact CX rfl underlying5 underlying3 rfl hwa|exact Dz rfl underlying5 underlying3 rfl) <| gO xF <| gO xD <| gO xN <| gO (by first|exact QO rfl rfl rfl (by omega) hi|exact RQ rfl rfl rfl (by omega)) <| gO xA ?_)|(refine Tx 7 ?_;refine gO xF <| gO xD <| gO xN <| gO xM ?_))
 refine AQ (Bu 5) (Aq (fun n Fr H=>∃ k:Nat,k≤bs.length∧n=bs.length - k∧(∀ y∈bs.take k,y.kind≠0→∀ a∈y.args,a≠(i:Int))∧Fr=ofL [(3,vr 0),(5,vr 1),(7,vr 4),(10,vi ((i:Nat))),(80,vd (Dc true bs)),(81,vi bs.length),(82,vi ((k:Nat)))]∧H=[.box 26 [.d (DJ true ps),.d (Dc true bs),.d (Bd true os)],.box 83 [.d (.val (.int .u8 a0)),.d (.val (.int .u8 b0))],.row 3 1 bs.length ((c.F.map dI).map C.d),.row 43 3 bs.length ((Av dyP c.E).map C.d),.box 30 [.own 2 bs.length,.d (.row false 6 bs.length (Av (dIw false) c.R)),.own 3 bs.length]]) (n0:=bs.length) ⟨0,ad _,rfl,(fun y hy=>by simp at hy),rfl,rfl⟩ ?_)
 clear MK AW LT CK CR
 rintro n Fr H ⟨k,hk,rfl,hal,rfl,rfl⟩
 by_cases hlt:k<bs.length
 case pos =>
  obtain ⟨y,hy⟩:∃ y,bs[k]?=some y:=⟨_,gE hlt⟩
  have hyl:=(UK h0 hy).len
  by_cases k0:y.kind=0
  case pos =>
   repeat' (with_reducible first|refine qq ?_|(refine Tx 8 ?_;refine gO xLt ?_)|(refine Tx 9 ?_;refine gO (xIr Ai (Dj hy)) <| gO xL <| gN (xAl Bt) <| gZ (xSk Bi) ?_)|(refine Tx 10 ?_;refine gO xF <| gO xD <| gO xEq ?_)|(refine Tx 17 ?_;refine gO xAd <| gO xM ?_))
   refine ⟨_,_,Bu 5,_,by omega,k+1,by omega,rfl,Aci hal hy (fun h=>absurd k0 h),rfl,rfl⟩
  repeat' (with_reducible first|refine qq ?_|(refine Tx 8 ?_;refine gO xLt ?_)|(refine Tx 9 ?_;refine gO (xIr Ai (Dj hy)) <| gO xL <| gN (xAl Bt) <| gZ (xSk Bi) ?_)|(refine Tx 10 ?_;refine gO xF <| gO xD <| gO xEq ?_)|(refine Tx 11 ?_;refine gO xF <| gO xD <| gO xN <| gO xM ?_))
  refine AQ (Bu 5) (Aq (fun n Fr H=>∃ q:Nat,q≤y.args.length∧n=y.args.length - q∧(∀ a∈y.args.take q,a≠(i:Int))∧Fr=ofL [(3,vr 0),(5,vr 1),(7,vr 4),(10,vi ((i:Nat))),(80,vd (Dc true bs)),(81,vi bs.length),(82,vi ((k:Nat))),(90,vd (Bd true y.args)),(91,vi y.args.length),(92,vi ((q:Nat)))]∧H=[.box 26 [.d (DJ true ps),.d (Dc true bs),.d (Bd true os)],.box 83 [.d (.val (.int .u8 a0)),.d (.val (.int .u8 b0))],.row 3 1 bs.length ((c.F.map dI).map C.d),.row 43 3 bs.length ((Av dyP c.E).map C.d),.box 30 [.own 2 bs.length,.d (.row false 6 bs.length (Av (dIw false) c.R)),.own 3 bs.length]]) (n0:=y.args.length) ⟨0,ad _,rfl,(fun y hy=>by simp at hy),rfl,rfl⟩ ?_)
  rintro n Fr H ⟨q,hq,rfl,hqa,rfl,rfl⟩
  by_cases hlu:q<y.args.length
  case pos =>
   obtain ⟨z,hz⟩:∃ z,y.args[q]?=some z:=⟨_,gE hlu⟩
   by_cases he:z=(i:Int)
   case pos =>
    repeat' (with_reducible first|refine qq ?_|(refine Tx 12 ?_;refine gO xLt ?_)|(refine Tx 13 ?_;refine gO (xIr Ad (AI hz)) <| gO xD <| gO xA ?_)|(refine Tx 14 ?_;refine gO xM <| gO xM <| gO xEq ?_)|(refine Tx 15 ?_;refine gO xA ?_))
    exact Hz
   repeat' (with_reducible first|refine qq ?_|(refine Tx 12 ?_;refine gO xLt ?_)|(refine Tx 13 ?_;refine gO (xIr Ad (AI hz)) <| gO xD <| gO xA ?_)|(refine Tx 14 ?_;refine gO xM <| gO xM <| gO xEq ?_)|(refine Tx 16 ?_;refine gO xAd <| gO xM ?_))
   refine ⟨_,_,Bu 5,_,by omega,q+1,by omega,rfl,AeI hqa hz he,rfl,rfl⟩
  obtain rfl:q=y.args.length:=by omega
  rw [bc] at hqa
  repeat' (with_reducible first|refine qq ?_|(refine Tx 12 ?_;refine gO xLt ?_)|(refine Tx 17 ?_;refine gO xAd <| gO xM ?_))
  refine ⟨_,_,Bu 5,_,by omega,k+1,by omega,rfl,Aci hal hy (fun _=>hqa),rfl,rfl⟩
 obtain rfl:k=bs.length:=by omega
 clear hlt hk
 rw [bc] at hal
 have hno:AeD bs i:=hal
 repeat' (with_reducible first|refine qq ?_|(refine Tx 8 ?_;refine gO xLt ?_))
 refine AQ (WF (cs':=cVs (c.E.map some)) 3 rfl fun m xs h=>by rw [He];exact h) ?_
 obtain ⟨y,hy⟩:∃ y,bs[i]?=some y:=⟨_,gE hil⟩
 have B:=UK h0 hy
 have hs2:=hF.sc i hil
 have hsa:y.kind≠0→∀ a∈y.args,0≤sG c.F a∧sG c.F a≤30:=fun k0 a ha=>by have:=B.all k0 a ha;exact hF.sc a.toNat (by omega)
 have BD:=UW true true true os c hE.len (Abz hE.sm) i hy B hF.len hR sR hn hpn hs2 hsa
 skip
 unfold dCx Bd at BD
 try dsimp only at BD
 rw [hF.len,hE.len,hR] at BD
 obtain ⟨sb,nb,lb⟩:=MS A hF sR hE hno hy
 obtain ⟨st,se,ge⟩:=AnU A hF sR hE hno hy (z:=b0) hb0 (by omega)
 have VF:=fun e n (se:Sm e n 62) hn hg=>AeE A hF sR hE hno hy (e:=e) (n:=n) se hn hg
 have VL:=fun e n (se:Sm e n 62) hn h0 hg=>AeF A hF sR hE hno hy (e:=e) (n:=n) se hn h0 hg
 have CZ:=fun e n (se:Sm e n 62) hn h0=>AbW A hF sR hE hno hy (e:=e) (n:=n) se hn h0
 have LE:=Apr A hF sR hE hno hy
 obtain ⟨s0,n0⟩:=hE.at_ i
 have ldV:(c.E.map some)[i]?=some (some (c.E[i]?.getD (0,0))):=by rw [ag,gE (by rw [hE.len];exact hil)];rfl
 obtain ⟨b,hb⟩:∃ b,Aw ps c.F c.R c.E y (scA c.F i)=b:=⟨_,rfl⟩
 rw [hb] at BD sb nb lb VL LE
 obtain ⟨e0,he0⟩:∃ e0,c.E[i]?.getD (0,0)=e0:=⟨_,rfl⟩
 rw [he0] at se ge s0 n0 ldV lb VF
 obtain ⟨t,ht⟩:∃ t,DP (b0,0) (-6)=t:=⟨_,rfl⟩
 rw [ht] at st se ge
 have OF:=(QE (G:=Ah) b0 (by omega) (by omega)).cv
 have SH:=(EF (G:=Ah) false b0 0 (-6) ⟨by decide,fun h=>absurd rfl h⟩ (lT (AC (k:=2) (by omega)) (by decide)) (by decide)).cv
 rw [show Ae b0 0 (-6)=t from ht] at SH
 have AD:=(QR Ah false false e0.1 e0.2 t.1 t.2 s0.ok st.ok s0.lz st.lz).cv
 obtain ⟨e1,he1⟩:∃ e1,Dn e0 t=e1:=⟨_,rfl⟩
 rw [he1] at se ge
 rw [show Ci e0.1 e0.2 t.1 t.2=e1 from he1] at AD
 have tl:i<(c.E.map some).length:=by rw [af,hE.len];exact hil
 have stV:(c.E.map some).set i (some e1)=(c.E.set i e1).map some:=(fo ..).symm
 obtain ⟨r1,q1⟩:=AgE (i:=i) hE se (by decide)
 obtain ⟨v1,v2⟩:=VF e1 191 se (by decide) ge
 have z1:=CZ e1 191 se (by decide) (by omega)
 have VC:=EL true hl c.F (c.R.map Hg) ((c.E.set i e1).map CY) (Oz sR (by decide)) r1 (by rw [hF.len];exact hl.l2) (by rw [af,hR];exact hl.l2) (by rw [af,bt,hE.len];exact hl.l2)
 rw [z1,Aeo,v1] at VC
 unfold dCt Bd at VC
 try dsimp only at VC
 rw [hF.len,bt,hE.len,hR] at VC
 have FT:=Yb true false os ⟨c.F,c.R,c.E.set i e1⟩ (by dsimp only;rw [bt];exact hE.len) q1 i hy B hF.len hR sR hn hs2
 unfold dCt Bd at FT
 try dsimp only at FT
 rw [hF.len,bt,hE.len,hR] at FT
 have SG:=Wj b.1 b.2 sb.ok sb.lz
 cases hfq:Rx c.F c.R (c.E.set i e1) y i
 all_goals rw [hfq] at VC FT v2
 ·rw [if_neg (by decide)] at v2
  exact AgN
 ·rw [if_pos rfl] at v2
  exact AgN
end Go.Proofs.YtmdfjbpggbhgnaaGreatDoor
