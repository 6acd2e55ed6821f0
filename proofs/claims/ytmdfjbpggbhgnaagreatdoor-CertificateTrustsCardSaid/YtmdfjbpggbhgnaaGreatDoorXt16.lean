/- What the proofs of this claim share, part 16. No conditions. -/
import Derived.Test.YtmdfjbpggbhgnaaGreatDoorXt15
import Derived.Test.YtmdfjbpggbhgnaaGreatDoorXt9
import Derived.Test.YtmdfjbpggbhgnaaGreatDoorXt5
import Derived.Test.YtmdfjbpggbhgnaaGreatDoorXt14
import Derived.Test.YtmdfjbpggbhgnaaGreatDoorXt6
import Derived.Laws.StructEq
import Derived.Deep.RegionHeld3
set_option maxRecDepth 100000
set_option maxHeartbeats 8000000
set_option linter.all false
open Go.Proofs.Tryz
namespace Go.Proofs.YtmdfjbpggbhgnaaGreatDoor
open Go.RowKit
variable {p':Prop} {ps:List Prt} {bs:List Bk} {os:List Int} {i id j n t ty ty':Nat} {a:Iq} {P:Program} {F:Frm} {H:List Ob} {l:List Iq} {e s:Int} {y:Bk} {f:Nat→Int} {Y:List Ins} {V:List (Int × Nat)} {E:List Pq}
theorem Adx (t:Bool) (xs:List Int) (z:Int) (hn:xs.length≤1000000):CV prog An 170 [.one (Ba t xs),aI z] [aB (xs.contains z)]:=by
 refine cvz func170 ntmps170 ?_
 repeat' (with_reducible first|refine qq ?_|(refine Tx 0 ?_;refine gO xA ?_)|(refine Tx 1 ?_;refine gO xM <| gO xN <| gO xM ?_))
 refine Bi (BE 0) (Aq (fun n Fr H=>∃ k:Nat,k≤xs.length∧n=xs.length - k∧(xs.take k).contains z=false∧Fr=ofL [(1,vi z),(7,vd (Ba t xs)),(8,vi xs.length),(9,vi ((k:Nat)))]∧H=[]) (n0:=xs.length) ⟨0,ad _,rfl,rfl,rfl,rfl⟩ ?_)
 rintro n Fr H ⟨k,hk,rfl,hc,rfl,rfl⟩
 by_cases hlt:k<xs.length
 case pos =>
  obtain ⟨x,hx⟩:∃ x,xs[k]?=some x:=⟨_,gE hlt⟩
  by_cases he:x=z
  case pos =>
   have hb:xs.contains z=true:=List.contains_iff_mem.2 (by rw [←he];exact gM hx)
   rw [hb]
   repeat' (with_reducible first|refine qq ?_|(refine Tx 2 ?_;refine gO xLt ?_)|(refine Tx 3 ?_;refine gO (xIr Af (AF hx)) <| gO xD <| gO xA ?_)|(refine Tx 4 ?_;refine gO xM <| gO xM <| gO xEq ?_)|(refine Tx 5 ?_;refine gO xA ?_))
   exact Ax rfl (.cons_ (DJ rfl (rfl)) .nil_)
  repeat' (with_reducible first|refine qq ?_|(refine Tx 2 ?_;refine gO xLt ?_)|(refine Tx 3 ?_;refine gO (xIr Af (AF hx)) <| gO xD <| gO xA ?_)|(refine Tx 4 ?_;refine gO xM <| gO xM <| gO xEq ?_)|(refine Tx 6 ?_;refine gO xAd <| gO xM ?_))
  refine ⟨_,_,BE 0,_,by omega,k+1,by omega,rfl,(by rw [aw,hx,fe,List.contains_append,hc,ei];simp [Ne.symm he]),rfl,rfl⟩
 obtain rfl:k=xs.length:=by omega
 rw [ay] at hc
 rw [hc]
 repeat' (with_reducible first|refine qq ?_|(refine Tx 2 ?_;refine gO xLt ?_)|(refine Tx 7 ?_;refine gO xA ?_))
 exact Ax rfl (.cons_ (DJ rfl (rfl)) .nil_)
theorem Ww (t:Bool) (y:Bk):CVB prog An 171 [.agg (dBk t y)] (Ba t (if y.kind=0 then [] else y.args)):=by
 refine Aiu Uf func171 ntmps171 (bf rfl) rfl ?_
 by_cases k0:y.kind=0
 case pos =>
  rw [if_pos k0]
  repeat' (with_reducible first|refine qq ?_|(refine Tx 0 ?_;refine gN xBo <| gO xA ?_)|(refine Tx 1 ?_;refine gO xF <| gO xD <| gO xEq ?_)|(refine Tx 2 ?_;refine gO xA ?_)|(refine Tx 3 ?_;refine gO xF <| gO xD <| gO xA ?_))
  exact ⟨.inl rfl,_,_,results171,rfl,SE⟩
 rw [if_neg k0]
 repeat' (with_reducible first|refine qq ?_|(refine Tx 0 ?_;refine gN xBo <| gO xA ?_)|(refine Tx 1 ?_;refine gO xF <| gO xD <| gO xEq ?_)|(refine Tx 2 ?_;refine gO xA ?_)|(refine Tx 3 ?_;refine gO xF <| gO xD <| gO xA ?_))
 exact ⟨.inl rfl,_,_,results171,rfl,fun _ _ _ h=>h⟩
theorem AlT {p:Prop} (k:p') (h:Hd9 p'→p:=by with_reducible first|(intro Z9;refine Tx 5 ?_;refine gO xM <| gO (xIr Aj (DK hy)) <| gO xL <| gN (xAl Bw) <| gO xA <| gZ (xSk Bm) ?_;exact Z9.o)|(intro Z9;refine Tx 6 ?_;refine gO xF <| gO xD <| gO xEq <| gO xM ?_;(first|iterate 3 refine Jd ?_|(refine Jy xM1 ?_;refine Jy xM1 ?_;refine Jy (xCl func170 HC (ha:=by with_unfolding_all first|((repeat' first|exact CF rfl rfl|refine BG rfl rfl ?_ ?_|refine GO rfl rfl ?_|refine EV rfl rfl ?_|exact CA rfl (fun h=>by cases h)|exact Yb rfl rfl rfl rfl) <;> fail)|fail)) ?_));refine gO xPk ?_;exact Z9.o)|fail):p:=h ⟨k⟩
theorem AlU {p:Prop} (k:p') (h:Hd9 p'→p:=by with_reducible first|(intro Z9;refine Tx 10 ?_;refine gO (xIr Af (AF hz)) <| gO xD <| gO xA ?_;exact Z9.o)|(intro Z9;refine Tx 11 ?_;refine gO xM <| gO xM ?_;(first|iterate 8 refine Jd ?_|(refine Jy (xFa BM AQ) ?_;refine Jy (xLd AQ) ?_;refine Jy xM1 ?_;refine Jy (by exact TR (i:=z.toNat) rfl rfl rfl hzn Aj (by omega) (by decide) (DK hx)) ?_;refine Jy (xFa Dj Ak) ?_;refine Jy (xLd Ak) ?_;refine Jy xEq ?_;refine Jy xM1 ?_));(first|iterate 3 refine Jd ?_|(refine Jy xM1 ?_;refine Jy xM1 ?_;refine Jy (xCl func170 HZ (ha:=by with_unfolding_all first|((repeat' first|exact CF rfl rfl|refine BG rfl rfl ?_ ?_|refine GO rfl rfl ?_|refine EV rfl rfl ?_|exact CA rfl (fun h=>by cases h)|exact Yb rfl rfl rfl rfl) <;> fail)|fail)) ?_));(first|refine Jd ?_|refine Jy xPk ?_);refine gO xPk <| gO xA ?_;exact Z9.o)|(intro Z9;refine Tx 12 ?_;refine gO xAd <| gO xM ?_;exact Z9.o)|fail):p:=h ⟨k⟩
theorem Ady {p:Prop} (h:p:=by
 refine ⟨_,_,Qu _ 2 ?_ ?_ ?_,_,by omega,k+1,by omega,rfl,hN.succ hr,rfl,rfl⟩
 ·rfl
 ·exact mB rfl rfl
 ·exact ⟨Dl rfl,TU,trivial⟩):p:=h
theorem Aix {p:Prop} (h:p:=by
 refine ⟨_,_,Qu _ 2 ?_ ?_ ?_,_,by omega,u+1,_,by omega,rfl,by rw [hst,←hb,hdz];try rfl,rfl,rfl⟩
 ·rfl
 ·exact mB rfl rfl
 ·exact ⟨Dl rfl,TU,trivial⟩):p:=h
theorem ZV (t:Bool) {ps:List Prt} {bs:List Bk} {os:List Int} (hl:FK ps bs os) (hS:XA bs):CV prog An 78 [aDg t ps bs os] [.one (Ba false (BK (BH bs)))]:=by
 refine cvz func78 ntmps78 ?_
 have hl2:=hl.l2
 have hnd:=GP bs
 repeat' (with_reducible first|refine qq ?_|(refine Tx 0 ?_;refine gN xBo <| gO xA ?_)|(refine Tx 1 ?_;refine gO xA ?_))
 refine Bi (LM 3 3 1 rfl) ?_
 refine Bi (BE 2) (Aq (fun n Fr H=>∃ out:List Nat,Lj bs out∧n=CQ bs - out.length∧Fr=ofL [(1,vr 0),(3,vo 1 ((BK out).length))]∧H=[.box 26 [.d (Dh t ps),.d (DC t bs),.d (Ba t os)],.row 3 1 (BK out).length (cI (BK out))]) (n0:=CQ bs) ⟨[],Lj.nil bs,rfl,rfl,rfl⟩ ?_)
 rintro n Fr H ⟨out,hO,rfl,rfl,rfl⟩
 have hle:=hO.ok.le
 have hnl:=CR out
 repeat' (with_reducible first|refine qq ?_|(refine Tx 2 ?_;refine gO xA ?_)|(refine Tx 3 ?_;refine gO xF <| gO xD <| gO xN <| gO xM ?_))
 refine Bi (BE 2) (Aq (fun n Fr H=>∃ k:Nat,k≤bs.length∧n=bs.length - k∧Sf bs out k∧Fr=ofL [(1,vr 0),(3,vo 1 ((BK out).length)),(4,vi (-1)),(11,vd (DC t bs)),(12,vi bs.length),(13,vi ((k:Nat)))]∧H=[.box 26 [.d (Dh t ps),.d (DC t bs),.d (Ba t os)],.row 3 1 (BK out).length (cI (BK out))]) (n0:=bs.length) ⟨0,ad _,rfl,Sf.zero bs out,rfl,rfl⟩ ?_)
 rintro n Fr H ⟨k,hk,rfl,hN,rfl,rfl⟩
 by_cases hlt:k<bs.length
 case pos =>
  obtain ⟨y,hy⟩:∃ y,bs[k]?=some y:=⟨_,gE hlt⟩
  have HC:=Adx true (BK out) (k:Int) (by omega)
  rw [XH] at HC
  have hdb:=XJ (out:=out) hy
  generalize out.contains k=ck at HC hdb
  by_cases k2:y.kind=2
  case pos =>
   have hr:rdy bs out k=false:=by rw [Pr,hdb,k2];rfl
   repeat' (with_reducible first|refine qq ?_|(refine Tx 4 ?_;refine gO xLt ?_)|refine AlT ?_|(refine Tx 15 ?_;refine gO xAd <| gO xM ?_))
   exact Ady
  rw [DQ k2,ei] at hdb
  cases ck
  case true =>
   have hr:rdy bs out k=false:=by rw [Pr,hdb];rfl
   repeat' (with_reducible first|refine qq ?_|(refine Tx 4 ?_;refine gO xLt ?_)|refine AlT ?_|(refine Tx 15 ?_;refine gO xAd <| gO xM ?_))
   exact Ady
  have hrd:rdy bs out k=(GD bs k).all fun z=>EA bs out z.toNat:=by rw [Pr,hdb];rfl
  have BF:=Ww t y
  obtain ⟨xs,hxs⟩:∃ xs,GD bs k=xs:=⟨_,rfl⟩
  rw [←Oh hy,hxs] at BF
  have hxl:xs.length≤1000000:=by rw [←hxs,Oh hy];have:=hl.la y (gM hy);split <;> first|exact this|exact ad _
  have hbd:∀ z∈xs,0≤z∧z<(bs.length:Int):=fun z hz=>hS k hlt z (by rw [hxs];exact hz)
  rw [hxs] at hrd
  repeat' (with_reducible first|refine qq ?_|(refine Tx 4 ?_;refine gO xLt ?_)|refine AlT ?_|(refine Tx 7 ?_;refine gO xA ?_)|(refine Tx 8 ?_;refine gO xL <| gO (xCb func171 BF) <| gO xN <| gO xM ?_))
  refine Bi (BE 2) (Aq (fun n Fr H=>∃ (u:Nat) (b:Bool),u≤xs.length∧n=xs.length - u∧b=Akx bs out xs u∧Fr=ofL [(1,vr 0),(3,vo 1 ((BK out).length)),(4,vi (-1)),(5,vi ((k:Nat))),(7,vd (.val (.bool b))),(11,vd (DC t bs)),(12,vi bs.length),(13,vi ((k:Nat))),(27,vd (Ba t xs)),(28,vi xs.length),(29,vi ((u:Nat)))]∧H=[.box 26 [.d (Dh t ps),.d (DC t bs),.d (Ba t os)],.row 3 1 (BK out).length (cI (BK out))]) (n0:=xs.length) ⟨0,true,ad _,rfl,rfl,rfl,rfl⟩ ?_)
  rintro n Fr H ⟨u,b,hu,rfl,hb,rfl,rfl⟩
  by_cases hlu:u<xs.length
  case pos =>
   obtain ⟨z,hz⟩:∃ z,xs[u]?=some z:=⟨_,gE hlu⟩
   obtain ⟨z0,z1⟩:=hbd z (gM hz)
   obtain ⟨x,hx⟩:∃ x,bs[z.toNat]?=some x:=⟨_,gE (by omega)⟩
   have hst:=Ua (bs:=bs) (out:=out) hz
   have HZ:=Adx true (BK out) z (by omega)
   have ez:(BK out).contains z=out.contains z.toNat:=by rw [←XH,mb z0]
   rw [ez] at HZ
   have hdz:=XJ (out:=out) hx
   generalize out.contains z.toNat=cz at HZ hdz
   have hzn:z=((z.toNat:Nat):Int):=(mb z0).symm
   cases b
   case false =>
    repeat' (with_reducible first|refine qq ?_|(refine Tx 9 ?_;refine gO xLt ?_)|refine AlU ?_)
    refine ⟨_,_,BE 2,_,by omega,u+1,_,by omega,rfl,by rw [hst,←hb];try rfl,rfl,rfl⟩
   by_cases x2:x.kind=2
   case pos =>
    rw [x2] at hdz
    repeat' (with_reducible first|refine qq ?_|(refine Tx 9 ?_;refine gO xLt ?_)|refine AlU ?_)
    exact Aix
   rw [DQ x2,ei] at hdz
   repeat' (with_reducible first|refine qq ?_|(refine Tx 9 ?_;refine gO xLt ?_)|refine AlU ?_)
   exact Aix
  obtain rfl:u=xs.length:=by omega
  rw [XI (aa _),←hrd] at hb
  cases b
  case false =>
   have hr:=hb.symm
   repeat' (with_reducible first|refine qq ?_|(refine Tx 9 ?_;refine gO xLt ?_)|(refine Tx 13 ?_;refine gO xM ?_)|(refine Tx 15 ?_;refine gO xAd <| gO xM ?_))
   exact Ady
  have hnx:=Aon hlt hN hb.symm
  have hO2:=hO.push hnx
  have hlt2:=hO.lt hnx
  have hap:BK out++[(k:Int)]=BK (out++[k]):=(Hy out k).symm
  have hap2:(BK out).length+1=(BK (out++[k])).length:=by rw [CR,CR,ak];rfl
  repeat' (with_reducible first|refine qq ?_|(refine Tx 9 ?_;refine gO xLt ?_)|(refine Tx 13 ?_;refine gO xM ?_)|(refine Tx 14 ?_;refine gO xM <| gO xA ?_)|(refine Tx 16 ?_;refine gO xM <| gO xLt ?_)|(refine Tx 18 ?_;refine gO xM <| gO xM <| gN (by exact Bj rfl Af Bz rfl rfl (by decide) (by decide)) <| gT (by exact LP rfl rfl rfl rfl rfl rfl Af Bz (by omega) (by decide) hap hap2) <| gO xA ?_))
  refine ⟨_,_,BE 2,_,(by rw [ak];show CQ bs - (out.length+1)<_;omega),out++[k],hO2,rfl,rfl,rfl⟩
 obtain rfl:k=bs.length:=by omega
 have hod:=hO.done (AfW hN)
 rw [hod]
 repeat' (with_reducible first|refine qq ?_|(refine Tx 4 ?_;refine gO xLt ?_)|(refine Tx 16 ?_;refine gO xM <| gO xLt ?_)|(refine Tx 17 ?_;refine gO xM <| gO xA ?_))
 exact Ax rfl (.cons_ (Ya rfl rfl rfl) .nil_)
theorem Ym {p:Prop} (k:p') (h:Hd9 p'→p:=by with_reducible first|(intro Z9;refine Tx 0 ?_;refine gN xBo <| gO xA ?_;exact Z9.o)|(intro Z9;refine Tx 1 ?_;refine gO xF <| gO xD <| gO xN <| gO xGt <| gO xM ?_;(first|iterate 4 refine Jd ?_|(refine Jy (xFa BM AQ) ?_;refine Jy (xLd AQ) ?_;refine Jy (xLn Aj) ?_;refine Jy xGt ?_));refine gO xPk <| gO xM ?_;(first|iterate 4 refine Jd ?_|(refine Jy (xFa Gn Bd) ?_;refine Jy (xLd Bd) ?_;refine Jy (xLn Af) ?_;refine Jy xGt ?_));refine gO xPk ?_;exact Z9.o)|fail):p:=h ⟨k⟩
theorem AlV {p:Prop} (h:p:=by first|exact xNt|exact xNg):p:=h
theorem UF {p:Prop} (k:p') (h:Hd9 p'→p:=by with_reducible first|(intro Z9;refine Tx 5 ?_;refine gO (xIr Bv (Fy hp)) <| gO xL <| gN (xAl MY) <| gZ (xSk Lh) ?_;exact Z9.o)|(intro Z9;refine Tx 6 ?_;refine gO xF <| gO xD <| gO xLt <| gO xM ?_;(first|iterate 5 refine Jd ?_|(refine Jy (xFa Sa Ak) ?_;refine Jy (xLd Ak) ?_;refine Jy (xFa Ft Ak) ?_;refine Jy (xLd Ak) ?_;refine Jy xGt ?_));refine gO xPk <| gO xM ?_;(first|iterate 3 refine Jd ?_|(refine Jy (xFa Ft Ak) ?_;refine Jy (xLd Ak) ?_;refine Jy xGe ?_));refine gO xPk <| gO xM ?_;(first|iterate 4 refine Jd ?_|(refine Jy (xFa Og Ak) ?_;refine Jy (xLd Ak) ?_;refine Jy (xCl func76 (WI)) ?_;refine Jy AlV ?_));refine gO xPk ?_;exact Z9.o)|fail):p:=h ⟨k⟩
theorem Aiy {p:Prop} (k:p') (h:Hd9 p'→p:=by with_reducible first|(intro Z9;refine Tx 18 ?_;refine gO (xIr Af (AF hz)) <| gO xD <| gO xA ?_;exact Z9.o)|(intro Z9;refine Tx 19 ?_;refine gO xM <| gO xF <| gO xD <| gO xN <| gO xSb <| gO (xCl func76 (WI)) <| gO AlV ?_;exact Z9.o)|fail):p:=h ⟨k⟩
theorem Aiz {p:Prop} (k:p') (h:Hd9 p'→p:=by with_reducible first|(intro Z9;refine BX (id:=22) AX (by kernel_rfl) ?_;refine gP xL <| gP (xCl func78 (OR)) <| gP xN <| gP xL <| gP (xCl func79 (DL)) <| gP xN <| gP xAd <| gP xF <| gP xD <| gP xN <| gP xNe ?_;refine Ke ?_;exact Z9.o)|fail):p:=h ⟨k⟩
theorem IJ {p:Prop} (h:p:=by
 exact Ax rfl (.cons_ (QX rfl (rfl)) .nil_)):p:=h
theorem Yn {p:Prop} (h:p:=by
 exact Ax rfl (.cons_ (QX rfl rfl) .nil_)):p:=h
theorem Adz (t:Bool) {ps:List Prt} {bs:List Bk} {os:List Int} (hl:FK ps bs os):CV prog An 25 [aDg t ps bs os] [aI (Bl ps bs os)]:=by
 refine cvz func25 ntmps25 ?_
 have hl1:=hl.l1
 have hl2:=hl.l2
 have hl3:=hl.l3
 by_cases hs:Ek ps bs os
 case neg =>
  rw [de0 hs]
  unfold Ek at hs
  by_cases c1:ps.length≤16
  case neg =>
   repeat' (with_reducible first|refine qq ?_|refine Ym ?_|(refine Tx 2 ?_;refine gO xA ?_))
   exact IJ
  by_cases c2:bs.length≤64
  case neg =>
   repeat' (with_reducible first|refine qq ?_|refine Ym ?_|(refine Tx 2 ?_;refine gO xA ?_))
   exact IJ
  have c3:¬ os.length≤16:=fun h=>hs ⟨c1,c2,h⟩
  repeat' (with_reducible first|refine qq ?_|refine Ym ?_|(refine Tx 2 ?_;refine gO xA ?_))
  exact IJ
 have hs2:=hs
 unfold Ek at hs2
 obtain ⟨c1,c2,c3⟩:=hs2
 repeat' (with_reducible first|refine qq ?_|refine Ym ?_|(refine Tx 3 ?_;refine gO xF <| gO xD <| gO xN <| gO xM ?_))
 refine Bi (BE 1) (Aq (fun n Fr H=>∃ k:Nat,k≤ps.length∧n=ps.length - k∧Ah ((ps.map DW).take k)=0∧Fr=ofL [(1,vr 0),(27,vd (Dh t ps)),(28,vi ps.length),(29,vi ((k:Nat)))]∧H=[.box 26 [.d (Dh t ps),.d (DC t bs),.d (Ba t os)]]) (n0:=ps.length) ⟨0,ad _,rfl,rfl,rfl,rfl⟩ ?_)
 rintro n Fr H ⟨k,hk,rfl,hf,rfl,rfl⟩
 by_cases hlt:k<ps.length
 case pos =>
  obtain ⟨p,hp⟩:∃ p,ps[k]?=some p:=⟨_,gE hlt⟩
  have WI:=EM p.fr 0 30
  unfold GR at WI
  by_cases he:DW p=0
  case neg =>
   have h3:DW p=3:=by unfold DW at he ⊢;split at he;exact absurd rfl he;rename_i hn;rw [if_neg hn]
   rw [de1 hs (pe1 hp h3 (by decide) hf) (by decide)]
   unfold DW at he
   by_cases q1 : -2147483648≤p.lo
   case neg =>
    repeat' (with_reducible first|refine qq ?_|(refine Tx 4 ?_;refine gO xLt ?_)|refine UF ?_|(refine Tx 7 ?_;refine gO xA ?_))
    exact IJ
   by_cases q2:p.lo≤p.hi
   case neg =>
    repeat' (with_reducible first|refine qq ?_|(refine Tx 4 ?_;refine gO xLt ?_)|refine UF ?_|(refine Tx 7 ?_;refine gO xA ?_))
    exact IJ
   by_cases q3:p.hi<2147483648
   case neg =>
    repeat' (with_reducible first|refine qq ?_|(refine Tx 4 ?_;refine gO xLt ?_)|refine UF ?_|(refine Tx 7 ?_;refine gO xA ?_))
    exact IJ
   have q4:¬ (0≤p.fr∧p.fr≤30):=fun h=>he (if_pos ⟨q1,q2,q3,h.1,h.2⟩)
   rw [decide_eq_false q4] at WI
   repeat' (with_reducible first|refine qq ?_|(refine Tx 4 ?_;refine gO xLt ?_)|refine UF ?_|(refine Tx 7 ?_;refine gO xA ?_))
   exact IJ
  have hq:=he
  unfold DW at hq
  by_cases hn : -2147483648≤p.lo∧p.lo≤p.hi∧p.hi<2147483648∧0≤p.fr∧p.fr≤30
  case neg =>
   rw [if_neg hn] at hq
   cases hq
  obtain ⟨q1,q2,q3,q4,q5⟩:=hn
  rw [decide_eq_true ⟨q4,q5⟩] at WI
  repeat' (with_reducible first|refine qq ?_|(refine Tx 4 ?_;refine gO xLt ?_)|refine UF ?_|(refine Tx 8 ?_;refine gO xAd <| gO xM ?_))
  refine ⟨_,_,BE 1,_,by omega,k+1,by omega,rfl,fs1 hp he hf,rfl,rfl⟩
 obtain rfl:k=ps.length:=by omega
 have hP:=hf
 rw [aq (by rw [af];exact aa _)] at hP
 clear hlt hk hf
 repeat' (with_reducible first|refine qq ?_|(refine Tx 4 ?_;refine gO xLt ?_)|(refine Tx 9 ?_;refine gO xF <| gO xD <| gO xN <| gO xM ?_))
 refine Bi (BE 1) (Aq (fun n Fr H=>∃ k:Nat,k≤bs.length∧n=bs.length - k∧Ah ((bs.map (BQ ps.length bs.length)).take k)=0∧Fr=ofL [(1,vr 0),(56,vd (DC t bs)),(57,vi bs.length),(58,vi ((k:Nat)))]∧H=[.box 26 [.d (Dh t ps),.d (DC t bs),.d (Ba t os)]]) (n0:=bs.length) ⟨0,ad _,rfl,rfl,rfl,rfl⟩ ?_)
 rintro n Fr H ⟨k,hk,rfl,hf,rfl,rfl⟩
 by_cases hlt:k<bs.length
 case pos =>
  obtain ⟨y,hy⟩:∃ y,bs[k]?=some y:=⟨_,gE hlt⟩
  have BC:=Adw t hl y (hl.la y (gM hy))
  generalize he:BQ ps.length bs.length y=e at BC
  by_cases h0:e=0
  case neg =>
   rw [de1 hs (pe2 hP hy he h0 hf) h0]
   repeat' (with_reducible first|refine qq ?_|(refine Tx 10 ?_;refine gO xLt ?_)|(refine Tx 11 ?_;refine gO (xIr Aj (DK hy)) <| gO xL <| gN (xAl Bw) <| gZ (xSk Bm) ?_)|(refine Tx 12 ?_;refine gO xL <| gO xL <| gO (xCl func77 (BC)) <| gO xA ?_)|(refine Tx 13 ?_;refine gO xM <| gO xNe ?_)|(refine Tx 14 ?_;refine gO xM <| gO xA ?_))
   exact Yn
  subst h0
  repeat' (with_reducible first|refine qq ?_|(refine Tx 10 ?_;refine gO xLt ?_)|(refine Tx 11 ?_;refine gO (xIr Aj (DK hy)) <| gO xL <| gN (xAl Bw) <| gZ (xSk Bm) ?_)|(refine Tx 12 ?_;refine gO xL <| gO xL <| gO (xCl func77 (BC)) <| gO xA ?_)|(refine Tx 13 ?_;refine gO xM <| gO xNe ?_)|(refine Tx 15 ?_;refine gO xAd <| gO xM ?_))
  refine ⟨_,_,BE 1,_,by omega,k+1,by omega,rfl,fs1 hy he hf,rfl,rfl⟩
 obtain rfl:k=bs.length:=by omega
 have hB:=hf
 rw [aq (by rw [af];exact aa _)] at hB
 clear hlt hk hf
 repeat' (with_reducible first|refine qq ?_|(refine Tx 10 ?_;refine gO xLt ?_)|(refine Tx 16 ?_;refine gO xF <| gO xD <| gO xN <| gO xM ?_))
 refine Bi (BE 1) (Aq (fun n Fr H=>∃ k:Nat,k≤os.length∧n=os.length - k∧Ah ((os.map (NC bs.length)).take k)=0∧Fr=ofL [(1,vr 0),(70,vd (Ba t os)),(71,vi os.length),(72,vi ((k:Nat)))]∧H=[.box 26 [.d (Dh t ps),.d (DC t bs),.d (Ba t os)]]) (n0:=os.length) ⟨0,ad _,rfl,rfl,rfl,rfl⟩ ?_)
 rintro n Fr H ⟨k,hk,rfl,hf,rfl,rfl⟩
 by_cases hlt:k<os.length
 case pos =>
  obtain ⟨z,hz⟩:∃ z,os[k]?=some z:=⟨_,gE hlt⟩
  have WI:=EM z 0 ((bs.length:Nat) - 1)
  unfold GR at WI
  by_cases hb:0≤z∧z<(bs.length:Int)
  case neg =>
   rw [de1 hs (pe3 hP hB hz (if_neg hb) (by decide) hf) (by decide)]
   rw [decide_eq_false (by omega)] at WI
   repeat' (with_reducible first|refine qq ?_|(refine Tx 17 ?_;refine gO xLt ?_)|refine Aiy ?_|(refine Tx 20 ?_;refine gO xA ?_))
   exact IJ
  rw [decide_eq_true (by omega)] at WI
  have hb2:=hb
  obtain ⟨z0,z1⟩:=hb2
  repeat' (with_reducible first|refine qq ?_|(refine Tx 17 ?_;refine gO xLt ?_)|refine Aiy ?_|(refine Tx 21 ?_;refine gO xAd <| gO xM ?_))
  refine ⟨_,_,BE 1,_,by omega,k+1,by omega,rfl,fs1 hz (if_pos hb) hf,rfl,rfl⟩
 obtain rfl:k=os.length:=by omega
 have hO:=hf
 rw [aq (by rw [af];exact aa _)] at hO
 clear hlt hk hf
 have hpe:=pe4 hP hB hO
 rw [de2 hs hpe]
 have OR:=ZV t hl (VN hB)
 have DL:=Wv t hl
 have e1:=CR (BH bs)
 have e2:=CR (Bx bs)
 have e3:=Akr bs
 have e4:=GP bs
 have e5:=EX.le (FJ bs.length (EX.nil bs))
 have e5:(BH bs).length≤CQ bs:=e5
 unfold EZ
 by_cases ho:(BH bs).length=CQ bs
 case pos =>
  rw [if_pos ho]
  repeat' (with_reducible first|refine qq ?_|(refine Tx 17 ?_;refine gO xLt ?_)|refine Aiz ?_|(refine Tx 24 ?_;refine gO xA ?_))
  exact IJ
 rw [if_neg ho]
 repeat' (with_reducible first|refine qq ?_|(refine Tx 17 ?_;refine gO xLt ?_)|refine Aiz ?_|(refine Tx 23 ?_;refine gO xA ?_))
 exact IJ
theorem ZW (h:Bl ps bs os=0):Ek ps bs os:=by
 unfold Bl at h
 by_cases hs:Ek ps bs os
 ·exact hs
 ·rw [if_pos hs] at h
  cases h
def Mu (ps:List Prt) (bs:List Bk) (os:List Int):Bool:=decide (ps.length≤40∧bs.length≤80∧os.length≤40) && bs.all fun b=>decide (b.args.length≤10)
theorem Yo {p:Prop} (k:p') (h:Hd9 p'→p:=by with_reducible first|(intro Z9;refine Tx 0 ?_;refine gN xBo <| gO xA ?_;exact Z9.o)|(intro Z9;refine Tx 1 ?_;refine gO xF <| gO xD <| gO xN <| gO xGt <| gO xM ?_;(first|iterate 4 refine Jd ?_|(refine Jy (xFa BM AQ) ?_;refine Jy (xLd AQ) ?_;refine Jy (xLn Aj) ?_;refine Jy xGt ?_));refine gO xPk <| gO xM ?_;(first|iterate 4 refine Jd ?_|(refine Jy (xFa Gn Bd) ?_;refine Jy (xLd Bd) ?_;refine Jy (xLn Af) ?_;refine Jy xGt ?_));refine gO xPk ?_;exact Z9.o)|fail):p:=h ⟨k⟩
theorem AdA {p:Prop} (h:p:=by
 exact Ax rfl (.cons_ (DJ rfl (by unfold Mu;rw [decide_eq_false (by omega)];rfl)) .nil_)):p:=h
theorem AdB (t:Bool) (ps:List Prt) (bs:List Bk) (os:List Int):CV prog An 31 [aDg t ps bs os] [aB (Mu ps bs os)]:=by
 refine cvz func31 ntmps31 ?_
 by_cases cp:40<ps.length
 case pos =>
  repeat' (with_reducible first|refine qq ?_|refine Yo ?_|(refine Tx 2 ?_;refine gO xA ?_))
  exact AdA
 by_cases cb:80<bs.length
 case pos =>
  repeat' (with_reducible first|refine qq ?_|refine Yo ?_|(refine Tx 2 ?_;refine gO xA ?_))
  exact AdA
 by_cases co:40<os.length
 case pos =>
  repeat' (with_reducible first|refine qq ?_|refine Yo ?_|(refine Tx 2 ?_;refine gO xA ?_))
  exact AdA
 repeat' (with_reducible first|refine qq ?_|refine Yo ?_|(refine Tx 3 ?_;refine gO xF <| gO xD <| gO xN <| gO xM ?_))
 refine Bi (BE 1) (Aq (fun n Fr H=>∃ k:Nat,k≤bs.length∧n=bs.length - k∧(bs.take k).all (fun b:Bk=>decide (b.args.length≤10))=true∧Fr=ofL [(1,vr 0),(22,vd (DC t bs)),(23,vi bs.length),(24,vi ((k:Nat)))]∧H=[.box 26 [.d (Dh t ps),.d (DC t bs),.d (Ba t os)]]) (n0:=bs.length) ⟨0,ad _,rfl,rfl,rfl,rfl⟩ ?_)
 rintro n Fr H ⟨k,hk,rfl,hall,rfl,rfl⟩
 by_cases hlt:k<bs.length
 case pos =>
  obtain ⟨y,hy⟩:∃ y,bs[k]?=some y:=⟨_,gE hlt⟩
  by_cases hy10:y.args.length≤10
  case pos =>
   repeat' (with_reducible first|refine qq ?_|(refine Tx 4 ?_;refine gO xLt ?_)|(refine Tx 5 ?_;refine gO (xIr Aj (DK hy)) <| gO xL <| gN (xAl Bw) <| gZ (xSk Bm) ?_)|(refine Tx 6 ?_;refine gO xF <| gO xD <| gO xN <| gO xGt ?_)|(refine Tx 8 ?_;refine gO xAd <| gO xM ?_))
   refine ⟨_,_,BE 1,_,?_,k+1,by omega,rfl,Gr hy hall (decide_eq_true hy10),rfl,rfl⟩
   ·omega
  case neg =>
   repeat' (with_reducible first|refine qq ?_|(refine Tx 4 ?_;refine gO xLt ?_)|(refine Tx 5 ?_;refine gO (xIr Aj (DK hy)) <| gO xL <| gN (xAl Bw) <| gZ (xSk Bm) ?_)|(refine Tx 6 ?_;refine gO xF <| gO xD <| gO xN <| gO xGt ?_)|(refine Tx 7 ?_;refine gO xA ?_))
   exact Ax rfl (.cons_ (DJ rfl (by unfold Mu;rw [show bs.all (fun b:Bk=>decide (b.args.length≤10))=false from List.all_eq_false.2 ⟨y,gM hy,by rw [decide_eq_false hy10];exact Bool.false_ne_true⟩,Bool.and_false])) .nil_)
 obtain rfl:k=bs.length:=by omega
 rw [ay] at hall
 repeat' (with_reducible first|refine qq ?_|(refine Tx 4 ?_;refine gO xLt ?_)|(refine Tx 9 ?_;refine gO xA ?_))
 exact Ax rfl (.cons_ (DJ rfl (by unfold Mu;rw [hall,decide_eq_true (by omega)];rfl)) .nil_)
theorem AdC (h:Mu ps bs os=true):FK ps bs os∧bs.length≤80:=by
 unfold Mu at h
 rw [ah] at h
 have h1:=of_decide_eq_true h.1
 exact ⟨⟨by omega,by omega,by omega,fun b hb=>by have:=of_decide_eq_true (List.all_eq_true.1 h.2 b hb);omega⟩,h1.2.1⟩
theorem ApK (n k:Int):CVF prog An 115 [aE n,aI k] [aB (isB n k)]:=fun w S vs hg hlt ha=>by
 obtain ⟨v,vs',rfl,h1,ha⟩:=ha.uncons
 obtain ⟨u,hu,h2⟩:=BI ha
 subst hu
 cases h1
 cases h2
 refine (Aop n k w).mono fun r w' ⟨he,hw⟩=>?_
 subst hw
 exact ⟨_,he,Bh.val rfl,ab _ _⟩
theorem Yp (x lo hi:Int):CVF prog An 208 [aI x,aI lo,aI hi] [aI (RJ x lo hi)]:=fun w S vs hg hlt ha=>by
 obtain ⟨v,vs',rfl,q1,ha⟩:=ha.uncons
 obtain ⟨v2,vs',rfl,q2,ha⟩:=ha.uncons
 obtain ⟨u,hu,q3⟩:=BI ha
 subst hu
 cases q1
 cases q2
 cases q3
 refine (AaL x lo hi w).mono fun r w' ⟨he,hw⟩=>?_
 subst hw
 exact ⟨_,he,Bh.val rfl,ab _ _⟩
def prtD:Prt:=⟨0,0,0⟩
def Lx (ps:List Prt) (inn:List Int) (n:Nat):List Int:=(List.range n).map fun i=>RJ (inn[i]?.getD 0) (ps[i]?.getD prtD).lo (ps[i]?.getD prtD).hi
theorem Aha (ps:List Prt) (inn:List Int) (k:Nat):(Lx ps inn k).length≤k:=by simp [Lx]
theorem UG {inn:List Int} {k:Nat} {p:Prt} {z:Int} (hp:ps[k]?=some p) (hz:inn[k]?.getD 0=z):Lx ps inn (k+1)=Lx ps inn k++[RJ z p.lo p.hi]:=by
 unfold Lx
 rw [ek,gz]
 simp [hp,hz]
theorem Wx (ps:List Prt) (inn:List Int):(Lx ps inn ps.length).length=ps.length:=by simp [Lx]
theorem AdD {p:Int × Nat} {k:Nat} (h:Nf p.1 p.2) (hl:(Ad p.1.natAbs).length≤k) (hn:32*k≤n):Sm p n 65536:=by
 refine ⟨h,?_,h.1⟩
 have hlt:p.1.natAbs<2 ^ (32*(Ad p.1.natAbs).length):=by have:=BO (Az p.1.natAbs);rw [Au] at this;rw [ee];exact this
 exact al hlt (ax (by decide) (by omega))
theorem AdE {p:Prop} (k:p') (h:Hd9 p'→p:=by with_reducible first|(intro Z9;refine qq ?_;exact Z9.o)|(intro Z9;refine Tx 0 ?_;refine gN xBo <| gO xA ?_;exact Z9.o)|(intro Z9;refine Tx 1 ?_;refine gO xL <| gO (xCl func69 (PX)) <| gO xMt <| gO xEx <| gO xEx <| gO xEx <| gO xA <| gO xA <| gO xA ?_;exact Z9.o)|(intro Z9;refine Tx 2 ?_;refine gO xM <| gO xN <| gO xEq <| gO xA ?_;exact Z9.o)|fail):p:=h ⟨k⟩
theorem PO (x:Int) (dx:Nat) (hnx:Nf x dx) (lx:(Ad x.natAbs).length≤40000):CV prog An 55 [aDy false x dx] [aI (sgI x)]:=by
 refine cvz func55 ntmps55 ?_
 have PX:=Fz (G:=An) x dx hnx (lT lx (by decide))
 by_cases c0:x=0
 case pos =>
  have l0:((Ad x.natAbs).length:Int)=0:=by rw [show x.natAbs=0 by omega,AK];rfl
  rw [show decide (x<0)=false by rw [decide_eq_false (by omega)]] at PX
  rw [show sgI x=0 by unfold sgI;(repeat' split) <;> omega]
  repeat' (with_reducible first|refine AdE ?_|(refine Tx 3 ?_;refine gO xA ?_))
  exact Yn
 by_cases cm1:x<0
 case pos =>
  have l0:¬ ((Ad x.natAbs).length:Int)=0:=fun hc=>by have:=CO (n:=x.natAbs) (by omega);omega
  rw [show decide (x<0)=true by rw [decide_eq_true (by omega)]] at PX
  rw [show sgI x = -1 by unfold sgI;(repeat' split) <;> omega]
  repeat' (with_reducible first|refine AdE ?_|(refine Tx 4 ?_;refine gO xM <| gO xA ?_)|(refine Tx 5 ?_;refine gO xA ?_))
  exact Yn
 have l0:¬ ((Ad x.natAbs).length:Int)=0:=fun hc=>by have:=CO (n:=x.natAbs) (by omega);omega
 rw [show decide (x<0)=false by rw [decide_eq_false (by omega)]] at PX
 rw [show sgI x=1 by unfold sgI;(repeat' split) <;> omega]
 repeat' (with_reducible first|refine AdE ?_|(refine Tx 4 ?_;refine gO xM <| gO xA ?_)|(refine Tx 6 ?_;refine gO xA ?_))
 exact Yn
def ivR (r s:Rv):Bool:=vdB r.rw && vdB s.rw && decide (Cm r.rw.x r.rw.d s.rw.x s.rw.d≤0)
def RvL (r:Rv):Prop:=Ao r.ws∧r.ws.length≤40000
def dIr (t:Bool) (a:Rv × Rv):List D:=dRv t a.1++dRv t a.2
theorem AiA {p:Prop} (k:p') (h:Hd9 p'→p:=by with_reducible first|(intro Z9;refine Tx 1 ?_;refine gO xF <| gO xL <| gO (xCl func123 (V1)) <| gO xM ?_;(first|iterate 3 refine Jd ?_|(refine Jy (xFa AP Ae) ?_;refine Jy (xLa Ae) ?_;refine Jy (xCl func123 (V2)) ?_));refine gO xPk <| gO xM ?_;(first|iterate 6 refine Jd ?_|(refine Jy (xFa Cs Ae) ?_;refine Jy (xLa Ae) ?_;refine Jy (xFa AP Ae) ?_;refine Jy (xLa Ae) ?_;refine Jy (xCl func15 (CM)) ?_;refine Jy xLe ?_));refine gO xPk <| gO xA ?_;exact Z9.o)|fail):p:=h ⟨k⟩
theorem Ro (r s:Rv) (hr:RvL r) (hs:RvL s):CV prog An 122 [.agg (dIr false (r,s))] [aB (ivR r s)]:=by
 refine cvz func122 ntmps122 ?_
 have V1:=(Md (G:=An) false r hr.1 (lT hr.2 (by decide))).cv
 have V2:=(Md (G:=An) false s hs.1 (lT hs.2 (by decide))).cv
 by_cases c1:vdB r.rw=true
 case neg =>
  rw [em] at c1
  rw [c1] at V1
  repeat' (with_reducible first|refine qq ?_|(refine Tx 0 ?_;refine gN xBo <| gO xA ?_)|(refine Tx 1 ?_;refine gO xF <| gO xL <| gO (xCl func123 (V1)) <| gO xM ?_;(first|iterate 3 refine Jd ?_|(refine Jy (xFa AP Ae) ?_;refine Jy (xLa Ae) ?_;refine Jy (xCl func123 (V1)) ?_));refine gO xPk <| gO xM ?_;(first|iterate 4 refine Jd ?_|(refine Jy (xFa Cs Ae) ?_;refine Jy (xLa Ae) ?_;refine Jy (xFa AP Ae) ?_;refine Jy (xLa Ae) ?_));refine Jd ?_;(first|refine Jd ?_|refine Jy xLe ?_);refine gO xPk <| gO xA ?_))
  exact Ax rfl (.cons_ (DJ rfl (by unfold ivR;rw [c1];rfl)) .nil_)
 by_cases c2:vdB s.rw=true
 case neg =>
  rw [em] at c2
  rw [c1] at V1
  rw [c2] at V2
  repeat' (with_reducible first|refine qq ?_|(refine Tx 0 ?_;refine gN xBo <| gO xA ?_)|(refine Tx 1 ?_;refine gO xF <| gO xL <| gO (xCl func123 (V1)) <| gO xM ?_;(first|iterate 3 refine Jd ?_|(refine Jy (xFa AP Ae) ?_;refine Jy (xLa Ae) ?_;refine Jy (xCl func123 (V2)) ?_));refine gO xPk <| gO xM ?_;(first|iterate 4 refine Jd ?_|(refine Jy (xFa Cs Ae) ?_;refine Jy (xLa Ae) ?_;refine Jy (xFa AP Ae) ?_;refine Jy (xLa Ae) ?_));refine Jd ?_;(first|refine Jd ?_|refine Jy xLe ?_);refine gO xPk <| gO xA ?_))
  exact Ax rfl (.cons_ (DJ rfl (by unfold ivR;rw [c1,c2];rfl)) .nil_)
 rw [c1] at V1
 rw [c2] at V2
 obtain ⟨e1,n1,k1⟩:=Sv (t:=false) hr.1 c1
 obtain ⟨e2,n2,k2⟩:=Sv (t:=false) hs.1 c2
 have CM:=Ec r.rw.x r.rw.d s.rw.x s.rw.d n1 n2 (lT (gf k1) hr.2) (lT (gf k2) hs.2)
 unfold aDy at CM
 rw [←e1,←e2] at CM
 by_cases c3:Cm r.rw.x r.rw.d s.rw.x s.rw.d≤0
 case pos =>
  repeat' (with_reducible first|refine qq ?_|(refine Tx 0 ?_;refine gN xBo <| gO xA ?_)|refine AiA ?_)
  exact Ax rfl (.cons_ (DJ rfl (by unfold ivR;rw [c1,c2,decide_eq_true c3];rfl)) .nil_)
 case neg =>
  repeat' (with_reducible first|refine qq ?_|(refine Tx 0 ?_;refine gN xBo <| gO xA ?_)|refine AiA ?_)
  exact Ax rfl (.cons_ (DJ rfl (by unfold ivR;rw [c1,c2,decide_eq_false c3];rfl)) .nil_)
theorem Yq {p:Pq} {d:Nat} (h:Sm p n d) (hn:n≤1280000):RvL (II p):=⟨Az _,h.lenN 40000 (by omega)⟩
theorem ApL {d:Nat} (h:IwS a n d):ivR (II a.1) (II a.2)=true:=by
 unfold ivR
 rw [Wq h.s1.ok,Wq h.s2.ok]
 have:Cm (II a.1).rw.x (II a.1).rw.d (II a.2).rw.x (II a.2).rw.d=ZI (rvP (II a.1)) (rvP (II a.2)):=rfl
 rw [UC,UC] at this
 rw [this,decide_eq_true ((NF h.s1.le h.s2.le).2 h.le)]
 rfl
theorem ZX (a:Iq) {n d:Nat} (h:IwS a n d) (hn:n≤1280000):CV prog An 122 [aIw false a] [aB true]:=by
 have:=Ro (II a.1) (II a.2) (Yq h.s1 hn) (Yq h.s2 hn)
 rw [ApL h] at this
 unfold dIr at this
 rwa [PN,PN] at this
theorem PP (x:Int) (d:Nat) (hn:Nf x d) (hl:(Ad x.natAbs).length≤40000):CV prog An 227 [aDy false x d] [aDy false x d]:=by
 refine cvz func227 ntmps227 ?_
 have SH:=BR x d 0 hn (lT hl (by decide)) (by have:=hn.1;omega)
 rw [DX hn] at SH
 repeat' (with_reducible first|refine qq ?_|(refine Tx 0 ?_;refine gN xBo <| gN (xAl Av) ?_)|(refine Tx 1 ?_;refine gO xL <| gO (xCl func21 (SH)) <| gZ (xSk Ae) ?_))
 exact Ax rfl (.cons_ (rvW Ae rfl) .nil_)
theorem DR {p:Prop} (h:p:=by
 exact Ax rfl (.cons_ (rvJ Ag rfl) .nil_)):p:=h
theorem ApM {p:Prop} (h:p:=by first|exact xCl func227 (S1)|exact xCl func227 (S2)):p:=h
theorem Ahb (a:Iq) {n d:Nat} (h:IwS a n d) (hn:n≤1280000) (l1:(Ad a.1.1.natAbs).length≤40000) (l2:(Ad a.2.1.natAbs).length≤40000):CV prog An 228 [aIw false a] [aIw false a]:=by
 refine cvz func228 ntmps228 ?_
 have V:=ZX a h hn
 have S1:=PP a.1.1 a.1.2 h.s1.ok l1
 have S2:=PP a.2.1 a.2.2 h.s2.ok l2
 repeat' (with_reducible first|refine qq ?_|(refine Tx 0 ?_;refine gN xBo <| gN (xAl AE) ?_)|(refine Tx 1 ?_;refine gO xL <| gO (xCl func122 (V)) <| gO AlV ?_)|(refine AJ (id:=3) 7 AX (by kernel_rfl) ?_;dsimp only [List.take,List.drop];refine gP xF <| gP xL <| gP ApM <| gP xF <| gP xL <| gP ApM <| gP (by exact AC rfl CX rfl rfl) ?_;refine Ke ?_;refine gZ (xSk Ag) ?_))
 exact DR
theorem DE (a:Iq) (h:IwS a 20000 20000):CV prog An 228 [aIw false a] [aIw false a]:=Ahb a h (by decide) h.s1.lz h.s2.lz
theorem EN (p:Pq) (hn:Nf p.1 p.2) (hl:(Ad p.1.natAbs).length≤40000):CV prog An 140 [aDy false p.1 p.2] [aIw false (p,p)]:=by
 refine cvz func140 ntmps140 ?_
 have S1:=PP p.1 p.2 hn hl
 repeat' (with_reducible first|refine qq ?_|(refine Tx 0 ?_;refine gN xBo <| gN (xAl AE) ?_)|(refine AJ (id:=1) 5 AX (by kernel_rfl) ?_;dsimp only [List.take,List.drop];refine gP xL <| gP (xCl func227 (S1)) <| gP xL <| gP (xCl func227 (S1)) <| gP (by exact AC rfl CX rfl rfl) ?_;refine Ke ?_;refine gZ (xSk Ag) ?_))
 exact DR
theorem Ys {l:List Pq} {k:Nat} {p:Pq} (h:l[k]?=some p):((AN dyP l).drop (k*3)).take 3=dyP p:=Um h
theorem UH {G:World→Prop} {o:Oper} {t e:TypeId} {x l:Operand} {tg:Bool} {s lo:Nat} {k:IntKind} {z:Int} {cs:List D} (ho:o.op=.slice t x (some l) none none) (hx:F.ev x=.one (.d (.row tg s n cs))) (hl:F.ev l=.one (.d (.val (.int k z)))) (hz:z=(lo:Int)) (ht:TyS P t e s) (h1:lo≤n):Bb P G o F H (.one (.d (.row tg s (n - lo) (cs.drop (lo*s))))) []:=Acu ho hx hl hz ht h1
theorem AiB {p:Prop} (h:p:=by
 refine ⟨_,_,BE 2 (hH:=by rw [←hnx];rfl),_,?_,k+1,by omega,rfl,hIS,rfl,rfl⟩
 ·omega):p:=h
theorem Mv (t:Bool) (L:List Pq) (hne:L≠[]) (hs:∀ p∈L,Sm p 40064 40000) (hL:L.length≤100):CV prog An 226 [.one (.row t 3 L.length (AN dyP L))] [aIw false (Dd L)]:=by
 refine cvz func226 ntmps226 ?_
 obtain ⟨p,l,rfl⟩:∃ p l,L=p::l:=by cases L with|nil=>exact absurd rfl hne|cons p l=>exact ⟨p,l,rfl⟩
 have hp:=hs p (ii ..)
 have hpl:=lT (hp.lenN 1252 (by decide)) (show 1252≤40000 by decide)
 have PT:=EN p hp.ok hpl
 have hlen:(p::l).length=l.length+1:=bk
 repeat' (with_reducible first|refine qq ?_|(refine Tx 0 ?_;refine gN (xAl AE) ?_)|(refine Tx 1 ?_;refine gO xM <| gO (by exact TR (i:=0) rfl rfl rfl rfl Ai (by omega) (by decide) (Ys (l:=p::l) (k:=0) rfl)) <| gO xL <| gO (xCl func140 (PT)) <| gN (xAl AE) <| gZ (xSk Ag) ?_)|(refine Tx 2 ?_;refine gO xM <| gO (by exact UH (lo:=1) rfl rfl rfl rfl Ai (by omega)) <| gO xN <| gO xM ?_))
 refine Bi (BE 2) (Aq (fun n Fr H=>∃ k:Nat,k≤l.length∧n=l.length - k∧IwS ((l.take (k)).foldl GY (p,p)) 40064 40000∧Fr=ofL [(2,vr 0),(3,vr 1),(11,vd (.row t 3 ((p::l).length - 1) ((AN dyP (p::l)).drop (1*3)))),(12,vi (((p::l).length - 1:Nat))),(13,vi ((k:Nat)))]∧H=[.box 45 [.d (.val (.bool false)),.d (.val (.slice none 0 0)),.d (.val (.int .i64 0)),.d (.val (.bool false)),.d (.val (.slice none 0 0)),.d (.val (.int .i64 0))],.box 45 ((dIw false ((l.take (k)).foldl GY (p,p))).map C.d)]) (n0:=l.length) ⟨0,ad _,rfl,.pt hp,rfl,rfl⟩ ?_)
 rintro n Fr H ⟨k,hk,rfl,hS,rfl,rfl⟩
 by_cases hlt:k<l.length
 case pos =>
  obtain ⟨x,hx⟩:∃ x,l[k]?=some x:=⟨_,gE hlt⟩
  have hxs:=hs x (ij _ (gM hx))
  have hxl:=lT (hxs.lenN 1252 (by decide)) (show 1252≤40000 by decide)
  have a1:=hS.s1
  have a2:=hS.s2
  have a1l:=lT (a1.lenN 1252 (by decide)) (show 1252≤40000 by decide)
  have a2l:=lT (a2.lenN 1252 (by decide)) (show 1252≤40000 by decide)
  have hnx:GY ((l.take (k)).foldl GY (p,p)) x=((l.take (k+1)).foldl GY (p,p)):=by rw [aw,hx,fe,fo];rfl
  have hIS:IwS (GY ((l.take (k)).foldl GY (p,p)) x) 40064 40000:=⟨Sm.min a1 hxs,Sm.max a2 hxs,by show gv (NH _ x)≤gv (Ga _ x);rw [FD a1.le hxs.le,DP a2.le hxs.le];have:=hS.le;omega⟩
  rw [hnx] at hIS
  have hxd:(((AN dyP (p::l)).drop (1*3)).drop (k*3)).take 3=dyP x:=by rw [List.drop_drop,show 1*3+k*3=(k+1)*3 by omega];exact Ys (l:=p::l) (k:=k+1) (by rw [fg];exact hx)
  generalize hT:((l.take (k)).foldl GY (p,p))=T at *
  have MN:=Mc T.1.1 T.1.2 x.1 x.2 a1.ok hxs.ok a1l hxl
  have MX:=ED T.2.1 T.2.2 x.1 x.2 a2.ok hxs.ok a2l hxl
  repeat' (with_reducible first|refine qq ?_|(refine Tx 3 ?_;refine gO xLt ?_)|(refine Tx 4 ?_;refine gO (xIr Ai (hxd)) <| gO xL <| gN (xAl Av) <| gZ (xSk Ae) ?_)|(refine AJ (id:=5) 9 AX (by kernel_rfl) ?_;dsimp only [List.take,List.drop];refine gP xF <| gP xL <| gP xL <| gP (xCl func225 (MN)) <| gP xF <| gP xL <| gP xL <| gP (xCl func156 (MX)) <| gP xF ?_;refine Ke ?_;refine gZ (xSk Ae) <| gO xF <| gZ (xSk Ae) ?_)|(refine Tx 6 ?_;refine gO xAd <| gO xM ?_))
  exact AiB
 obtain rfl:k=l.length:=by omega
 clear hlt hk
 rw [ay]
 repeat' (with_reducible first|refine qq ?_|(refine Tx 3 ?_;refine gO xLt ?_)|(refine Tx 7 ?_;refine gO xL <| gZ (xSk Ag) ?_))
 exact DR
theorem PQ (x:Int) {n d:Nat} (h:x.natAbs<2 ^ 63) (hn:63≤n):Sm (x,0) n d:=⟨⟨ad _,fun h=>absurd rfl h⟩,al h (ax (by decide) hn),ad _⟩
theorem Yt (x:Int) (h:x.natAbs<2 ^ 63):Sm (x,0) 40064 40000:=PQ x h (by decide)
theorem ApN {p:Prop} (h:p:=by first|exact xCl func68 (O1)|exact xCl func68 (O2)):p:=h
theorem AdF (x y:Int) (hx : -9223372036854775807≤x∧x<9223372036854775808) (hy : -9223372036854775807≤y∧y<9223372036854775808):CV prog An 139 [aI x,aI y] [aIw false (Dd [(x,0),(y,0)])]:=by
 refine cvz func139 ntmps139 ?_
 have O1:=Lm x (by omega) (by omega)
 have O2:=Lm y (by omega) (by omega)
 have s1:Sm (x,0) 40064 40000:=Yt x (by omega)
 have s2:Sm (y,0) 40064 40000:=Yt y (by omega)
 have SP:=Mv true [(x,0),(y,0)] (by simp) (fun p hp=>by simp only [bo,bp,or_false] at hp;rcases hp with rfl|rfl <;> assumption) (bf rfl)
 repeat' (with_reducible first|refine qq ?_|(refine Tx 0 ?_;refine gN (xAl AE) ?_)|(refine Tx 1 ?_;refine gO xM <| gO ApN <| gO xM <| gO ApN <| gN (by exact FV rfl Ai Av rfl rfl rfl rfl (by decide) (by decide)) <| gO (xCl func226 (SP)) <| gZ (xSk Ag) ?_))
 exact DR
theorem ApO {p:Prop} (h:p:=by first|exact xCl func176 (N2)|exact xCl func176 (N1)):p:=h
theorem Yu (a:Iq) (h:IwS a 20000 20000):CV prog An 146 [aIw false a] [aIw false (Aft a)]:=by
 refine cvz func146 ntmps146 ?_
 have h1:=h.s1
 have h2:=h.s2
 have hl:=h1.l4
 have hm:=h2.l4
 have AR:=DE a h
 have N1:=Ou a.1.1 a.1.2 h1.ok hl
 have N2:=Ou a.2.1 a.2.2 h2.ok hm
 repeat' (with_reducible first|refine qq ?_|(refine Tx 0 ?_;refine gN xBo <| gN (xAl AE) ?_)|(refine Tx 1 ?_;refine gO xL <| gO (xCl func228 (AR)) <| gZ (xSk Ag) ?_)|(refine AJ (id:=2) 7 AX (by kernel_rfl) ?_;dsimp only [List.take,List.drop];refine gP xF <| gP xL <| gP ApO <| gP xF <| gP xL <| gP ApO <| gP (by exact AC rfl CX rfl rfl) ?_;refine Ke ?_;refine gZ (xSk Ag) ?_))
 exact DR
theorem NV {p:Prop} (h:p:=by first|exact xCl func228 (AA)|exact xCl func228 (AB)):p:=h
theorem ApP {p:Prop} (h:p:=by first|exact xCl func152 (C1)|exact xCl func152 (C2)):p:=h
theorem Yv (a b:Iq) (h:IwS a 20000 20000) (k:IwS b 20000 20000):CV prog An 143 [aIw false a,aIw false b] [aIw false (AgJ a b)]:=by
 refine cvz func143 ntmps143 ?_
 have h1:=h.s1
 have h2:=h.s2
 have hl:=h1.l4
 have hm:=h2.l4
 have k1:=k.s1
 have k2:=k.s2
 have kl:=k1.l4
 have km:=k2.l4
 have AA:=DE a h
 have AB:=DE b k
 have C1:=Db a.1.1 a.1.2 b.1.1 b.1.2 h1.ok k1.ok hl kl
 have C2:=Db a.2.1 a.2.2 b.2.1 b.2.2 h2.ok k2.ok hm km
 repeat' (with_reducible first|refine qq ?_|(refine Tx 0 ?_;refine gN xBo <| gN xBo <| gN (xAl AE) ?_)|(refine AJ (id:=1) 4 AX (by kernel_rfl) ?_;dsimp only [List.take,List.drop];refine gP xL <| gP NV <| gP xL <| gP NV ?_;refine Ke ?_;refine gZ (xSk Ag) <| gZ (xSk Ag) ?_)|(refine AJ (id:=2) 11 AX (by kernel_rfl) ?_;dsimp only [List.take,List.drop];refine gP xF <| gP xL <| gP xF <| gP xL <| gP ApP <| gP xF <| gP xL <| gP xF <| gP xL <| gP ApP <| gP (by exact AC rfl CX rfl rfl) ?_;refine Ke ?_;refine gZ (xSk Ag) ?_))
 exact DR
theorem ApQ {p:Prop} (h:p:=by first|exact xCl func225 (C1)|exact xCl func225 (C2)):p:=h
theorem Yw (a b:Iq) (h:IwS a 20000 20000) (k:IwS b 20000 20000):CV prog An 148 [aIw false a,aIw false b] [aIw false (AgK a b)]:=by
 refine cvz func148 ntmps148 ?_
 have h1:=h.s1
 have h2:=h.s2
 have hl:=h1.l4
 have hm:=h2.l4
 have k1:=k.s1
 have k2:=k.s2
 have kl:=k1.l4
 have km:=k2.l4
 have AA:=DE a h
 have AB:=DE b k
 have C1:=Mc a.1.1 a.1.2 b.1.1 b.1.2 h1.ok k1.ok hl kl
 have C2:=Mc a.2.1 a.2.2 b.2.1 b.2.2 h2.ok k2.ok hm km
 repeat' (with_reducible first|refine qq ?_|(refine Tx 0 ?_;refine gN xBo <| gN xBo <| gN (xAl AE) ?_)|(refine AJ (id:=1) 4 AX (by kernel_rfl) ?_;dsimp only [List.take,List.drop];refine gP xL <| gP NV <| gP xL <| gP NV ?_;refine Ke ?_;refine gZ (xSk Ag) <| gZ (xSk Ag) ?_)|(refine AJ (id:=2) 11 AX (by kernel_rfl) ?_;dsimp only [List.take,List.drop];refine gP xF <| gP xL <| gP xF <| gP xL <| gP ApQ <| gP xF <| gP xL <| gP xF <| gP xL <| gP ApQ <| gP (by exact AC rfl CX rfl rfl) ?_;refine Ke ?_;refine gZ (xSk Ag) ?_))
 exact DR
theorem ApR {p:Prop} (h:p:=by first|exact xCl func156 (C1)|exact xCl func156 (C2)):p:=h
theorem Yx (a b:Iq) (h:IwS a 20000 20000) (k:IwS b 20000 20000):CV prog An 149 [aIw false a,aIw false b] [aIw false (Afu a b)]:=by
 refine cvz func149 ntmps149 ?_
 have h1:=h.s1
 have h2:=h.s2
 have hl:=h1.l4
 have hm:=h2.l4
 have k1:=k.s1
 have k2:=k.s2
 have kl:=k1.l4
 have km:=k2.l4
 have AA:=DE a h
 have AB:=DE b k
 have C1:=ED a.1.1 a.1.2 b.1.1 b.1.2 h1.ok k1.ok hl kl
 have C2:=ED a.2.1 a.2.2 b.2.1 b.2.2 h2.ok k2.ok hm km
 repeat' (with_reducible first|refine qq ?_|(refine Tx 0 ?_;refine gN xBo <| gN xBo <| gN (xAl AE) ?_)|(refine AJ (id:=1) 4 AX (by kernel_rfl) ?_;dsimp only [List.take,List.drop];refine gP xL <| gP NV <| gP xL <| gP NV ?_;refine Ke ?_;refine gZ (xSk Ag) <| gZ (xSk Ag) ?_)|(refine AJ (id:=2) 11 AX (by kernel_rfl) ?_;dsimp only [List.take,List.drop];refine gP xF <| gP xL <| gP xF <| gP xL <| gP ApR <| gP xF <| gP xL <| gP xF <| gP xL <| gP ApR <| gP (by exact AC rfl CX rfl rfl) ?_;refine Ke ?_;refine gZ (xSk Ag) ?_))
 exact DR
theorem Ahc {p:Prop} (h:p:=by first|exact xCl func157 (C0)|exact xCl func157 (C1)|exact xCl func157 (C2)|exact xCl func157 (C3)):p:=h
theorem Yy (a b:Iq) (h:IwS a 20000 20000) (k:IwS b 20000 20000):CV prog An 145 [aIw false a,aIw false b] [aIw false (Wl a b)]:=by
 refine cvz func145 ntmps145 ?_
 have h1:=h.s1
 have h2:=h.s2
 have hl:=h1.l4
 have hm:=h2.l4
 have k1:=k.s1
 have k2:=k.s2
 have kl:=k1.l4
 have km:=k2.l4
 have AA:=DE a h
 have AB:=DE b k
 have C0:=FM a.1.1 a.1.2 b.1.1 b.1.2 h1.ok k1.ok hl kl (by have:=h1.d;have:=k1.d;omega)
 have s0:Sm (Cz a.1 b.1) 40064 40000:=(Sm.mul h1 k1 (by decide)).more (by decide) (by decide)
 have C1:=FM a.1.1 a.1.2 b.2.1 b.2.2 h1.ok k2.ok hl km (by have:=h1.d;have:=k2.d;omega)
 have s1:Sm (Cz a.1 b.2) 40064 40000:=(Sm.mul h1 k2 (by decide)).more (by decide) (by decide)
 have C2:=FM a.2.1 a.2.2 b.1.1 b.1.2 h2.ok k1.ok hm kl (by have:=h2.d;have:=k1.d;omega)
 have s2:Sm (Cz a.2 b.1) 40064 40000:=(Sm.mul h2 k1 (by decide)).more (by decide) (by decide)
 have C3:=FM a.2.1 a.2.2 b.2.1 b.2.2 h2.ok k2.ok hm km (by have:=h2.d;have:=k2.d;omega)
 have s3:Sm (Cz a.2 b.2) 40064 40000:=(Sm.mul h2 k2 (by decide)).more (by decide) (by decide)
 have SP:=Mv true [Cz a.1 b.1,Cz a.1 b.2,Cz a.2 b.1,Cz a.2 b.2] (by simp) (fun p hp=>by simp only [bo,bp,or_false] at hp;rcases hp with rfl|rfl|rfl|rfl <;> assumption) (bf rfl)
 repeat' (with_reducible first|refine qq ?_|(refine Tx 0 ?_;refine gN xBo <| gN xBo <| gN (xAl AE) ?_)|(refine AJ (id:=1) 4 AX (by kernel_rfl) ?_;dsimp only [List.take,List.drop];refine gP xL <| gP NV <| gP xL <| gP NV ?_;refine Ke ?_;refine gZ (xSk Ag) <| gZ (xSk Ag) ?_)|(refine AJ (id:=2) 22 AX (by kernel_rfl) ?_;dsimp only [List.take,List.drop];refine gP xF <| gP xL <| gP xF <| gP xL <| gP Ahc <| gP xF <| gP xL <| gP xF <| gP xL <| gP Ahc <| gP xF <| gP xL <| gP xF <| gP xL <| gP Ahc <| gP xF <| gP xL <| gP xF <| gP xL <| gP Ahc <| gQ (by exact EW rfl rfl Ai Av (by decide) (by decide) (by decide) rfl rfl rfl) <| gP (xCl func226 (SP)) ?_;refine Ke ?_;refine gZ (xSk Ag) ?_))
 exact DR
theorem AdG (a b:Iq) (h:IwS a 20000 20000) (k:IwS b 20000 20000):CV prog An 142 [aIw false a,aIw false b] [aIw false (Uv a b)]:=by
 refine cvz func142 ntmps142 ?_
 have h1:=h.s1
 have h2:=h.s2
 have hl:=h1.l4
 have hm:=h2.l4
 have k1:=k.s1
 have k2:=k.s2
 have kl:=k1.l4
 have km:=k2.l4
 have AA:=DE a h
 have AB:=DE b k
 have s0:=Sm.more (n':=40064) (d':=40000) h1 (by decide) (by decide)
 have s1:=Sm.more (n':=40064) (d':=40000) h2 (by decide) (by decide)
 have s2:=Sm.more (n':=40064) (d':=40000) k1 (by decide) (by decide)
 have s3:=Sm.more (n':=40064) (d':=40000) k2 (by decide) (by decide)
 have SP:=Mv true [a.1,a.2,b.1,b.2] (by simp) (fun p hp=>by simp only [bo,bp,or_false] at hp;rcases hp with rfl|rfl|rfl|rfl <;> assumption) (bf rfl)
 repeat' (with_reducible first|refine qq ?_|(refine Tx 0 ?_;refine gN xBo <| gN xBo <| gN (xAl AE) ?_)|(refine AJ (id:=1) 4 AX (by kernel_rfl) ?_;dsimp only [List.take,List.drop];refine gP xL <| gP NV <| gP xL <| gP NV ?_;refine Ke ?_;refine gZ (xSk Ag) <| gZ (xSk Ag) ?_)|(refine Tx 2 ?_;refine gO xF <| gO xL <| gO xF <| gO xL <| gO xF <| gO xL <| gO xF <| gO xL <| gN (by exact EW rfl rfl Ai Av (by decide) (by decide) (by decide) rfl rfl rfl) <| gO (xCl func226 (SP)) <| gZ (xSk Ag) ?_))
 exact DR
theorem Rq (a:Iq) (f:Pq) (h:IwS a 20000 20000) (hf:Sm f 20000 20000):CV prog An 138 [aIw false a,aDy false f.1 f.2] [aIw false (PK a f)]:=by
 refine cvz func138 ntmps138 ?_
 have PT:=EN f hf.ok hf.lz
 have ML:=Yy a (f,f) h (.pt hf)
 repeat' (with_reducible first|refine qq ?_|(refine Tx 0 ?_;refine gN xBo <| gN xBo <| gN (xAl AE) ?_)|(refine AJ (id:=1) 4 AX (by kernel_rfl) ?_;dsimp only [List.take,List.drop];refine gP xL <| gP xL <| gP (xCl func140 (PT)) <| gP (xCl func145 (ML)) ?_;refine Ke ?_;refine gZ (xSk Ag) ?_))
 exact DR
theorem Ahd (a b:Iq) (h:IwS a 20000 20000) (k:IwS b 20000 20000):CV prog An 144 [aIw false a,aIw false b] [aIw false (AmY a b)]:=by
 refine cvz func144 ntmps144 ?_
 have NG:=Yu b k
 have AD:=Yv a (Aft b) h k.neg
 repeat' (with_reducible first|refine qq ?_|(refine Tx 0 ?_;refine gN xBo <| gN xBo <| gN (xAl AE) ?_)|(refine AJ (id:=1) 4 AX (by kernel_rfl) ?_;dsimp only [List.take,List.drop];refine gP xL <| gP xL <| gP (xCl func146 (NG)) <| gP (xCl func143 (AD)) ?_;refine Ke ?_;refine gZ (xSk Ag) ?_))
 exact DR
theorem rvJ0 {t:Tmp} {k:Nat} {q:Pq} (hk:TyK P ty true k) (hi:6=k) (hF:F t=.one (.ref id 0 none):=by with_unfolding_all exact rfl) (hH:H[id]?=some (.box ty' ([.d (.val (.bool false)),.d (.val (.slice none 0 0)),.d (.val (.int .i64 0))]++(dDy false q.1 q.2).map C.d)):=by with_unfolding_all exact rfl):RV P F H (.cell t ty) (aIw false ((0,0),q)):=by
 obtain ⟨⟨dd,hu,hd⟩,hz⟩:=hk
 have e:dDy false 0 0=[.val (.bool false),.row false 1 0 [],.val (.int .i64 0)]:=A.agg.inj PC
 refine .cellA hF hH hu hd (by rw [hz,←hi];rfl) ?_
 show AV _ _ (dDy false 0 0++dDy false q.1 q.2)
 rw [e]
 refine .app (.cons_ (.d fun _=>.val _) (.cons_ .nil (.cons_ (.d fun _=>.val _) .nil_))) (AV.map_l.2 ⟨rfl,fun j x y hx hy=>?_⟩)
 rw [hx] at hy
 cases hy
 exact .d fun _=>PI _ _ x (gM hx)
theorem ApS {p:Prop} (h:p:=by first|exact xCl func158 (A1)|exact xCl func158 (A2)):p:=h
theorem ApT {p:Prop} (h:p:=by first|exact xCl func55 (G1)|exact xCl func55 (G2)):p:=h
theorem AdH {p:Prop} (k:p') (h:Hd9 p'→p:=by with_reducible first|(intro Z9;refine qq ?_;exact Z9.o)|(intro Z9;refine Tx 0 ?_;refine gN xBo <| gN (xAl AE) ?_;exact Z9.o)|(intro Z9;refine Tx 1 ?_;refine gO xL <| gO (xCl func228 (AR)) <| gZ (xSk Ag) ?_;exact Z9.o)|(intro Z9;refine AJ (id:=2) 9 AX (by kernel_rfl) ?_;dsimp only [List.take,List.drop];refine gP xF <| gP xL <| gP ApS <| gP xF <| gP xL <| gP ApS <| gQ (by exact FV rfl Ai Av rfl rfl rfl rfl (by decide) (by decide)) <| gP (xCl func226 (SP)) <| gQ (xAl AE) ?_;refine Ke ?_;refine gZ (xSk Ag) ?_;exact Z9.o)|(intro Z9;refine Tx 3 ?_;refine gO xF <| gO xL <| gO ApT <| gO xLt <| gO xM ?_;(first|iterate 4 refine Jd ?_|(refine Jy (xFa AP Ae) ?_;refine Jy (xLa Ae) ?_;refine Jy ApT ?_;refine Jy xGt ?_));refine gO xPk ?_;exact Z9.o)|(intro Z9;refine Tx 5 ?_;refine gO xL <| gZ (xSk Ag) ?_;exact Z9.o)|fail):p:=h ⟨k⟩
theorem Yz (a:Iq) (h:IwS a 20000 20000):CV prog An 147 [aIw false a] [aIw false (Rj a)]:=by
 refine cvz func147 ntmps147 ?_
 have h1:=h.s1
 have h2:=h.s2
 have hl:=h1.l4
 have hm:=h2.l4
 have AR:=DE a h
 have A1:=Ov a.1.1 a.1.2 h1.ok hl
 have A2:=Ov a.2.1 a.2.2 h2.ok hm
 have s1:Sm (IG a.1) 40064 40000:=h1.abs.more (by decide) (by decide)
 have s2:Sm (IG a.2) 40064 40000:=h2.abs.more (by decide) (by decide)
 have SP:=Mv true [IG a.1,IG a.2] (by simp) (fun p hp=>by simp only [bo,bp,or_false] at hp;rcases hp with rfl|rfl <;> assumption) (bf rfl)
 have G1:=PO a.1.1 a.1.2 h1.ok hl
 have G2:=PO a.2.1 a.2.2 h2.ok hm
 by_cases c1:a.1.1<0
 case pos =>
  by_cases c2:0<a.2.1
  case pos =>
   rw [show sgI a.1.1 = -1 by unfold sgI;(repeat' split) <;> omega] at G1
   rw [show sgI a.2.1=1 by unfold sgI;(repeat' split) <;> omega] at G2
   have e:Rj a=((0,0),(Dd [IG a.1,IG a.2]).2):=if_pos ⟨c1,c2⟩
   rw [e]
   repeat' (with_reducible first|refine AdH ?_|(refine Tx 4 ?_;refine gO (by exact AC rfl Pc rfl rfl) <| gO xF <| gZ (xSk Ae) ?_))
   exact Ax rfl (.cons_ (rvJ0 Ag rfl) .nil_)
  rw [show sgI a.1.1 = -1 by unfold sgI;(repeat' split) <;> omega] at G1
  have g2:sgI a.2.1≤0:=by unfold sgI;(repeat' split) <;> omega
  generalize sgI a.2.1=g at *
  rw [show Rj a=Dd [IG a.1,IG a.2] from if_neg (fun h=>c2 h.2)]
  repeat' (with_reducible first|refine AdH ?_)
  exact DR
 have g1:0≤sgI a.1.1:=by unfold sgI;(repeat' split) <;> omega
 generalize sgI a.1.1=g at *
 rw [show Rj a=Dd [IG a.1,IG a.2] from if_neg (fun h=>c1 h.1)]
 repeat' (with_reducible first|refine AdH ?_)
 exact DR
theorem ApU {p:Prop} (h:p:=by first|exact xCl func140 (PV)|exact xCl func140 (PU)):p:=h
theorem AdI (a:Iq) (v u:Pq) (h:IwS a 20000 20000) (hv:Sm v 20000 20000) (hu:Sm u 20000 20000) (hvu:ZI v u≤0):CV prog An 150 [aIw false a,aDy false v.1 v.2,aDy false u.1 u.2] [aIw false (ZJ a v u),aE 0]:=by
 refine cvz func150 ntmps150 ?_
 have CM:=Ec v.1 v.2 u.1 u.2 hv.ok hu.ok hv.lz hu.lz
 have PV:=EN v hv.ok hv.lz
 have PU:=EN u hu.ok hu.lz
 have MX:=Yx a (v,v) h (.pt hv)
 have MN:=Yw (Afu a (v,v)) (u,u) (h.max (.pt hv)) (.pt hu)
 have hle:ZI v u≤0:=hvu
 unfold ZI at hle
 repeat' (with_reducible first|refine qq ?_|(refine Tx 0 ?_;refine gN xBo <| gN xBo <| gN xBo <| gN (xAl AE) <| gO xA ?_)|(refine Tx 1 ?_;refine gO xL <| gO xL <| gO (xCl func15 (CM)) <| gO xGt ?_)|(refine AJ (id:=3) 7 AX (by kernel_rfl) ?_;dsimp only [List.take,List.drop];refine gP xL <| gP xL <| gP ApU <| gP (xCl func149 (MX)) <| gP xL <| gP ApU <| gP (xCl func148 (MN)) ?_;refine Ke ?_;refine gZ (xSk Ag) <| gO xA ?_))
 exact Ax rfl (.cons_ (rvJ Ag rfl) (.cons_ (Il rfl rfl) .nil_))
theorem ApV {p:Prop} (h:p:=by first|exact xCl func15 (C1)|exact xCl func15 (C2)):p:=h
theorem AdJ {p:Prop} (k:p') (h:Hd9 p'→p:=by with_reducible first|(intro Z9;refine qq ?_;exact Z9.o)|(intro Z9;refine Tx 0 ?_;refine gN xBo <| gN xBo <| gO xA ?_;exact Z9.o)|(intro Z9;refine AJ (id:=1) 4 AX (by kernel_rfl) ?_;dsimp only [List.take,List.drop];refine gP xL <| gP NV <| gP xL <| gP NV ?_;refine Ke ?_;refine gZ (xSk Ag) <| gZ (xSk Ag) ?_;exact Z9.o)|(intro Z9;refine Tx 2 ?_;refine gO xF <| gO xL <| gO xF <| gO xL <| gO ApV <| gO xLe <| gO xM ?_;(first|iterate 6 refine Jd ?_|(refine Jy (xFa AP Ae) ?_;refine Jy (xLa Ae) ?_;refine Jy (xFa AP Ae) ?_;refine Jy (xLa Ae) ?_;refine Jy ApV ?_;refine Jy xLe ?_));refine gO xPk <| gO xA ?_;exact Z9.o)|fail):p:=h ⟨k⟩
theorem BW (a b:Iq) (h:IwS a 20000 20000) (k:IwS b 20000 20000):CV prog An 151 [aIw false a,aIw false b] [aB (iIn a b)]:=by
 refine cvz func151 ntmps151 ?_
 have h1:=h.s1
 have h2:=h.s2
 have hl:=h1.l4
 have hm:=h2.l4
 have k1:=k.s1
 have k2:=k.s2
 have kl:=k1.l4
 have km:=k2.l4
 have AA:=DE a h
 have AB:=DE b k
 have C1:=Ec b.1.1 b.1.2 a.1.1 a.1.2 k1.ok h1.ok kl hl
 have C2:=Ec a.2.1 a.2.2 b.2.1 b.2.2 h2.ok k2.ok hm km
 by_cases c1:Cm b.1.1 b.1.2 a.1.1 a.1.2≤0
 case neg =>
  repeat' (with_reducible first|refine AdJ ?_)
  exact Ax rfl (.cons_ (DJ rfl (by unfold iIn;rw [decide_eq_false c1];rfl)) .nil_)
 by_cases c2:Cm a.2.1 a.2.2 b.2.1 b.2.2≤0
 case pos =>
  repeat' (with_reducible first|refine AdJ ?_)
  exact Ax rfl (.cons_ (DJ rfl (by unfold iIn;rw [decide_eq_true c1,decide_eq_true c2];rfl)) .nil_)
 case neg =>
  repeat' (with_reducible first|refine AdJ ?_)
  exact Ax rfl (.cons_ (DJ rfl (by unfold iIn;rw [decide_eq_true c1,decide_eq_false c2];rfl)) .nil_)
theorem SJ (a:Iq) (h:IwS a 20000 20000):CV prog An 159 [aIw false a] [aDy false (Gb a).1 (Gb a).2]:=by
 refine cvz func159 ntmps159 ?_
 have AB:=Yz a h
 repeat' (with_reducible first|refine qq ?_|(refine Tx 0 ?_;refine gN xBo <| gN (xAl Av) ?_)|(refine Tx 1 ?_;refine gO xL <| gO (xCl func147 (AB)) <| gO (by exact Aby rfl rfl AP Ae rfl) <| gZ (xSk Ae) ?_))
 exact Ax rfl (.cons_ (rvW Ae rfl) .nil_)
def ApW (r s:Rv):Iq:=if ivR r s=true then (rvP r,rvP s) else ((0,0),(0,0))
theorem ApX {b:Iq} {d n' d':Nat} (h:IwS a n d) (k:IwS b n' d') (e1:gv a.1=gv b.1) (e2:gv a.2=gv b.2):a=b:=Prod.ext (Aip h.s1.ok k.s1.ok e1) (Aip h.s2.ok k.s2.ok e2)
theorem AdK {r s:Rv} (hr:RvL r) (hs:RvL s) (h:ivR r s=true):dIr false (r,s)=dIw false (rvP r,rvP s)∧Nf (rvP r).1 (rvP r).2∧Nf (rvP s).1 (rvP s).2∧gv (rvP r)≤gv (rvP s)∧(Ad (rvP r).1.natAbs).length=r.ws.length∧(Ad (rvP s).1.natAbs).length=s.ws.length:=by
 unfold ivR at h
 rw [ah,ah] at h
 obtain ⟨⟨h1,h2⟩,h3⟩:=h
 obtain ⟨e1,n1,k1⟩:=Sv (t:=false) hr.1 h1
 obtain ⟨e2,n2,k2⟩:=Sv (t:=false) hs.1 h2
 refine ⟨?_,n1,n2,(NF (p:=rvP r) (q:=rvP s) n1.le n2.le).1 (of_decide_eq_true h3),k1,k2⟩
 show dRv false r++dRv false s=_
 rw [e1,e2]
 rfl
theorem ApY {d:Nat} (h:IwS a n d):ApW (II a.1) (II a.2)=a:=by unfold ApW;rw [if_pos (ApL h),UC,UC]
theorem AiC {p:Prop} (k:p') (h:Hd9 p'→p:=by with_reducible first|(intro Z9;refine Tx 1 ?_;refine gO xF <| gO xL <| gO (xCl func81 (V1)) <| gO xM ?_;(first|iterate 3 refine Jd ?_|(refine Jy (xFa AP Ae) ?_;refine Jy (xLa Ae) ?_;refine Jy (xCl func81 (V2)) ?_));refine gO xPk <| gO xM ?_;(first|iterate 6 refine Jd ?_|(refine Jy (xFa Cs Ae) ?_;refine Jy (xLa Ae) ?_;refine Jy (xFa AP Ae) ?_;refine Jy (xLa Ae) ?_;refine Jy (xCl func29 (CM)) ?_;refine Jy xLe ?_));refine gO xPk <| gO xA ?_;exact Z9.o)|fail):p:=h ⟨k⟩
theorem ZY (r s:Rv) (hr:RvL r) (hs:RvL s):CV prog An 80 [.agg (dIr false (r,s))] [aB (ivR r s)]:=by
 refine cvz func80 ntmps80 ?_
 have V1:=(Uq (G:=An) false r hr.1 (lT hr.2 (by decide))).cv
 have V2:=(Uq (G:=An) false s hs.1 (lT hs.2 (by decide))).cv
 by_cases c1:vdB r.rw=true
 case neg =>
  rw [em] at c1
  rw [c1] at V1
  repeat' (with_reducible first|refine qq ?_|(refine Tx 0 ?_;refine gN xBo <| gO xA ?_)|(refine Tx 1 ?_;refine gO xF <| gO xL <| gO (xCl func81 (V1)) <| gO xM ?_;(first|iterate 3 refine Jd ?_|(refine Jy (xFa AP Ae) ?_;refine Jy (xLa Ae) ?_;refine Jy (xCl func81 (V1)) ?_));refine gO xPk <| gO xM ?_;(first|iterate 4 refine Jd ?_|(refine Jy (xFa Cs Ae) ?_;refine Jy (xLa Ae) ?_;refine Jy (xFa AP Ae) ?_;refine Jy (xLa Ae) ?_));refine Jd ?_;(first|refine Jd ?_|refine Jy xLe ?_);refine gO xPk <| gO xA ?_))
  exact Ax rfl (.cons_ (DJ rfl (by unfold ivR;rw [c1];rfl)) .nil_)
 by_cases c2:vdB s.rw=true
 case neg =>
  rw [em] at c2
  rw [c1] at V1
  rw [c2] at V2
  repeat' (with_reducible first|refine qq ?_|(refine Tx 0 ?_;refine gN xBo <| gO xA ?_)|(refine Tx 1 ?_;refine gO xF <| gO xL <| gO (xCl func81 (V1)) <| gO xM ?_;(first|iterate 3 refine Jd ?_|(refine Jy (xFa AP Ae) ?_;refine Jy (xLa Ae) ?_;refine Jy (xCl func81 (V2)) ?_));refine gO xPk <| gO xM ?_;(first|iterate 4 refine Jd ?_|(refine Jy (xFa Cs Ae) ?_;refine Jy (xLa Ae) ?_;refine Jy (xFa AP Ae) ?_;refine Jy (xLa Ae) ?_));refine Jd ?_;(first|refine Jd ?_|refine Jy xLe ?_);refine gO xPk <| gO xA ?_))
  exact Ax rfl (.cons_ (DJ rfl (by unfold ivR;rw [c1,c2];rfl)) .nil_)
 rw [c1] at V1
 rw [c2] at V2
 obtain ⟨e1,n1,k1⟩:=Sv (t:=false) hr.1 c1
 obtain ⟨e2,n2,k2⟩:=Sv (t:=false) hs.1 c2
 have CM:=(Sn (G:=An) false false r.rw.x r.rw.d s.rw.x s.rw.d n1 n2 (lT (gf k1) (lT hr.2 (by decide))) (lT (gf k2) (lT hs.2 (by decide)))).cv
 unfold aDy at CM
 rw [←e1,←e2] at CM
 by_cases c3:Cm r.rw.x r.rw.d s.rw.x s.rw.d≤0
 case pos =>
  repeat' (with_reducible first|refine qq ?_|(refine Tx 0 ?_;refine gN xBo <| gO xA ?_)|refine AiC ?_)
  exact Ax rfl (.cons_ (DJ rfl (by unfold ivR;rw [c1,c2,decide_eq_true c3];rfl)) .nil_)
 case neg =>
  repeat' (with_reducible first|refine qq ?_|(refine Tx 0 ?_;refine gN xBo <| gO xA ?_)|refine AiC ?_)
  exact Ax rfl (.cons_ (DJ rfl (by unfold ivR;rw [c1,c2,decide_eq_false c3];rfl)) .nil_)
theorem rvJ1 {t:Tmp} {k:Nat} (hk:TyK P ty true k) (hi:6=k) (hF:F t=.one (.ref id 0 none):=by with_unfolding_all exact rfl) (hH:H[id]?=some (.box ty' [.d (.val (.bool false)),.d (.val (.slice none 0 0)),.d (.val (.int .i64 0)),.d (.val (.bool false)),.d (.val (.slice none 0 0)),.d (.val (.int .i64 0))]):=by with_unfolding_all exact rfl):RV P F H (.cell t ty) (.agg [.val (.bool false),.row false 1 0 [],.val (.int .i64 0),.val (.bool false),.row false 1 0 [],.val (.int .i64 0)]):=by
 obtain ⟨⟨dd,hu,hd⟩,hz⟩:=hk
 exact .cellA hF hH hu hd (by rw [hz,←hi];rfl) (.cons_ (.d fun _=>.val _) (.cons_ .nil (.cons_ (.d fun _=>.val _) (.cons_ (.d fun _=>.val _) (.cons_ .nil (.cons_ (.d fun _=>.val _) .nil_))))))
theorem AdL (r s:Rv) (hr:RvL r) (hs:RvL s):CV prog An 209 [.agg (dIr false (r,s))] [aIw false (ApW r s)]:=by
 refine cvz func209 ntmps209 ?_
 have V:=ZY r s hr hs
 by_cases c:ivR r s=true
 case pos =>
  rw [show ApW r s=(rvP r,rvP s) from if_pos c]
  rw [c,(AdK hr hs c).1] at V
  rw [(AdK hr hs c).1]
  repeat' (with_reducible first|refine qq ?_|(refine Tx 0 ?_;refine gN xBo <| gN (xAl AE) ?_)|(refine Tx 1 ?_;refine gO xL <| gO (xCl func80 (V)) ?_)|(refine Tx 2 ?_;refine gO xL <| gZ (xSk Ag) ?_))
  exact DR
 rw [show ApW r s=((0,0),(0,0)) from if_neg c]
 rw [em] at c
 rw [c] at V
 unfold aIw
 rw [AlC]
 repeat' (with_reducible first|refine qq ?_|(refine Tx 0 ?_;refine gN xBo <| gN (xAl AE) ?_)|(refine Tx 1 ?_;refine gO xL <| gO (xCl func80 (V)) ?_)|(refine Tx 3 ?_;refine gO (by exact AC rfl CX rfl rfl) <| gZ (xSk Ag) ?_))
 exact Ax rfl (.cons_ (rvJ1 Ag rfl) .nil_)
theorem AdM (a:Iq) {n d:Nat} (h:IwS a n d) (hn:n≤1280000):CV prog An 209 [aIw false a] [aIw false a]:=by
 have:=AdL (II a.1) (II a.2) (Yq h.s1 hn) (Yq h.s2 hn)
 rw [ApY h] at this
 unfold dIr at this
 rwa [PN,PN] at this
theorem ZZ (p:Pq) (hn:Nf p.1 p.2) (hl:(Ad p.1.natAbs).length≤40000):CV prog An 187 [aDy false p.1 p.2] [aIw false (p,p)]:=by
 refine cvz func187 ntmps187 ?_
 have NM:=AkU An p.1 p.2 hn (lT hl (by decide))
 repeat' (with_reducible first|refine qq ?_|(refine Tx 0 ?_;refine gN xBo <| gN (xAl AE) ?_)|(refine Tx 1 ?_;refine gO xL <| gO (xCl func105 (NM)) <| gZ (xSk Ae) ?_)|(refine Tx 2 ?_;refine gO xL <| gO xL <| gO (by exact AC rfl CX rfl rfl) <| gZ (xSk Ag) ?_))
 exact DR
theorem AdN (t:Bool) (L:List Pq) (hne:L≠[]) (hs:∀ p∈L,Sm p 40064 40000) (hL:L.length≤100):CV prog An 232 [.one (.row t 3 L.length (AN dyP L))] [aIw false (Dd L)]:=by
 refine cvz func232 ntmps232 ?_
 obtain ⟨p,l,rfl⟩:∃ p l,L=p::l:=by cases L with|nil=>exact absurd rfl hne|cons p l=>exact ⟨p,l,rfl⟩
 have hp:=hs p (ii ..)
 have hpl:=lT (hp.lenN 1252 (by decide)) (show 1252≤40000 by decide)
 have PT:=ZZ p hp.ok hpl
 have hlen:(p::l).length=l.length+1:=bk
 repeat' (with_reducible first|refine qq ?_|(refine Tx 0 ?_;refine gN (xAl AE) ?_)|(refine Tx 1 ?_;refine gO xM <| gO (by exact TR (i:=0) rfl rfl rfl rfl Ai (by omega) (by decide) (Ys (l:=p::l) (k:=0) rfl)) <| gO xL <| gO (xCl func187 (PT)) <| gN (xAl AE) <| gZ (xSk Ag) ?_)|(refine Tx 2 ?_;refine gO xM <| gO (by exact UH (lo:=1) rfl rfl rfl rfl Ai (by omega)) <| gO xN <| gO xM ?_))
 refine Bi (BE 2) (Aq (fun n Fr H=>∃ k:Nat,k≤l.length∧n=l.length - k∧IwS ((l.take (k)).foldl GY (p,p)) 40064 40000∧Fr=ofL [(2,vr 0),(3,vr 1),(11,vd (.row t 3 ((p::l).length - 1) ((AN dyP (p::l)).drop (1*3)))),(12,vi (((p::l).length - 1:Nat))),(13,vi ((k:Nat)))]∧H=[.box 45 [.d (.val (.bool false)),.d (.val (.slice none 0 0)),.d (.val (.int .i64 0)),.d (.val (.bool false)),.d (.val (.slice none 0 0)),.d (.val (.int .i64 0))],.box 45 ((dIw false ((l.take (k)).foldl GY (p,p))).map C.d)]) (n0:=l.length) ⟨0,ad _,rfl,.pt hp,rfl,rfl⟩ ?_)
 rintro n Fr H ⟨k,hk,rfl,hS,rfl,rfl⟩
 by_cases hlt:k<l.length
 case pos =>
  obtain ⟨x,hx⟩:∃ x,l[k]?=some x:=⟨_,gE hlt⟩
  have hxs:=hs x (ij _ (gM hx))
  have hxl:=lT (lT (hxs.lenN 1252 (by decide)) (show 1252≤40000 by decide)) (show 40000≤50000 by decide)
  have a1:=hS.s1
  have a2:=hS.s2
  have a1l:=lT (lT (a1.lenN 1252 (by decide)) (show 1252≤40000 by decide)) (show 40000≤50000 by decide)
  have a2l:=lT (lT (a2.lenN 1252 (by decide)) (show 1252≤40000 by decide)) (show 40000≤50000 by decide)
  have hnx:GY ((l.take (k)).foldl GY (p,p)) x=((l.take (k+1)).foldl GY (p,p)):=by rw [aw,hx,fe,fo];rfl
  have hIS:IwS (GY ((l.take (k)).foldl GY (p,p)) x) 40064 40000:=⟨Sm.min a1 hxs,Sm.max a2 hxs,by show gv (NH _ x)≤gv (Ga _ x);rw [FD a1.le hxs.le,DP a2.le hxs.le];have:=hS.le;omega⟩
  rw [hnx] at hIS
  have hxd:(((AN dyP (p::l)).drop (1*3)).drop (k*3)).take 3=dyP x:=by rw [List.drop_drop,show 1*3+k*3=(k+1)*3 by omega];exact Ys (l:=p::l) (k:=k+1) (by rw [fg];exact hx)
  generalize hT:((l.take (k)).foldl GY (p,p))=T at *
  have MN:=(AkY An false false T.1.1 T.1.2 x.1 x.2 a1.ok hxs.ok a1l hxl).cv
  have MX:=(AkZ An false false T.2.1 T.2.2 x.1 x.2 a2.ok hxs.ok a2l hxl).cv
  repeat' (with_reducible first|refine qq ?_|(refine Tx 3 ?_;refine gO xLt ?_)|(refine Tx 4 ?_;refine gO (xIr Ai (hxd)) <| gO xL <| gN (xAl Av) <| gZ (xSk Ae) ?_)|(refine AJ (id:=5) 9 AX (by kernel_rfl) ?_;dsimp only [List.take,List.drop];refine gP xF <| gP xL <| gP xL <| gP (xCl func255 (MN)) <| gP xF <| gP xL <| gP xL <| gP (xCl func100 (MX)) <| gP xF ?_;refine Ke ?_;refine gZ (xSk Ae) <| gO xF <| gZ (xSk Ae) ?_)|(refine Tx 6 ?_;refine gO xAd <| gO xM ?_))
  exact AiB
 obtain rfl:k=l.length:=by omega
 clear hlt hk
 rw [ay]
 repeat' (with_reducible first|refine qq ?_|(refine Tx 3 ?_;refine gO xLt ?_)|(refine Tx 7 ?_;refine gO xL <| gZ (xSk Ag) ?_))
 exact DR
theorem ApZ {p:Prop} (h:p:=by first|exact xCl func39 (O1)|exact xCl func39 (O2)):p:=h
theorem UI (x y:Int) (hx : -9223372036854775807≤x∧x<9223372036854775808) (hy : -9223372036854775807≤y∧y<9223372036854775808):CV prog An 165 [aI x,aI y] [aIw false (Dd [(x,0),(y,0)])]:=by
 refine cvz func165 ntmps165 ?_
 have O1:=(Acp (G:=An) x (by omega) (by omega)).cv
 have O2:=(Acp (G:=An) y (by omega) (by omega)).cv
 have s1:Sm (x,0) 40064 40000:=Yt x (by omega)
 have s2:Sm (y,0) 40064 40000:=Yt y (by omega)
 have SP:=AdN true [(x,0),(y,0)] (by simp) (fun p hp=>by simp only [bo,bp,or_false] at hp;rcases hp with rfl|rfl <;> assumption) (bf rfl)
 repeat' (with_reducible first|refine qq ?_|(refine Tx 0 ?_;refine gN (xAl AE) ?_)|(refine Tx 1 ?_;refine gO xM <| gO ApZ <| gO xM <| gO ApZ <| gN (by exact FV rfl Ai Av rfl rfl rfl rfl (by decide) (by decide)) <| gO (xCl func232 (SP)) <| gZ (xSk Ag) ?_))
 exact DR
theorem Aqa {p:Prop} (h:p:=by first|exact xCl func29 (C1)|exact xCl func29 (C2)):p:=h
theorem AdO {p:Prop} (k:p') (h:Hd9 p'→p:=by with_reducible first|(intro Z9;refine qq ?_;exact Z9.o)|(intro Z9;refine Tx 0 ?_;refine gN xBo <| gN xBo <| gO xA ?_;exact Z9.o)|(intro Z9;refine Tx 1 ?_;refine gO xL <| gO (xCl func209 (AA)) <| gZ (xSk Ag) ?_;exact Z9.o)|(intro Z9;refine Tx 2 ?_;refine gO xF <| gO xL <| gO xL <| gO Aqa <| gO xLe <| gO xM ?_;(first|iterate 5 refine Jd ?_|(refine Jy (xLa Ae) ?_;refine Jy (xFa AP Ae) ?_;refine Jy (xLa Ae) ?_;refine Jy Aqa ?_;refine Jy xLe ?_));refine gO xPk <| gO xA ?_;exact Z9.o)|fail):p:=h ⟨k⟩
theorem SL (a:Iq) (p:Pq) (h:IwS a 20000 20000) (hp:Sm p 20000 20000):CV prog An 116 [aIw false a,aDy false p.1 p.2] [aB (iIn (p,p) a)]:=by
 refine cvz func116 ntmps116 ?_
 have h1:=h.s1
 have h2:=h.s2
 have hl:=lT (h1.l4) (show 40000≤50000 by decide)
 have hm:=lT (h2.l4) (show 40000≤50000 by decide)
 have AA:=AdM a h (by decide)
 have hpl:=lT (hp.lenN 625 (by decide)) (show 625≤50000 by decide)
 have C1:=(Sn (G:=An) false false a.1.1 a.1.2 p.1 p.2 h1.ok hp.ok hl hpl).cv
 have C2:=(Sn (G:=An) false false p.1 p.2 a.2.1 a.2.2 hp.ok h2.ok hpl hm).cv
 by_cases c1:Cm a.1.1 a.1.2 p.1 p.2≤0
 case neg =>
  repeat' (with_reducible first|refine AdO ?_)
  exact Ax rfl (.cons_ (DJ rfl (by unfold iIn;rw [decide_eq_false c1];rfl)) .nil_)
 by_cases c2:Cm p.1 p.2 a.2.1 a.2.2≤0
 case pos =>
  repeat' (with_reducible first|refine AdO ?_)
  exact Ax rfl (.cons_ (DJ rfl (by unfold iIn;rw [decide_eq_true c1,decide_eq_true c2];rfl)) .nil_)
 case neg =>
  repeat' (with_reducible first|refine AdO ?_)
  exact Ax rfl (.cons_ (DJ rfl (by unfold iIn;rw [decide_eq_true c1,decide_eq_false c2];rfl)) .nil_)
abbrev iZ:Iq:=((0,0),(0,0))
def AlW (a:Iq):Bool:=CI a.1 || CI a.2
def Mw (p:Prt):Iq:=(Ac p.lo 0 (-p.fr),Ac p.hi 0 (-p.fr))
def Gc (y:Bk) (l:List Iq):Iq :=
 if y.kind=1 then (Ac y.vn 0 y.ve,Ac y.vn 0 y.ve)
 else if y.kind=3 then AgJ (l[0]?.getD iZ) (l[1]?.getD iZ)
 else if y.kind=4 then AmY (l[0]?.getD iZ) (l[1]?.getD iZ)
 else if y.kind=5 then Aft (l[0]?.getD iZ)
 else if y.kind=6 then PK (l[0]?.getD iZ) (Ac y.vn 0 y.ve)
 else if y.kind=7 then Wl (l[0]?.getD iZ) (l[1]?.getD iZ)
 else if y.kind=8 then AgK (l[0]?.getD iZ) (l[1]?.getD iZ)
 else if y.kind=9 then Afu (l[0]?.getD iZ) (l[1]?.getD iZ)
 else if y.kind=10 then Rj (l[0]?.getD iZ)
 else ZJ (l[0]?.getD iZ) (Ac y.vn 0 y.ve) (Ac y.un 0 y.ue)
def FF (y:Bk) (l:List Iq) (ps:List Prt):Iq:=if y.kind=0 then (ps[((y.args[0]?).getD 0).toNat]?.map Mw).getD iZ else Gc y l
theorem Aqb {d:Nat} (h:IwS a n d) (hl:AlW a=false):IwS a LB LB:=by
 unfold AlW at hl
 rw [ke] at hl
 exact ⟨ZH h.s1.ok hl.1,ZH h.s2.ok hl.2,h.le⟩
theorem IwS.zero (n d:Nat):IwS iZ n d:=.pt (Sm.zero n d)
theorem Bp {d:Nat} (h:∀ p∈l,IwS p n d) (k:Nat):IwS (l[k]?.getD iZ) n d:=by
 cases hk:l[k]? with
 | none=>exact IwS.zero n d
 | some p=>exact h p (gM hk)
theorem Fc {n:Int} (h:Df n e):Sm (Ac n 0 e) LB LB:=by
 obtain ⟨h1,h2,h3,h4⟩:=h
 exact (Sm.shift (n:=32) (by omega) (by omega) (by omega)).more (by decide) (by decide)
theorem GZ (hl:∀ p∈l,IwS p LB LB) (hv:(y.kind=1∨y.kind=6∨y.kind=11)→Df y.vn y.ve) (hu:y.kind=11→Df y.un y.ue) (hk:y.kind=1∨y.kind=3∨y.kind=4∨y.kind=5∨y.kind=6∨y.kind=7∨y.kind=8∨y.kind=9∨y.kind=10∨y.kind=11):IwS (Gc y l) LC LC:=by
 have a:=Bp hl 0
 have b:=Bp hl 1
 have up:∀ {r:Iq},IwS r LB LB→IwS r LC LC:=fun h=>h.more (by decide) (by decide)
 unfold Gc
 generalize l[0]?.getD iZ=p at a ⊢
 generalize l[1]?.getD iZ=q at b ⊢
 rcases hk with h|h|h|h|h|h|h|h|h|h <;> simp only [h,Int.reduceEq,if_true,if_false,reduceIte]
 ·exact up (.pt (Fc (hv (.inl h))))
 ·exact (IwS.add a b (by decide:LB≤65536)).more (by decide:LB+LB+1≤LC) Arj
 ·exact (IwS.sub a b (by decide:LB≤65536)).more (by decide:LB+LB+1≤LC) Arj
 ·exact up a.neg
 ·exact (IwS.mul a (.pt (Fc (hv (.inr (.inl h))))) (by decide:LB≤30000)).more (by decide:LB+LB≤LC) (by decide:LB+LB≤LC)
 ·exact (IwS.mul a b (by decide:LB≤30000)).more (by decide:LB+LB≤LC) (by decide:LB+LB≤LC)
 ·exact up (a.min b)
 ·exact up (a.max b)
 ·exact up a.abs
 ·exact up (a.clip (Fc (hv (.inr (.inr h)))) (Fc (hu h)))
structure Wy (p:Prt):Prop where
 l0 : -2147483648≤p.lo
 le:p.lo≤p.hi
 h1:p.hi<2147483648
 f0:0≤p.fr
 f1:p.fr≤30
theorem Ha {z f:Int} (f0:0≤f) (f1:f≤30):gv (Ac z 0 (-f))*2 ^ f.toNat=z*2 ^ GQ:=by
 have:=Mh (p:=(z,0)) (n:=f.toNat) (by show 0+f.toNat≤65536;omega) (by omega)
 rw [show (-(f.toNat:Int)) = -f by omega,Mi] at this
 exact this
theorem Wz {z f:Int} (h0 : -2147483648≤z) (h1:z<2147483648) (f0:0≤f) (f1:f≤30):Sm (Ac z 0 (-f)) 264 200:=Sm.shift (n:=64) (by omega) (by omega) (by omega)
theorem Wy.iw {p:Prt} (h:Wy p):IwS (Mw p) 264 200:=by
 obtain ⟨h1,h2,h3,h4,h5⟩:=h
 refine ⟨Wz h1 (by omega) h4 h5,Wz (by omega) h3 h4 h5,?_⟩
 have e1:=Ha (z:=p.lo) h4 h5
 have e2:=Ha (z:=p.hi) h4 h5
 refine Int.not_lt.1 fun hc=>?_
 have:=ml hc (Cf p.fr.toNat)
 have g2:=dc h2 (bl (Cf GQ))
 have e1':gv (Mw p).1*2 ^ p.fr.toNat=p.lo*2 ^ GQ:=e1
 have e2':gv (Mw p).2*2 ^ p.fr.toNat=p.hi*2 ^ GQ:=e2
 omega
theorem Wy.scale {p:Prt} (h:Wy p):PK (Dd [(p.lo,0),(p.hi,0)]) (Ac 1 0 (-p.fr))=Mw p:=by
 have H:=h.iw
 obtain ⟨h1,h2,h3,h4,h5⟩:=h
 have s1:Sm (p.lo,0) 264 200:=PQ p.lo (by omega) (by decide)
 have s2:Sm (p.hi,0) 264 200:=PQ p.hi (by omega) (by decide)
 obtain ⟨e1,e2,e3⟩:=Mt s1 s2
 have s3:Sm (Ac 1 0 (-p.fr)) 264 200:=Wz (by decide) (by decide) h4 h5
 have g2:=dc h2 (bl (Cf GQ))
 rw [Mi,Mi] at e1 e2
 have E1:gv (Dd [(p.lo,0),(p.hi,0)]).1=p.lo*2 ^ GQ:=by rw [e1];omega
 have E2:gv (Dd [(p.lo,0),(p.hi,0)]).2=p.hi*2 ^ GQ:=by rw [e2];omega
 generalize Dd [(p.lo,0),(p.hi,0)]=w at e3 E1 E2 ⊢
 have m1:=Sm.mul e3.s1 s3 (by decide)
 have m2:=Sm.mul e3.s2 s3 (by decide)
 obtain ⟨k1,k2,k3⟩:=EL m1 m1 m2 m2
 have mg:∀ {x:Pq} {z:Int},Sm x 264 200→gv x=z*2 ^ GQ→gv (Cz x (Ac 1 0 (-p.fr)))=gv (Ac z 0 (-p.fr)):=fun {x z} hx hz=>by
  have a1:=IB (p:=x) (q:=Ac 1 0 (-p.fr)) (lT (eo hx.d s3.d) (by decide))
  have a2:=Ha (z:=1) h4 h5
  have a3:=Ha (z:=z) h4 h5
  rw [hz] at a1
  have p1:=Cf GQ
  have p2:=Cf p.fr.toNat
  refine en (fm p2) (en (fm p1) ?_)
  rw [a3,ia,a1,ai (z*2 ^ GQ),a2,jg]
 have G1:=mg e3.s1 E1
 have G2:=mg e3.s2 E2
 refine ApX (n:=264+264) (d:=200+200) k3 H ?_ ?_
 ·show gv (Dd [Cz w.1 (Ac 1 0 (-p.fr)),Cz w.1 (Ac 1 0 (-p.fr)),Cz w.2 (Ac 1 0 (-p.fr)),Cz w.2 (Ac 1 0 (-p.fr))]).1=gv (Ac p.lo 0 (-p.fr))
  rw [k1,G1,G2]
  have:=H.le
  simp only [Mw] at this
  omega
 ·show gv (Dd [Cz w.1 (Ac 1 0 (-p.fr)),Cz w.1 (Ac 1 0 (-p.fr)),Cz w.2 (Ac 1 0 (-p.fr)),Cz w.2 (Ac 1 0 (-p.fr))]).2=gv (Ac p.hi 0 (-p.fr))
  rw [k2,G1,G2]
  have:=H.le
  simp only [Mw] at this
  omega
theorem UJ (h:Bl ps bs os=0) {i:Nat} {p:Prt} (hp:ps[i]?=some p):Wy p:=by
 have hpp:=Mo h hp
 have h3 : -2147483648≤p.lo∧p.lo≤p.hi∧p.hi<2147483648∧0≤p.fr∧p.fr≤30:=cw fun hn=>by unfold DW at hpp;rw [if_neg hn] at hpp;cases hpp
 exact ⟨h3.1,h3.2.1,h3.2.2.1,h3.2.2.2.1,h3.2.2.2.2⟩
theorem Ash {k:Nat} (h:l[k]?=some a):((AN (dIw false) l).drop (k*6)).take 6=dIw false a:=Fv (f:=dIw false) (s:=6) (fun _=>rfl) h
abbrev ivQ (q:Rv × Rv):Iq:=(rvP q.1,rvP q.2)
def AdP (qs:List (Rv × Rv)):D:=.row false 6 qs.length (AN (dIr false) qs)
abbrev ivC (q:Rv × Rv):Bool:=ivR q.1 q.2
theorem Aaa {qs:List (Rv × Rv)} {k:Nat} {q:Rv × Rv} (h:qs[k]?=some q):((AN (dIr false) qs).drop (k*6)).take 6=dIr false q:=Fv (f:=dIr false) (s:=6) (fun _=>rfl) h
theorem AdQ {q:Rv × Rv} (hr:RvL q.1) (hs:RvL q.2) (h:ivC q=true):IwS (ivQ q) 1280000 65536∧dIr false q=dIw false (ivQ q)∧(Ad (rvP q.1).1.natAbs).length≤40000∧(Ad (rvP q.2).1.natAbs).length≤40000:=by
 obtain ⟨e,n1,n2,g,k1,k2⟩:=AdK hr hs h
 exact ⟨⟨AdD (p:=rvP q.1) n1 (k:=40000) (k1 ▸ hr.2) (by decide),AdD (p:=rvP q.2) n2 (k:=40000) (k2 ▸ hs.2) (by decide),g⟩,e,k1 ▸ hr.2,k2 ▸ hs.2⟩
abbrev pw (k:Int):Pq:=Ac 1 0 k
theorem Asi {k:Int} (h0 : -(n:Int)≤k) (h1:k≤n) (hn:n≤65536):Sm (pw k) (n+1) n:=by
 unfold pw Ac
 split
 ·exact (Sm.mk_nf (m:=1) (n:=n+1) (d:=n) (p:=0+(-(max (-65536) (min k 65536))).toNat) (by omega) (by omega) (Nat.one_lt_two_pow (by omega)))
 ·refine (Sm.mk_nf (n:=n+1) (d:=n) (p:=0) (by omega) (by omega) ?_)
  rw [jg,fx]
  exact Nat.pow_lt_pow_right (by decide) (by omega)
theorem Asj {k:Int} (h0 : -65536≤k) (h1:k≤65536):gv (pw k)=2 ^ (65536+k).toNat:=by
 by_cases hk:0≤k
 ·have:=Mg (p:=(1,0)) (n:=k.toNat) (ad _) (by omega)
  rw [show ((k.toNat:Nat):Int)=k by omega,Mi,jg,←ao] at this
  rw [show gv (pw k)=_ from this]
  congr 1
  show 65536+k.toNat=_
  omega
 ·have:=Mh (p:=(1,0)) (n:=(-k).toNat) (by show 0+(-k).toNat≤65536;omega) (by omega)
  rw [show (-(((-k).toNat:Nat):Int))=k by omega,Mi,jg] at this
  refine en (fm (Cf (-k).toNat)) ?_
  rw [this,←ao]
  congr 1
  show 65536=_
  omega
theorem AlX {b:Iq} {d:Nat} (h:IwS a n d) (k:IwS b n d):gv (Uv a b).1=min (gv a.1) (gv b.1)∧gv (Uv a b).2=max (gv a.2) (gv b.2):=by
 obtain ⟨e1,e2,e3⟩:=EL h.s1 h.s2 k.s1 k.s2
 have h1:=h.le
 have h2:=k.le
 exact ⟨by show gv (Dd [a.1,a.2,b.1,b.2]).1=_;rw [e1];omega,by show gv (Dd [a.1,a.2,b.1,b.2]).2=_;rw [e2];omega⟩
def rvI2 (a:Iq):Rv × Rv:=(II a.1,II a.2)
theorem AdR (l:List Iq):AdP (l.map rvI2)=.row false 6 l.length (AN (dIw false) l):=by
 unfold AdP AN
 rw [af,jb]
 congr 2
 refine ig fun a _=>?_
 show dRv false (II a.1)++dRv false (II a.2)=dIw false a
 rw [PN,PN]
 rfl
def WA (t:Bool) (ps:List Prt) (is:List Int) (xs:List Ins) (os:List Int):A:=.agg [Dh t ps,Ba t is,AaG t xs,Ba t os]
theorem UK (n e f:Int):CVF prog An 117 [.agg [dI n,dI e],aI f] [aI (Dq n e f),aE (BJ n e f)]:=fun w S vs hg hlt ha=>by
 obtain ⟨v,vs',rfl,h1,ha⟩:=ha.uncons
 obtain ⟨u,hu,h2⟩:=BI ha
 subst hu
 obtain ⟨xs,rfl,h3⟩:=h1
 have h4:=Oi (vs:=[.int .i64 n,.int .i64 e]) h3
 subst h4
 cases h2
 refine (Agj n e f w hg).mono fun r w' ⟨he,hb⟩=>?_
 exact ⟨_,he,VP (Bh.val rfl) (Bh.val (XM _)),hb⟩
theorem Ask (k:Int):CVF prog An 118 [aI k] [aI (opM k)]:=fun w S vs hg hlt ha=>by
 obtain ⟨u,hu,h2⟩:=BI ha
 subst hu
 cases h2
 refine (Sz k w).mono fun r w' ⟨he,hw⟩=>?_
 subst hw
 exact ⟨_,he,Bh.val rfl,ab _ _⟩
theorem AlY (xs:List Int) (y z:Int):cI xs++[.d (.val (.int .i64 y)),.d (.val (.int .i64 z))]=cI (xs++[y,z]):=by simp [cI]
def cD (ds:List D):List C:=ds.map C.d
theorem AiD (xs ys:List D):cD xs++cD ys=cD (xs++ys):=(gz ..).symm
theorem Rr {l:List Nat} (h:l[t]?=some j):(BK l)[t]?=some (j:Int):=by simp [BK,h]
def En (f:Nat→Int) (k j:Nat):Int:=if j<k then f j else 0
theorem Mx {k:Nat}:(tab n (En f k)).set k (f k)=tab n (En f (k+1)) :=
 Wd (by unfold En;rw [if_pos (by omega)]) fun j hj=>by
  unfold En
  by_cases h:j<k
  ·rw [if_pos h,if_pos (by omega)]
  ·rw [if_neg h,if_neg (by omega)]
theorem Fd {k:Nat} (h:f k=0):tab n (En f k)=tab n (En f (k+1)) :=
 HH fun j _=>by
  unfold En
  by_cases h1:j<k
  ·rw [if_pos h1,if_pos (by omega)]
  ·by_cases h2:j=k
   ·subst h2
    rw [if_neg h1,if_pos (by omega),h]
   ·rw [if_neg h1,if_neg (by omega)]
theorem SM:tab n (En f n)=tab n f:=HH fun j hj=>by unfold En;rw [if_pos hj]
theorem AdS (n:Nat) (f:Nat→Int):tab n (En f 0)=List.replicate n 0:=by
 rw [←AgD]
 exact HH fun j _=>by unfold En;rw [if_neg (by omega)]
def EE (bs:List Bk) (F:List Int) (j:Nat):Int:=if AG bs j=2 then Ed bs F j else 0
def Nm (bs:List Bk) (t j:Nat):Int:=if AG bs j=2∧IE (dlB bs) j<t then (bs.length:Int)+(IE (dlB bs) j:Int) else 0
def Nn (bs:List Bk) (t j:Nat):Int :=
 if AG bs j=2 then (bs.length:Int)+(IE (dlB bs) j:Int) else if AG bs j=11∧IE (cpB bs) j<t then (bs.length:Int)+((dlK bs bs.length).length:Int)+2*(IE (cpB bs) j:Int) else 0
theorem PR:(dlK bs bs.length)[t]?=some j ↔ j<bs.length∧AG bs j=2∧IE (dlB bs) j=t:=by
 unfold dlK
 rw [Mk (dlB bs) t j]
 simp [dlB]
theorem AdT:(cpK bs bs.length)[t]?=some j ↔ j<bs.length∧AG bs j=11∧IE (cpB bs) j=t:=by
 unfold cpK
 rw [Mk (cpB bs) t j]
 simp [cpB]
theorem Np (h:j<bs.length) (hk:AG bs j=2):IE (dlB bs) j<(dlK bs bs.length).length :=
 (gS.1 (PR.2 ⟨h,hk,rfl⟩)).1
theorem Nq (h:j<bs.length) (hk:AG bs j=11):IE (cpB bs) j<(cpK bs bs.length).length :=
 (gS.1 (AdT.2 ⟨h,hk,rfl⟩)).1
theorem YA (p:Nat→Bool) {i j:Nat} (hi:p i=true) (hj:p j=true) (h:IE p i=IE p j):i=j:=by
 have h1:=(Mk p (IE p i) i (i+j+1)).2 ⟨by omega,hi,rfl⟩
 have h2:=(Mk p (IE p i) j (i+j+1)).2 ⟨by omega,hj,h.symm⟩
 rw [h1] at h2
 exact Option.some.inj h2
theorem Ahe (h:(dlK bs bs.length)[t]?=some i):Nm bs (t+1) i=(bs.length:Int)+(t:Int):=by
 obtain ⟨_,h2,h3⟩:=PR.1 h
 unfold Nm
 rw [if_pos ⟨h2,by omega⟩,h3]
theorem AdU (h:(dlK bs bs.length)[t]?=some i) (hj:j≠i):Nm bs (t+1) j=Nm bs t j:=by
 obtain ⟨_,h2,h3⟩:=PR.1 h
 unfold Nm
 by_cases hk:AG bs j=2
 ·by_cases hr:IE (dlB bs) j<t
  ·rw [if_pos ⟨hk,by omega⟩,if_pos ⟨hk,hr⟩]
  ·have hne:IE (dlB bs) j≠t:=fun e=>hj (YA (dlB bs) (by simp [dlB,hk]) (by simp [dlB,h2]) (by rw [e,h3]))
   rw [if_neg (fun hc=>by have:=hc.2;omega),if_neg (fun hc=>hr hc.2)]
 ·rw [if_neg (fun hc=>hk hc.1),if_neg (fun hc=>hk hc.1)]
theorem Aab (bs:List Bk) (n:Nat) (f:Nat→Int):tab n (En f 0)=tab n (Nm bs 0):=HH fun j _=>by
 unfold Nm En
 rw [if_neg (by omega),if_neg (by omega)]
theorem Aac (bs:List Bk):tab bs.length (Nm bs (dlK bs bs.length).length)=tab bs.length (Nn bs 0):=HH fun j hj=>by
 unfold Nn Nm
 by_cases hk:AG bs j=2
 ·rw [if_pos hk,if_pos ⟨hk,Np hj hk⟩]
 ·rw [if_neg hk,if_neg (by omega),if_neg (fun hc=>hk hc.1)]
theorem Ahf (h:(cpK bs bs.length)[t]?=some i):Nn bs (t+1) i=(bs.length:Int)+((dlK bs bs.length).length:Int)+2*(t:Int):=by
 obtain ⟨_,h2,h3⟩:=AdT.1 h
 unfold Nn
 rw [if_neg (by omega),if_pos ⟨h2,by omega⟩,h3]
theorem AdV (h:(cpK bs bs.length)[t]?=some i) (hj:j≠i):Nn bs (t+1) j=Nn bs t j:=by
 obtain ⟨_,h2,h3⟩:=AdT.1 h
 unfold Nn
 by_cases hd:AG bs j=2
 ·rw [if_pos hd,if_pos hd]
 ·rw [if_neg hd,if_neg hd]
  by_cases hk:AG bs j=11
  ·by_cases hr:IE (cpB bs) j<t
   ·rw [if_pos ⟨hk,by omega⟩,if_pos ⟨hk,hr⟩]
   ·have hne:IE (cpB bs) j≠t:=fun e=>hj (YA (cpB bs) (by simp [cpB,hk]) (by simp [cpB,h2]) (by rw [e,h3]))
    rw [if_neg (fun hc=>by have:=hc.2;omega),if_neg (fun hc=>hr hc.2)]
  ·rw [if_neg (fun hc=>hk hc.1),if_neg (fun hc=>hk hc.1)]
theorem AdW (bs:List Bk):tab bs.length (Nn bs (cpK bs bs.length).length)=tab bs.length (AM bs):=HH fun j hj=>by
 unfold Nn AM
 by_cases hd:AG bs j=2
 ·rw [if_pos hd,if_pos hd]
 ·rw [if_neg hd,if_neg hd]
  by_cases hk:AG bs j=11
  ·rw [if_pos hk,if_pos ⟨hk,Nq hj hk⟩]
  ·rw [if_neg hk,if_neg (fun hc=>hk hc.1)]
theorem UL (f g:Nat→Int) (l:List Nat):(l.flatMap fun j=>[f j,g j]).length=2*l.length:=by
 induction l with
 | nil=>rfl
 | cons x l ih =>
  simp only [List.flatMap_cons,ak,bk,List.length_nil,ih]
  omega
theorem Aad {g:Nat→Int} {l:List Nat} {s:Nat} (h:l[s]?=some i):(l.take (s+1)).flatMap (fun j=>[f j,g j])=(l.take s).flatMap (fun j=>[f j,g j])++[f i,g i]:=by
 rw [aw,h]
 simp
def cdA (ps:List Prt) (bs:List Bk) (F:List Int) (t:Nat):List Ins:=((BH bs).take t).flatMap (fun j=>Fb ps bs F j (AM bs j))
def cdB (ps:List Prt) (bs:List Bk) (F:List Int) (t:Nat):List Ins:=cdA ps bs F (BH bs).length++((dlK bs bs.length).take t).map (mv1 bs F)
def cdC (ps:List Prt) (bs:List Bk) (F:List Int) (t:Nat):List Ins:=cdB ps bs F (dlK bs bs.length).length++((dlK bs bs.length).take t).map (mv2 bs)
section
variable {ps:List Prt} {bs:List Bk} {F:List Int} {t j:Nat}
theorem Ahg:cdB ps bs F 0=cdA ps bs F (BH bs).length:=by unfold cdB;rw [gy,ga,az]
theorem Ahh:cdC ps bs F 0=cdB ps bs F (dlK bs bs.length).length:=by unfold cdC;rw [gy,ga,az]
theorem WB:cdC ps bs F (dlK bs bs.length).length=Cg ps bs F:=by
 unfold cdC cdB cdA Cg
 rw [ay,ay,GV]
theorem Gu (h:(BH bs)[t]?=some j):cdA ps bs F (t+1)=cdA ps bs F t++Fb ps bs F j (AM bs j):=AcQ h
theorem Ahi (h:(dlK bs bs.length)[t]?=some j):cdB ps bs F (t+1)=cdB ps bs F t++[mv1 bs F j]:=by
 unfold cdB
 rw [aw,h]
 simp
theorem Ahj (h:(dlK bs bs.length)[t]?=some j):cdC ps bs F (t+1)=cdC ps bs F t++[mv2 bs j]:=by
 unfold cdC
 rw [aw,h]
 simp
theorem AdX (t:Nat):(cdA ps bs F t).length≤2*t:=lT (AgG _) (by rw [dm];omega)
theorem AdY (t:Nat):(cdB ps bs F t).length≤2*(BH bs).length+t:=by
 unfold cdB
 have:=AdX (ps:=ps) (bs:=bs) (F:=F) (BH bs).length
 rw [ak,af,dm]
 omega
theorem WC (t:Nat):(cdC ps bs F t).length≤2*(BH bs).length+(dlK bs bs.length).length+t:=by
 unfold cdC
 have:=AdY (ps:=ps) (bs:=bs) (F:=F) (dlK bs bs.length).length
 rw [ak,af,dm]
 omega
theorem Hb {X:List Ins} {x:Ins} (h:Y=X++[x]):cD (AN Tg X)++[.d (dI x.op),.d (dI x.dst),.d (dI x.a),.d (dI x.b),.d (dI x.sa),.d (dI x.sb),.d (dI x.imm)]=cD (AN Tg Y):=by
 rw [h,EU,←AiD]
 rfl
theorem Ahk {X:List Ins} {x y:Ins} (h:Y=X++[x,y]):cD (AN Tg X)++([.d (dI x.op),.d (dI x.dst),.d (dI x.a),.d (dI x.b),.d (dI x.sa),.d (dI x.sb),.d (dI x.imm)]++[.d (dI y.op),.d (dI y.dst),.d (dI y.a),.d (dI y.b),.d (dI y.sa),.d (dI y.sb),.d (dI y.imm)])=cD (AN Tg Y):=by
 rw [h,EU,←AiD]
 rfl
theorem Hc {X:List Ins} {x:Ins} (h:Y=X++[x]):X.length+1=Y.length:=by rw [h,ak];rfl
theorem Ahl {X:List Ins} {x y:Ins} (h:Y=X++[x,y]):X.length+2=Y.length:=by rw [h,ak];rfl
theorem AlZ {xs:List Ins} {k:Nat} {y:Ins} (h:xs[k]?=some y):((cD (AN Tg xs)).drop (k*7)).take 7=cD (Tg y):=by
 unfold cD
 rw [←List.map_drop,←List.map_take,Aif h]
end
theorem UM (xs:List Int):∀ d∈xs.map dI,Dg d:=fun d hd=>by obtain ⟨z,_,rfl⟩:=List.mem_map.1 hd;exact .val _
theorem cI_D (xs:List Int):cI xs=cD (xs.map dI):=by simp [cI,cD,dI]
theorem YB {t:Bool} {s:Nat} {c:C} {y:D} {ds:List D} (hc:c=.own id n) (hH:H[id]?=some (.row ty s n (cD ds))) (hy:y=.row t s n ds) (hf:t=false→∀ d∈ds,Dg d):Gj t H c y:=by
 rw [hc,hy]
 exact .own hH (by simp [cD]) fun j c d h1 h2=>by
  have h3:c=.d d:=by
   simp only [cD,ag,h2,bu,Option.some.injEq] at h1
   exact h1.symm
  rw [h3]
  exact .d fun ht=>hf ht d (gM h2)
theorem WD {c:C} {y:D} {xs:List Int} (hc:c=.own id n) (hH:H[id]?=some (.row ty 1 n (cI xs))) (hn:n=xs.length) (hy:y=Ba false xs):Gj false H c y:=by
 subst hn
 exact YB hc (by rw [hH,cI_D]) hy fun _ d hd=>by obtain ⟨z,_,rfl⟩:=List.mem_map.1 hd;exact .val _
def flP:List Prt:=[⟨-1,1,0⟩]
def flB:List Bk:=[⟨0,none,[0],0,0,0,0,0⟩,⟨6,none,[3],0,1,-1,0,0⟩,⟨3,none,[0,1],0,0,0,0,0⟩,⟨2,none,[2],0,0,0,0,0⟩]
def flO:List Int:=[2]
theorem AdZ:CV prog An 74 [] [aDg false flP flB flO]:=by
 refine cvz func74 ntmps74 ?_
 repeat' (with_reducible first|refine qq ?_|(refine Tx 0 ?_;refine gN (xAl QV) ?_)|(refine Tx 1 ?_;refine gO (by exact AC rfl Aki rfl rfl) <| gN (by exact Bj rfl Bv MY rfl rfl (by decide) (by decide)) <| gN (by exact Bj rfl Af Bz rfl rfl (by decide) (by decide)) <| gN (by exact Bj rfl Af Bz rfl rfl (by decide) (by decide)) <| gO (by exact AC rfl Oe rfl rfl) <| gN (by exact Bj rfl Af Bz rfl rfl (by decide) (by decide)) <| gO (by exact AC rfl GN rfl rfl) <| gO (by exact AC rfl Oe rfl rfl) <| gN (by exact FV rfl Af Bz rfl rfl rfl rfl (by decide) (by decide)) <| gO (by exact AC rfl Oe rfl rfl) <| gN (by exact Bj rfl Af Bz rfl rfl (by decide) (by decide)) <| gO (by exact AC rfl Oe rfl rfl) <| gN (by exact EW rfl rfl Aj Bw (by decide) (by decide) (by decide) rfl rfl rfl) <| gO (by exact AC rfl Zq rfl rfl) <| gZ (xSk CE) ?_))
 exact Ax rfl (.cons_ (Ug rfl rfl CE rfl rfl (by first|((repeat' first|exact CF rfl rfl|refine BG rfl rfl ?_ ?_|refine GO rfl rfl ?_|refine EV rfl rfl ?_|exact CA rfl (fun _=>Dg.val _)|exact Fx rfl rfl|exact cexp_e rfl rfl|refine Ej rfl rfl rfl ?_) <;> fail)|fail)) .nil_)
theorem UO {α:Type} {p:α→Bool} {l:List α} {k:Nat} {x:α} (h:l[k]?=some x) (hp:p x=false):l.all p=false:=List.all_eq_false.2 ⟨x,gM h,by rw [hp];exact Bool.false_ne_true⟩
theorem Ahm {t:Bool} {c:C} {y:D} {xs:List Int} (hc:c=.own id n) (hH:H[id]?=some (.row ty 1 n (cI xs))) (hn:n=xs.length) (hy:y=Ba t xs):Gj t H c y:=by
 subst hn hy
 refine Ej hc hH rfl (AV.map_l.2 ⟨by simp,fun j a b ha hb=>?_⟩)
 rw [ag,ha] at hb
 cases hb
 exact .d fun _=>.val _
theorem AiE {p:Prop} (k:p') (h:Hd9 p'→p:=by with_reducible first|(intro Z9;refine Tx 4 ?_;refine gO xM <| gO (xIr Bv (Fy hp)) <| gO xL <| gN (xAl MY) <| gO xA <| gZ (xSk Lh) ?_;exact Z9.o)|(intro Z9;refine Tx 5 ?_;refine gO xA ?_;exact Z9.o)|(intro Z9;refine Tx 6 ?_;refine gO xM <| gO xM <| gO xN <| gO xLt ?_;exact Z9.o)|(intro Z9;refine Tx 8 ?_;refine gO xM <| gO xM <| gO xF <| gO xD <| gO xF <| gO xD <| gO (xCl func208 (BC.cv)) <| gN (by exact Bj rfl Af Bz rfl rfl (by decide) (by decide)) <| gT (by exact LP rfl rfl rfl rfl rfl rfl Af Bz (by omega) (by decide) hap hap2) <| gO xA ?_;exact Z9.o)|(intro Z9;refine Tx 9 ?_;refine gO xAd <| gO xM ?_;exact Z9.o)|fail):p:=h ⟨k⟩
theorem AiF {p:Prop} (h:p:=by
 refine ⟨_,_,BE 2,_,?_,k+1,by omega,rfl,rfl,rfl⟩
 ·omega):p:=h
theorem Aea (t u:Bool) {ps:List Prt} {bs:List Bk} {os:List Int} (inn:List Int) (hl:FK ps bs os) (h2:inn.length≤1000000):CV prog An 114 [aDg t ps bs os,.one (Ba u inn)] [.one (Ba false (Lx ps inn ps.length))]:=by
 refine cvz func114 ntmps114 ?_
 have hl1:=hl.l1
 repeat' (with_reducible first|refine qq ?_|(refine Tx 0 ?_;refine gN xBo <| gO xA ?_)|(refine Tx 1 ?_;refine gO xA ?_)|(refine Tx 2 ?_;refine gO xF <| gO xD <| gO xN <| gO xM ?_))
 refine Bi (LM 5 3 1 rfl) ?_
 refine Bi (BE 2) (Aq (fun n Fr H=>∃ k:Nat,k≤ps.length∧n=ps.length - k∧Fr=ofL [(1,vd (Ba u inn)),(2,vr 0),(5,vo 1 ((Lx ps inn k).length)),(10,vd (Dh t ps)),(11,vi ps.length),(12,vi ((k:Nat)))]∧H=[.box 26 [.d (Dh t ps),.d (DC t bs),.d (Ba t os)],.row 3 1 (Lx ps inn (k)).length (cI (Lx ps inn (k)))]) (n0:=ps.length) ⟨0,ad _,rfl,rfl,rfl⟩ ?_)
 rintro n Fr H ⟨k,hk,rfl,rfl,rfl⟩
 by_cases hlt:k<ps.length
 case pos =>
  obtain ⟨p,hp⟩:∃ p,ps[k]?=some p:=⟨_,gE hlt⟩
  have hol:(Lx ps inn (k)).length≤k:=Aha _ _ _
  by_cases hki:k<inn.length
  case pos =>
   obtain ⟨z,hz⟩:∃ z,inn[k]?=some z:=⟨_,gE hki⟩
   have hap:(Lx ps inn (k))++[RJ z p.lo p.hi]=(Lx ps inn (k+1)):=(UG hp (by rw [hz];rfl)).symm
   have hap2:(Lx ps inn (k)).length+1=(Lx ps inn (k+1)).length:=by rw [←hap];simp
   have BC:=Yp z p.lo p.hi
   repeat' (with_reducible first|refine qq ?_|(refine Tx 3 ?_;refine gO xLt ?_)|refine AiE ?_|(refine Tx 7 ?_;refine gO xM <| gO xM <| gO (xIr Af (AF hz)) <| gO xD <| gO xA ?_))
   exact AiF
  case neg =>
   have hap:(Lx ps inn (k))++[RJ 0 p.lo p.hi]=(Lx ps inn (k+1)):=(UG hp (by rw [dv (by omega)];rfl)).symm
   have hap2:(Lx ps inn (k)).length+1=(Lx ps inn (k+1)).length:=by rw [←hap];simp
   have BC:=Yp 0 p.lo p.hi
   repeat' (with_reducible first|refine qq ?_|(refine Tx 3 ?_;refine gO xLt ?_)|refine AiE ?_)
   exact AiF
 obtain rfl:k=ps.length:=by omega
 clear hlt hk
 repeat' (with_reducible first|refine qq ?_|(refine Tx 3 ?_;refine gO xLt ?_)|(refine Tx 10 ?_;refine gO xM <| gO xA ?_))
 exact Ax rfl (.cons_ (.tmp (.one (Ahm rfl rfl rfl rfl))) .nil_)
theorem AiG (he:Bl ps bs os=0) (l:List Int):Ut ps (Lx ps l ps.length)=true:=by
 refine List.all_eq_true.2 fun i hi=>?_
 have hil:=List.mem_range.1 hi
 rw [Wx] at hil
 obtain ⟨p,hp⟩:∃ p,ps[i]?=some p:=⟨_,gE hil⟩
 have hz:(Lx ps l ps.length)[i]?=some (RJ (l[i]?.getD 0) p.lo p.hi):=by
  unfold Lx
  rw [ag,ko hil,bu,hp]
  rfl
 unfold AmX
 rw [hp,hz]
 have hpp:=Mo he hp
 have h3 : -2147483648≤p.lo∧p.lo≤p.hi∧p.hi<2147483648∧0≤p.fr∧p.fr≤30:=cw fun hn=>by unfold DW at hpp;rw [if_neg hn] at hpp;cases hpp
 refine decide_eq_true ?_
 unfold RJ
 omega
theorem Ahn (he:Bl ps bs os=0) {st:List (Int × Nat)} (l:List Int):Lp ps bs st (Lx ps l ps.length)=if DD ps bs st (Lx ps l ps.length)=true then 4 else 0:=by
 unfold Lp
 rw [if_neg (not_not_intro (Wx ps l)),if_neg (by rw [AiG he l];decide)]
theorem Aeb (he:Bl ps bs os=0) {st:List (Int × Nat)} {l:List Int} (h:Lp ps bs st (Lx ps l ps.length)≠0):Lp ps bs st (Lx ps l ps.length)=4:=by
 rw [Ahn he] at h ⊢
 split
 ·rfl
 ·rename_i hn;rw [if_neg hn] at h;exact absurd rfl h
theorem Aho (h:y.kind≠0) {k:Nat} {a:Int} (ha:y.args[k]?=some a) {p:Int × Nat} (hp:V[a.toNat]?=some p):(Dv V y)[k]?=some p:=by
 unfold Dv
 rw [if_neg h,ag,ha,bu,hp]
 rfl
theorem Aec (h:y.kind≠0):(Dv V y).length=y.args.length:=by unfold Dv;rw [if_neg h,af]
theorem Ahp {d:Nat} (h:∀ p∈V,Sm p n d):∀ p∈Dv V y,Sm p n d:=fun p hp=>by
 unfold Dv at hp
 split at hp
 ·cases hp
 ·obtain ⟨a,_,rfl⟩:=List.mem_map.1 hp
  exact CL h _
section
variable {ps:List Prt} {bs:List Bk} {os:List Int} {st:List Iq}
def CY (V:List Iq) (y:Bk):List Iq:=if y.kind=0 then [] else y.args.map fun a=>V[a.toNat]?.getD iZ
theorem Aed {V:List Iq} (h:y.kind≠0):(CY V y).length=y.args.length:=by unfold CY;rw [if_neg h,af]
theorem CD {V:List Iq} (h:y.kind≠0) {k:Nat} {a:Int} (ha:y.args[k]?=some a) {p:Iq} (hp:V[a.toNat]?=some p):(CY V y)[k]?=some p:=by
 unfold CY
 rw [if_neg h,ag,ha,bu,hp]
 rfl
theorem DF {V:List Iq} (hV:∀ p∈V,IwS p LB LB):∀ p∈CY V y,IwS p LB LB:=fun p hp=>by
 unfold CY at hp
 split at hp
 ·cases hp
 ·obtain ⟨a,_,rfl⟩:=List.mem_map.1 hp
  exact Bp hV _
end
structure Ct where
 F:List Int
 R:List Iq
 E:List Pq
def dCt (u:Bool) (c:Ct):List D:=[Ba u c.F,.row false 6 c.R.length (AN (dIw false) c.R),.row false 3 c.E.length (AN dyP c.E)]
def rowE (E:List Pq):D:=.row false 3 E.length (AN dyP E)
abbrev eG (E:List Pq) (a:Int):Pq:=E[a.toNat]?.getD (0,0)
abbrev rG (R:List Iq) (a:Int):Iq:=R[a.toNat]?.getD iZ
abbrev sG (F:List Int) (a:Int):Int:=scA F a.toNat
def inK (k:Int):Bool:=decide (-62≤k∧k≤30)
def frB (f:Int):Bool:=decide (0≤f∧f≤30)
def rwB (n e f:Int):Bool:=decide (BJ n e f=0)
def Qo (ps:List Prt) (F:List Int) (y:Bk) (s:Int):Bool :=
 if y.kind=0 then inK (s - FE ps (Bt y))
 else if y.kind=1 then rwB y.vn y.ve s
 else if y.kind=6 then inK (s - sG F (Bt y)+y.ve)
 else if y.kind=7 then inK (s - sG F (Bt y) - sG F (FP y))
 else if y.kind=2 then inK (s - sG F (Bt y)) && rwB y.vn y.ve s
 else if y.kind=11 then inK (s - sG F (Bt y)) && rwB y.vn y.ve s && rwB y.un y.ue s
 else y.args.all fun a=>inK (s - sG F a)
def DG (ps:List Prt) (F:List Int) (y:Bk) (i:Nat):Bool :=
 frB (scA F i) && ((decide (y.kind=0) || y.args.all fun a=>frB (sG F a)) && Qo ps F y (scA F i))
def IK (ps:List Prt) (R:List Iq) (y:Bk):Iq :=
 if y.kind=2 then Uv (Ac y.vn 0 y.ve,Ac y.vn 0 y.ve) (rG R (Bt y)) else FF y (CY R y) ps
def CN (ps:List Prt) (R:List Iq) (y:Bk) (i:Nat):Bool:=iIn (IK ps R y) (R[i]?.getD iZ)
def BN (n e f:Int):Bool:=decide ((Gy (Ac n 0 e) f).2=0)
def ixP (b:Bool) (s:Int):Pq:=if b=true then pw (-s) else (0,0)
def mvP (F:List Int) (E:List Pq) (s a:Int):Pq:=if sG F a≤s then eG E a else Ee (eG E a) (pw (-s))
def AU (ps:List Prt) (F:List Int) (R:List Iq) (E:List Pq) (y:Bk) (s:Int):Pq :=
 if y.kind=0 then ixP (decide (s<FE ps (Bt y))) s
 else if y.kind=1 then ixP (!BN y.vn y.ve s) s
 else if y.kind=3∨y.kind=4 then Ee (mvP F E s (Bt y)) (mvP F E s (FP y))
 else if y.kind=5∨y.kind=10 then mvP F E s (Bt y)
 else if y.kind=8∨y.kind=9 then Ga (mvP F E s (Bt y)) (mvP F E s (FP y))
 else if y.kind=6 then Ee (Cz (IG (Ac y.vn 0 y.ve)) (eG E (Bt y))) (ixP (decide (s - sG F (Bt y)+y.ve<0)) s)
 else if y.kind=7 then Ee (Ee (Ee (Cz (Gb (rG R (Bt y))) (eG E (FP y))) (Cz (Gb (rG R (FP y))) (eG E (Bt y)))) (Cz (eG E (Bt y)) (eG E (FP y)))) (ixP (decide (s - sG F (Bt y) - sG F (FP y)<0)) s)
 else if y.kind=11 then Ga (mvP F E s (Bt y)) (ixP (!BN y.vn y.ve s || !BN y.un y.ue s) s)
 else Ga (mvP F E s (Bt y)) (ixP (!BN y.vn y.ve s) s)
def IL (x:Pq) (f:Int):Bool:=decide (ZI (Gy x f) (2147483647,0)≤0)
def Ahq (F:List Int) (R:List Iq) (E:List Pq) (y:Bk) (i:Nat):Bool :=
 IL (Ee (Gb (R[i]?.getD iZ)) (E[i]?.getD (0,0))) (scA F i) && (!decide (y.kind=11) || IL (Ee (rG R (Bt y)).2 (eG E (Bt y))) (scA F i))
def NW (ps:List Prt) (bs:List Bk) (c:Ct) (i:Nat):Int :=
 let y:=PF bs i
 if DG ps c.F y i=false then 1 else if CN ps c.R y i=false then 2
 else if ZI (c.E[i]?.getD (0,0)) (AU ps c.F c.R c.E y (scA c.F i))<0 then 3 else if Ahq c.F c.R c.E y i=false then 4 else 0
structure Ark (bs:List Bk) (c:Ct):Prop where
 lF:c.F.length=bs.length
 lR:c.R.length=bs.length
 lE:c.E.length=bs.length
 sR:∀ p∈c.R,IwS p LB LB
 sE:∀ p∈c.E,Sm p LB LB
 nE:∀ p∈c.E,0≤gv p
theorem NX {d:Nat} (h:∀ p∈E,Sm p n d) (a:Int):Sm (eG E a) n d:=CL h _
theorem WE {R:List Iq} {d:Nat} (h:∀ p∈R,IwS p n d) (a:Int):IwS (rG R a) n d:=Bp h _
theorem Aae (h0:0≤s) (h1:s≤30):Sm (pw (-s)) 31 30:=Asi (n:=30) (by omega) (by omega) (by decide)
theorem Asl (h0:0≤s) (h1:s≤30):gv (pw (-s))=2 ^ (65536 - s.toNat):=by rw [Asj (by omega) (by omega)];congr 1;omega
theorem NY {b:Bool} (h0:0≤s) (h1:s≤30):Sm (ixP b s) 31 30:=by
 unfold ixP
 split
 ·exact Aae h0 h1
 ·exact Sm.zero _ _
theorem Hd {F:List Int} (h0:0≤s) (h1:s≤30) (hE:∀ p∈E,Sm p LB LB) (a:Int):Sm (mvP F E s a) 8200 LB:=by
 unfold mvP
 split
 ·exact (NX hE a).more (by decide) (by decide)
 ·exact (Sm.sum (NX hE a) ((Aae h0 h1).more (n':=LB) (d':=LB) (by decide) (by decide)) (by decide)).more (by decide) (by decide)
theorem PW {p:Pq} {d:Nat} (h:Sm p n d) {f:Int} (f0:0≤f) (f1:f≤30):Sm (Gy p f) (n+30) d:=by
 show Sm (Ac p.1 p.2 f) (n+30) d
 unfold Ac
 rw [show max (-65536) (min f 65536)=f by omega,if_neg (by omega)]
 refine Sm.mk_nf h.d h.ok.le ?_
 rw [ff,fx,show Int.natAbs 2=2 from rfl,bd]
 have h1:2 ^ f.toNat≤2 ^ 30:=ax (by decide) (by omega)
 have h2:(0:Nat)<2 ^ f.toNat:=bj _
 exact al (jm h.n h2) (gk _ h1)
theorem Rs {d:Nat} (h:IwS a n d):Sm (Gb a) n d:=h.abs.s2
theorem YD {F:List Int} {R:List Iq} (h0:0≤s) (h1:s≤30) (hR:∀ p∈R,IwS p LB LB) (hE:∀ p∈E,Sm p LB LB) (hv:y.kind=6→Df y.vn y.ve):Sm (AU ps F R E y s) 40064 9000:=by
 have ix:∀ b,Sm (ixP b s) 16000 8192:=fun b=>(NY h0 h1).more (by decide) (by decide)
 have mv:∀ a,Sm (mvP F E s a) 8200 LB:=Hd h0 h1 hE
 unfold AU
 split
 ·exact (ix _).more (by decide) (by decide)
 split
 ·exact (ix _).more (by decide) (by decide)
 split
 ·exact (Sm.sum (mv _) (mv _) (by decide)).more (by decide) (by decide)
 split
 ·exact (mv _).more (by decide) (by decide)
 split
 ·exact (Sm.max (mv _) (mv _)).more (by decide) (by decide)
 split
 ·next h=>exact (Sm.sum ((Sm.mul (Fc (hv h)).abs (NX hE _) (by decide)).more (n':=16000) (d':=8192) (by decide) (by decide)) (ix _) (by decide)).more (by decide) (by decide)
 split
 ·have m1:∀ a b,Sm (Cz (Gb (rG R a)) (eG E b)) 8192 8192:=fun a b=>Sm.mul (Rs (WE hR a)) (NX hE b) (by decide)
  have m2:∀ a b,Sm (Cz (eG E a) (eG E b)) 8192 8192:=fun a b=>Sm.mul (NX hE a) (NX hE b) (by decide)
  have s1:=Sm.sum (m1 (Bt y) (FP y)) (m1 (FP y) (Bt y)) (by decide)
  have s2:=Sm.sum s1 ((m2 (Bt y) (FP y)).more (n':=16385) (d':=8192) (by decide) (by decide)) (by decide)
  exact (Sm.sum s2 ((NY h0 h1).more (n':=24578) (d':=8192) (by decide) (by decide)) (by decide)).more (by decide) (by decide)
 split
 ·exact (Sm.max (mv _) ((NY h0 h1).more (by decide) (by decide))).more (by decide) (by decide)
 ·exact (Sm.max (mv _) ((NY h0 h1).more (by decide) (by decide))).more (by decide) (by decide)
def gIn (a b:Iq):Prop:=gv b.1≤gv a.1∧gv a.2≤gv b.2
theorem Ia {c x y:Int} (h:x≤y):(0≤c→c*x≤c*y)∧(c≤0→c*y≤c*x):=⟨fun hc=>mj h hc,fun hc=>Int.mul_le_mul_of_nonpos_left hc h⟩
theorem UP {A1 A2 B1 B2 x y:Int} (h1:A1≤x) (h2:x≤A2) (h3:B1≤y) (h4:y≤B2):min (min (min (A1*B1) (A1*B2)) (A2*B1)) (A2*B2)≤x*y∧x*y≤max (max (max (A1*B1) (A1*B2)) (A2*B1)) (A2*B2):=by
 have a1:=Ia (c:=A1) h3
 have a2:=Ia (c:=A1) h4
 have b1:=Ia (c:=A2) h3
 have b2:=Ia (c:=A2) h4
 have k1:min (A1*B1) (A1*B2)≤A1*y∧A1*y≤max (A1*B1) (A1*B2):=by
  by_cases h:0≤A1
  ·have:=a1.1 h;have:=a2.1 h;omega
  ·have:=a1.2 (by omega);have:=a2.2 (by omega);omega
 have k2:min (A2*B1) (A2*B2)≤A2*y∧A2*y≤max (A2*B1) (A2*B2):=by
  by_cases h:0≤A2
  ·have:=b1.1 h;have:=b2.1 h;omega
  ·have:=b1.2 (by omega);have:=b2.2 (by omega);omega
 have c1:=Ia (c:=y) h1
 have c2:=Ia (c:=y) h2
 rw [bz y A1,bz y x] at c1
 rw [bz y A2,bz y x] at c2
 by_cases h:0≤y
 ·have:=c1.1 h;have:=c2.1 h;omega
 ·have:=c1.2 (by omega);have:=c2.2 (by omega);omega
section
variable {a b c e:Iq} {n d:Nat}
theorem AiH (h:IwS a n d) (k:IwS b n d) (hd:d≤30000):gv (Wl a b).1*2 ^ GQ=min (min (min (gv a.1*gv b.1) (gv a.1*gv b.2)) (gv a.2*gv b.1)) (gv a.2*gv b.2)∧gv (Wl a b).2*2 ^ GQ=max (max (max (gv a.1*gv b.1) (gv a.1*gv b.2)) (gv a.2*gv b.1)) (gv a.2*gv b.2):=by
 obtain ⟨e1,e2,_⟩:=EL (Sm.mul h.s1 k.s1 hd) (Sm.mul h.s1 k.s2 hd) (Sm.mul h.s2 k.s1 hd) (Sm.mul h.s2 k.s2 hd)
 have m:∀ {p q:Pq},Sm p n d→Sm q n d→gv (Cz p q)*2 ^ GQ=gv p*gv q:=fun {p q} hp hq=>IB (by have:=hp.d;have:=hq.d;show p.2+q.2≤65536;omega)
 have m1:=m h.s1 k.s1
 have m2:=m h.s1 k.s2
 have m3:=m h.s2 k.s1
 have m4:=m h.s2 k.s2
 have pos:=Cf GQ
 have mn:∀ x y:Int,min x y*2 ^ GQ=min (x*2 ^ GQ) (y*2 ^ GQ):=fun x y=>by
  rcases Int.le_total x y with hxy|hxy
  ·have:=dc hxy (bl pos);rw [Int.min_eq_left hxy,Int.min_eq_left this]
  ·have:=dc hxy (bl pos);rw [Int.min_eq_right hxy,Int.min_eq_right this]
 have mx:∀ x y:Int,max x y*2 ^ GQ=max (x*2 ^ GQ) (y*2 ^ GQ):=fun x y=>by
  rcases Int.le_total x y with hxy|hxy
  ·have:=dc hxy (bl pos);rw [Int.max_eq_right hxy,Int.max_eq_right this]
  ·have:=dc hxy (bl pos);rw [Int.max_eq_left hxy,Int.max_eq_left this]
 constructor
 ·rw [show gv (Wl a b).1=_ from e1,mn,mn,mn,m1,m2,m3,m4]
 ·rw [show gv (Wl a b).2=_ from e2,mx,mx,mx,m1,m2,m3,m4]
theorem Gd {x y:Int} (h:x*2 ^ GQ≤y*2 ^ GQ):x≤y:=gi h (Cf GQ)
theorem AiI (h:IwS a n d) (k:IwS b n d) (h':IwS c n d) (k':IwS e n d) (hd:d≤30000) (i:gIn a c) (j:gIn b e):gIn (Wl a b) (Wl c e):=by
 obtain ⟨e1,e2⟩:=AiH h k hd
 obtain ⟨f1,f2⟩:=AiH h' k' hd
 have ha:=h.le
 have hb:=k.le
 obtain ⟨i1,i2⟩:=i
 obtain ⟨j1,j2⟩:=j
 have c1:=UP (A1:=gv c.1) (A2:=gv c.2) (B1:=gv e.1) (B2:=gv e.2) (x:=gv a.1) (y:=gv b.1) i1 (by omega) j1 (by omega)
 have c2:=UP (A1:=gv c.1) (A2:=gv c.2) (B1:=gv e.1) (B2:=gv e.2) (x:=gv a.1) (y:=gv b.2) i1 (by omega) (by omega) j2
 have c3:=UP (A1:=gv c.1) (A2:=gv c.2) (B1:=gv e.1) (B2:=gv e.2) (x:=gv a.2) (y:=gv b.1) (by omega) i2 j1 (by omega)
 have c4:=UP (A1:=gv c.1) (A2:=gv c.2) (B1:=gv e.1) (B2:=gv e.2) (x:=gv a.2) (y:=gv b.2) (by omega) i2 (by omega) j2
 constructor
 ·refine Gd ?_
  rw [e1,f1]
  generalize min (min (min (gv c.1*gv e.1) (gv c.1*gv e.2)) (gv c.2*gv e.1)) (gv c.2*gv e.2)=z at *
  have:=c1.1;have:=c2.1;have:=c3.1;have:=c4.1
  omega
 ·refine Gd ?_
  rw [e2,f2]
  generalize max (max (max (gv c.1*gv e.1) (gv c.1*gv e.2)) (gv c.2*gv e.1)) (gv c.2*gv e.2)=z at *
  have:=c1.2;have:=c2.2;have:=c3.2;have:=c4.2
  omega
theorem AiJ (h:IwS a n d) (k:IwS b n d) (h':IwS c n d) (k':IwS e n d) (i:gIn a c) (j:gIn b e):gIn (AgJ a b) (AgJ c e):=by
 obtain ⟨i1,i2⟩:=i
 obtain ⟨j1,j2⟩:=j
 constructor
 ·show gv (Ee c.1 e.1)≤gv (Ee a.1 b.1)
  rw [DN h'.s1.le k'.s1.le,DN h.s1.le k.s1.le];omega
 ·show gv (Ee a.2 b.2)≤gv (Ee c.2 e.2)
  rw [DN h'.s2.le k'.s2.le,DN h.s2.le k.s2.le];omega
theorem AiK (i:gIn a c):gIn (Aft a) (Aft c):=by
 obtain ⟨i1,i2⟩:=i
 constructor
 ·show gv (Vk c.2)≤gv (Vk a.2)
  rw [Mf,Mf];omega
 ·show gv (Vk a.1)≤gv (Vk c.1)
  rw [Mf,Mf];omega
theorem AiL (h:IwS a n d) (k:IwS b n d) (h':IwS c n d) (k':IwS e n d) (i:gIn a c) (j:gIn b e):gIn (AgK a b) (AgK c e):=by
 obtain ⟨i1,i2⟩:=i
 obtain ⟨j1,j2⟩:=j
 constructor
 ·show gv (NH c.1 e.1)≤gv (NH a.1 b.1)
  rw [FD h'.s1.le k'.s1.le,FD h.s1.le k.s1.le];omega
 ·show gv (NH a.2 b.2)≤gv (NH c.2 e.2)
  rw [FD h'.s2.le k'.s2.le,FD h.s2.le k.s2.le];omega
theorem AiM (h:IwS a n d) (k:IwS b n d) (h':IwS c n d) (k':IwS e n d) (i:gIn a c) (j:gIn b e):gIn (Afu a b) (Afu c e):=by
 obtain ⟨i1,i2⟩:=i
 obtain ⟨j1,j2⟩:=j
 constructor
 ·show gv (Ga c.1 e.1)≤gv (Ga a.1 b.1)
  rw [DP h'.s1.le k'.s1.le,DP h.s1.le k.s1.le];omega
 ·show gv (Ga a.2 b.2)≤gv (Ga c.2 e.2)
  rw [DP h'.s2.le k'.s2.le,DP h.s2.le k.s2.le];omega
theorem Aqc (h:IwS a n d) (h':IwS c n d) (i:gIn a c):gIn (Rj a) (Rj c):=by
 obtain ⟨e1,e2⟩:=Nj h
 obtain ⟨f1,f2⟩:=Nj h'
 obtain ⟨i1,i2⟩:=i
 have ha:=h.le
 constructor
 ·rw [e1,f1]
  split <;> split <;> omega
 ·rw [e2,f2];omega
theorem gIn.refl (a:Iq):gIn a a:=⟨fi _,fi _⟩
theorem Aqd (h:IwS a n d) (k:IwS b n d):iIn a b=true ↔ gIn a b:=by rw [Apg h k,decide_eq_true_eq];rfl
end
theorem Aqe {l':List Iq} (hl:∀ p∈l,IwS p LB LB) (hl':∀ p∈l',IwS p LB LB) (hi:∀ k:Nat,gIn (l[k]?.getD iZ) (l'[k]?.getD iZ)) (hv:(y.kind=1∨y.kind=6∨y.kind=11)→Df y.vn y.ve) (hu:y.kind=11→Df y.un y.ue) (hk:y.kind=1∨y.kind=3∨y.kind=4∨y.kind=5∨y.kind=6∨y.kind=7∨y.kind=8∨y.kind=9∨y.kind=10∨y.kind=11):gIn (Gc y l) (Gc y l'):=by
 have a:=Bp hl 0
 have b:=Bp hl 1
 have a':=Bp hl' 0
 have b':=Bp hl' 1
 have i:=hi 0
 have j:=hi 1
 unfold Gc
 generalize l[0]?.getD iZ=p at a i ⊢
 generalize l[1]?.getD iZ=q at b j ⊢
 generalize l'[0]?.getD iZ=p' at a' i ⊢
 generalize l'[1]?.getD iZ=q' at b' j ⊢
 rcases hk with h|h|h|h|h|h|h|h|h|h <;> simp only [h,Int.reduceEq,if_true,if_false,reduceIte]
 ·exact gIn.refl _
 ·exact AiJ a b a' b' i j
 ·exact AiJ a b.neg a' b'.neg i (AiK j)
 ·exact AiK i
 ·have s:=IwS.pt (Fc (hv (.inr (.inl h))))
  exact AiI a s a' s (by decide:LB≤30000) i (gIn.refl _)
 ·exact AiI a b a' b' (by decide:LB≤30000) i j
 ·exact AiL a b a' b' i j
 ·exact AiM a b a' b' i j
 ·exact Aqc a a' i
 ·have s:=IwS.pt (Fc (hv (.inr (.inr h))))
  have s2:=IwS.pt (Fc (hu h))
  exact AiL (a.max s) s2 (a'.max s) s2 (AiM a s a' s i (gIn.refl _)) (gIn.refl _)
theorem YE {x:Pq} {d:Nat} (hx:Sm x n d) (hd:d≤40000) {f:Int} (f0:0≤f) (f1:f≤30):IL x f=decide (gv x*2 ^ f.toNat≤2147483647*2 ^ GQ):=by
 have hle:x.2≤GQ:=hx.le
 have e:gv (Gy x f)=gv x*2 ^ f.toNat:=by
  have:=Mg (p:=x) (n:=f.toNat) hle (by omega)
  rwa [show ((f.toNat:Nat):Int)=f by omega] at this
 have hs:(Gy x f).2≤GQ:=(PW hx f0 f1).le
 unfold IL
 rw [Bool.eq_iff_iff,decide_eq_true_eq,decide_eq_true_eq]
 rw [show ZI (Gy x f) (2147483647,0)≤0 ↔ _ from NF hs (by decide),e,Mi]
structure He (ps:List Prt) (bs:List Bk) (os:List Int) (c:Ct):Prop where
 he:Bl ps bs os=0
 ok:Ark bs c
 ver:∀ i,i<bs.length→NW ps bs c i=0
theorem He.parts {c:Ct} (h:He ps bs os c) {i:Nat} {y:Bk} (hy:bs[i]?=some y) :
  DG ps c.F y i=true∧CN ps c.R y i=true∧gv (AU ps c.F c.R c.E y (scA c.F i))≤gv (c.E[i]?.getD (0,0))∧Ahq c.F c.R c.E y i=true∧0≤scA c.F i∧scA c.F i≤30:=by
 have h1:=h.ver i (gS.1 hy).1
 unfold NW at h1
 rw [Di hy] at h1
 dsimp only at h1
 by_cases q1:DG ps c.F y i=false
 ·rw [if_pos q1] at h1;cases h1
 rw [if_neg q1] at h1
 by_cases q2:CN ps c.R y i=false
 ·rw [if_pos q2] at h1;cases h1
 rw [if_neg q2] at h1
 by_cases q3:ZI (c.E[i]?.getD (0,0)) (AU ps c.F c.R c.E y (scA c.F i))<0
 ·rw [if_pos q3] at h1;cases h1
 rw [if_neg q3] at h1
 by_cases q4:Ahq c.F c.R c.E y i=false
 ·rw [if_pos q4] at h1;cases h1
 rw [mc] at q1 q2 q4
 have hs:frB (scA c.F i)=true:=by
  have:=q1
  unfold DG at this
  exact (Bool.and_eq_true_iff.1 this).1
 have hs2:0≤scA c.F i∧scA c.F i≤30:=of_decide_eq_true hs
 have sb:=YD (ps:=ps) (F:=c.F) (y:=y) hs2.1 hs2.2 h.ok.sR h.ok.sE (fun h6=>Mn h.he hy (by rw [h6];rfl))
 exact ⟨q1,q2,(AcO (CL h.ok.sE i).le sb.le).1 (Int.not_lt.1 q3),q4,hs2.1,hs2.2⟩
def Io (ps:List Prt) (bs:List Bk) (os:List Int) (F:List Int):Int:=if Bl ps bs os=0 then GX ps bs F else Bl ps bs os
def Th {α:Type} (e:Int) (l:List α):List α:=if e=0 then l else []
theorem NZ {α:Type} (h:e≠0) (l:List α):Th e l=[]:=if_neg h
theorem UQ {α:Type} (h:e=0) (l:List α):Th e l=l:=if_pos h
theorem Asm {t:Tmp} {k:Nat} {cs:List C} {ds:List D} {y:A} (hk:TyK P ty true k) (hy:y=.agg ds) (hF:F t=.one (.ref id 0 none):=by with_unfolding_all exact rfl) (hH:H[id]?=some (.box ty' cs):=by with_unfolding_all exact rfl) (hi:cs.length=k:=by with_unfolding_all exact rfl) (h:AV (Gj false H) cs ds:=by repeat' first|exact CF rfl rfl|refine BG rfl rfl ?_ ?_|refine GO rfl rfl ?_|refine EV rfl rfl ?_|exact CA rfl (fun _=>by first|exact Dg.val _|exact XO _|exact Dg.row (Dp Sj _)|exact Dg.row (Dp XP _))|exact Fx rfl rfl|exact cexp_e rfl rfl):RV P F H (.cell t ty) y:=Ug hF hH hk hi hy h
theorem Aee {p:Prop} (k:p') (h:Hd9 p'→p:=by with_reducible first|(intro Z9;refine Tx 0 ?_;refine gN xBo <| gN (xAl MZ) <| gO xA ?_;exact Z9.o)|(intro Z9;refine Tx 1 ?_;refine gO xL <| gO (xCl func60 (HO.cv)) <| gO xMt <| gO xEx <| gO xEx <| gO xA <| gO xA ?_;exact Z9.o)|(intro Z9;refine Tx 2 ?_;refine gO xM <| gO (xNE Ap) ?_;exact Z9.o)|(intro Z9;refine Tx 3 ?_;refine gO (by exact AC rfl Da rfl rfl) <| gO xM <| gZ (xSk Br) <| gO xA ?_;exact Z9.o)|(intro Z9;refine Tx 4 ?_;refine gO xM <| gO xN <| gO xF <| gO xD <| gO xN <| gO xNe ?_;exact Z9.o)|(intro Z9;refine Tx 5 ?_;refine gO (by exact AC rfl Da rfl rfl) <| gO (xMi underlying109) <| gZ (xSk Br) <| gO xA ?_;exact Z9.o)|(intro Z9;refine Tx 6 ?_;refine gO xM <| gO xN <| gO xM ?_;exact Z9.o)|fail):p:=h ⟨k⟩
theorem Aef {p:Prop} (k:p') (h:Hd9 p'→p:=by with_reducible first|(intro Z9;refine Tx 8 ?_;refine gO (xIr Af (AF hz)) <| gO xD <| gO xA ?_;exact Z9.o)|(intro Z9;refine Tx 9 ?_;refine gO xM <| gO xLt <| gO xM ?_;(first|iterate 2 refine Jd ?_|(refine Jy xM1 ?_;refine Jy xGt ?_));refine gO xPk ?_;exact Z9.o)|(intro Z9;refine Tx 10 ?_;refine gO (by exact AC rfl Da rfl rfl) <| gO (xMi underlying109) <| gZ (xSk Br) <| gO xA ?_;exact Z9.o)|(intro Z9;refine Tx 11 ?_;refine gO xAd <| gO xM ?_;exact Z9.o)|fail):p:=h ⟨k⟩
theorem NJ {p:Prop} (k:p') (h:Hd9 p'→p:=by with_reducible first|(intro Z9;refine Tx 19 ?_;refine gO xF <| gO xD <| gO xEq <| gO xA ?_;exact Z9.o)|(intro Z9;refine Tx 20 ?_;refine gO xM <| gO xM ?_;(first|iterate 3 refine Jd ?_|(refine Jy (xFa Dj Ak) ?_;refine Jy (xLd Ak) ?_;refine Jy xEq ?_));refine gO xPk <| gO xM ?_;(first|iterate 3 refine Jd ?_|(refine Jy (xFa Dj Ak) ?_;refine Jy (xLd Ak) ?_;refine Jy xEq ?_));refine gO xPk ?_;exact Z9.o)|fail):p:=h ⟨k⟩
theorem Aqf {p:Prop} (h:p:=by first|exact Pm rfl rfl rfl rfl Ak tlV stV|exact Pm rfl rfl rfl rfl Ak tlU stU|exact xS1 Ak|exact xSk Ak):p:=h
theorem Aqg {p:Prop} (h:p:=by first|exact xCl func117 (RV.cv)|exact xCl func117 (RU.cv)):p:=h
theorem QA {p:Prop} (h:p:=by first|exact xIr Af (AF hz)|exact xIo Af):p:=h
theorem Aeg {p:Prop} (k:p') (h:Hd9 p'→p:=by with_reducible first|(intro Z9;refine Hu (id:=21) 13 [(13,11)] AX (by kernel_rfl) ?_;dsimp only [List.take,List.drop];refine gP xM <| gP xM <| gP xF <| gP xL <| gP xM <| gP xM <| gP QA <| gP xD <| gP Aqg <| gP xMt <| gP xEx <| gP xEx <| gP QA ?_;refine Ke ?_;refine gZ Aqf <| gO xA ?_;exact Z9.o)|fail):p:=h ⟨k⟩
theorem AiN {p:Prop} (k:p') (h:Hd9 p'→p:=by with_reducible first|(intro Z9;refine Hu (id:=25) 13 [(13,11)] AX (by kernel_rfl) ?_;dsimp only [List.take,List.drop];refine gP xM <| gP xM <| gP xF <| gP xL <| gP xM <| gP xM <| gP QA <| gP xD <| gP Aqg <| gP xMt <| gP xEx <| gP xEx <| gP QA ?_;refine Ke ?_;refine gZ Aqf <| gO xA ?_;exact Z9.o)|(intro Z9;refine Tx 26 ?_;refine gO xM <| gO (xNE Ap) ?_;exact Z9.o)|fail):p:=h ⟨k⟩
theorem YF {p:Prop} (k:p') (h:Hd9 p'→p:=by with_reducible first|(intro Z9;refine Tx 29 ?_;refine gO xF <| gO xD <| gO xEq ?_;exact Z9.o)|(intro Z9;refine Tx 32 ?_;refine gO xAd <| gO xM ?_;exact Z9.o)|fail):p:=h ⟨k⟩
theorem AiO {p:Prop} (k:p') (h:Hd9 p'→p:=by with_reducible first|(intro Z9;refine Hu (id:=21) 13 [(13,11)] AX (by kernel_rfl) ?_;dsimp only [List.take,List.drop];refine gP xM <| gP xM <| gP xF <| gP xL <| gP xM <| gP xM <| gP QA <| gP xD <| gP (xCl func117 (RV.cv)) <| gP xMt <| gP xEx <| gP xEx <| gP QA ?_;refine Ke ?_;refine gZ (by first|exact Pm rfl rfl rfl rfl Ak tlV stV|exact xS1 Ak|exact xSk Ak) <| gO xA ?_;exact Z9.o)|fail):p:=h ⟨k⟩
theorem Aqh {p:Prop} (h:p:=by first|exact Pm rfl rfl rfl rfl Ak tlV stV|exact Pm rfl rfl rfl rfl Ak tlI stI|exact xS1 Ak|exact xSk Ak):p:=h
theorem Ama {p:Prop} (h:p:=by first|exact xLi gV Ak|exact xLd Ak):p:=h
theorem AiP {p:Prop} (k:p') (h:Hd9 p'→p:=by with_reducible first|(intro Z9;refine Hu (id:=21) 13 [(13,11)] AX (by kernel_rfl) ?_;dsimp only [List.take,List.drop];refine gP xM <| gP xM <| gP xF <| gP xL <| gP xM <| gP xM <| gP QA <| gP Ama <| gP (xCl func117 (RV.cv)) <| gP xMt <| gP xEx <| gP xEx <| gP QA ?_;refine Ke ?_;refine gZ Aqh <| gO xA ?_;exact Z9.o)|fail):p:=h ⟨k⟩
theorem PZ {p:Prop} (k:p') (h:Hd9 p'→p:=by with_reducible first|(intro Z9;refine Tx 54 ?_;refine gO xEq <| gO xA ?_;exact Z9.o)|(intro Z9;refine Tx 64 ?_;refine gO xAd <| gO xM ?_;exact Z9.o)|fail):p:=h ⟨k⟩
theorem Ip {p:Prop} (h:p:=by first|exact xIr Af (AF (Rr hj))|exact xIr Af (AF hz)|exact xIr Af (AF hz0)|exact xIr Af (AF hz1)|exact xIo Af):p:=h
theorem Qa {p:Prop} (h:p:=by first|exact xIr Af (AF hA0)|exact xIo Af):p:=h
theorem UR {p:Prop} (h:p:=by first|exact xS1 FU|exact xSk FU):p:=h
theorem AiQ {p:Prop} (k:p') (h:Hd9 p'→p:=by with_reducible first|(intro Z9;refine AJ (id:=50) 22 AX (by kernel_rfl) ?_;dsimp only [List.take,List.drop];refine gP xF <| gP xD <| gP (xCl func118 (OP.cv)) <| gP xM <| gP xF <| gP xD <| gP Qa <| gP xD <| gP xM <| gP xM <| gP Ip <| gP xD <| gP xM <| gP xF <| gP xD <| gP Qa <| gP xD <| gP Ip <| gP xD <| gP xSb <| gP (by exact AC rfl Ez rfl rfl) <| gQ (xAl Ce) ?_;refine Ke ?_;refine gZ (xSk Fu) ?_;exact Z9.o)|(intro Z9;refine Tx 51 ?_;refine gO xF <| gO xD <| gO xN <| gO xEq ?_;exact Z9.o)|(intro Z9;refine Tx 53 ?_;refine gO xF <| gO xD <| gO xL <| gN (by exact Bj rfl Bn Ce rfl rfl (by decide) (by decide)) <| gT (by exact Gx rfl rfl rfl rfl rfl rfl Bn Ce (by omega) (by decide) (by decide) rfl hap hap2) <| gO xF <| gZ UR ?_;exact Z9.o)|fail):p:=h ⟨k⟩
theorem US {p:Prop} (k:p') (h:Hd9 p'→p:=by with_reducible first|(intro Z9;refine Tx 79 ?_;refine gO xF <| gO xD <| gO xLt <| gO xM ?_;(first|iterate 3 refine Jd ?_|(refine Jy (xFa TN Ak) ?_;refine Jy (xLd Ak) ?_;refine Jy xGt ?_));refine gO xPk <| gO xM ?_;(first|iterate 3 refine Jd ?_|(refine Jy (xFa Pj Ak) ?_;refine Jy (xLd Ak) ?_;refine Jy xLt ?_));refine gO xPk <| gO xM ?_;(first|iterate 3 refine Jd ?_|(refine Jy (xFa Pj Ak) ?_;refine Jy (xLd Ak) ?_;refine Jy xGt ?_));refine gO xPk ?_;exact Z9.o)|(intro Z9;refine Tx 80 ?_;refine gO (by exact AC rfl Da rfl rfl) <| gO (xMi underlying109) <| gZ (xSk Br) <| gO xA ?_;exact Z9.o)|(intro Z9;refine Tx 81 ?_;refine gO xAd <| gO xM ?_;exact Z9.o)|fail):p:=h ⟨k⟩
theorem My {p:Prop} (h:p:=by
 refine ⟨_,_,BE 10,_,?_,t+1,by omega,rfl,rfl,rfl⟩
 ·omega):p:=h
theorem Qb {p:Prop} (h:p:=by
 exact Ax rfl (.cons_ (Asm Br (by rw [NZ (by rw [hV1];decide),NZ (by rw [hV1];decide),NZ (by rw [hV1];decide),NZ (by rw [hV1];decide)];rfl)) (.cons_ (Agc rfl (by decide) hV1) .nil_))):p:=h
theorem YG {p:Prop} (h:p:=by
 exact Ax rfl (.cons_ (Asm Br (by rw [NZ hVn,NZ hVn,NZ hVn,NZ hVn];rfl)) (.cons_ (Acf rfl hV1.symm) .nil_))):p:=h
theorem AiR {p:Prop} (h:p:=by
 refine ⟨_,_,BE 9,_,?_,t+1,by omega,rfl,rfl,rfl⟩
 ·omega):p:=h
theorem Ahr {p:Prop} (h:p:=by first|exact AfQ rfl rfl rfl Af Bz (by omega) (by decide)|exact BP rfl rfl rfl Af Bz (by omega) (by decide)):p:=h
theorem Aaf {p:Prop} (h:p:=by first|exact xIr Af (AF hz)|exact xIr Af (AF hz0)|exact xIo Af):p:=h
theorem Amb {p:Prop} (h:p:=by first|exact xLi hjn Ak|exact xLi gV Ak|exact xLi gU Ak|exact xLd Ak):p:=h
theorem Aqi {p:Prop} (h:p:=by first|exact Pm rfl rfl rfl rfl Ak tlC stC|exact xS1 Ak|exact xSk Ak):p:=h
theorem WF {p:Prop} (h:p:=by first|exact xLi hjm Ak|exact xLi gC Ak|exact xLd Ak):p:=h
theorem Aqj {p:Prop} (h:p:=by first|exact xIr Af (AF (Rr hj))|exact xIo Af):p:=h
theorem Amc {p:Prop} (h:p:=by first|exact xIr Aj (DK hy)|exact xIo Aj):p:=h
theorem Aag {p:Prop} (h:p:=by first|exact xIr Af (AF hA1)|exact xIo Af):p:=h
theorem Amd {p:Prop} (h:p:=by first|exact xS1 Bd|exact xSk Bd):p:=h
theorem Aah {p:Prop} (h:p:=by first|exact xLi gC Ak|exact xLd Ak):p:=h
theorem Aai (ps:List Prt) (bs:List Bk) (os:List Int) (F:List Int) (hl:FK ps bs os) (hF:F.length≤1000000):CV prog An 46 [aDg true ps bs os,.one (Ba true F)] [WA false (Th (Io ps bs os F) ps) (Th (Io ps bs os F) (Cv bs F)) (Th (Io ps bs os F) (Cg ps bs F)) (Th (Io ps bs os F) os),aE (Io ps bs os F)]:=by
 refine cvz func46 ntmps46 ?_
 have HO:=Yc true hl
 have hl2:=hl.l2
 have hl1:=hl.l1
 by_cases he:Bl ps bs os=0
 case neg =>
  have hV:Io ps bs os F=Bl ps bs os:=if_neg he
  have hVn:Io ps bs os F≠0:=by rw [hV];exact he
  rw [if_neg he] at HO
  repeat' (with_reducible first|refine qq ?_|refine Aee ?_)
  exact Ax rfl (.cons_ (Asm Br (by rw [NZ hVn,NZ hVn,NZ hVn,NZ hVn];rfl)) (.cons_ (Acf rfl hV.symm) .nil_))
 have hV:Io ps bs os F=GX ps bs F:=if_pos he
 rw [he,if_pos rfl] at HO
 by_cases hle:F.length=bs.length
 case neg =>
  have hV1:=hV.trans (cp_1 hle)
  repeat' (with_reducible first|refine qq ?_|refine Aee ?_)
  exact Qb
 repeat' (with_reducible first|refine qq ?_|refine Aee ?_)
 refine Bi (Qu [(1,vd (Ba true F)),(2,vr 0),(4,vr 1),(5,vd (.val .nilIface)),(6,vd (Ba false (BK (BH bs)))),(52,vd (Ba true F)),(53,vi F.length),(54,vi (((0:Nat):Int)))] 2 rfl (mB rfl rfl) ⟨Dl rfl,Dl rfl,trivial⟩) ?_
 refine Aq (fun n Fr H=>∃ k:Nat,k≤F.length∧n=F.length - k∧(F.take k).all GW=true∧Fr=ofL [(1,vd (Ba true F)),(2,vr 0),(4,vr 1),(5,vd (.val .nilIface)),(6,vd (Ba false (BK (BH bs)))),(52,vd (Ba true F)),(53,vi F.length),(54,vi ((k:Int)))]∧H=[.box 26 [.d (Dh true ps),.d (DC true bs),.d (Ba true os)],.box 94 [.d (.val (.slice none 0 0)),.d (.val (.slice none 0 0)),.d (.val (.slice none 0 0)),.d (.val (.slice none 0 0))]]) (n0:=F.length) ⟨0,ad _,rfl,rfl,rfl,rfl⟩ ?_
 rintro n Fr H ⟨k,hk,rfl,hall,rfl,rfl⟩
 by_cases hlt:k<F.length
 case pos =>
  obtain ⟨z,hz⟩:∃ z,F[k]?=some z:=⟨_,gE hlt⟩
  by_cases hs:0≤z∧z≤30
  case pos =>
   obtain ⟨hs1,hs2⟩:=hs
   repeat' (with_reducible first|refine qq ?_|(refine Tx 7 ?_;refine gO xLt ?_)|refine Aef ?_)
   refine ⟨_,_,BE 2,_,?_,k+1,by omega,rfl,Gr hz hall (decide_eq_true ⟨hs1,hs2⟩),rfl,rfl⟩
   ·omega
  case neg =>
   have hV1:=hV.trans (cp_2 hle (fun ha=>hs (by have:=List.all_eq_true.1 ha z (gM hz);exact of_decide_eq_true this)))
   by_cases h0:z<0
   ·
    repeat' (with_reducible first|refine qq ?_|(refine Tx 7 ?_;refine gO xLt ?_)|refine Aef ?_)
    exact Qb
   ·
    repeat' (with_reducible first|refine qq ?_|(refine Tx 7 ?_;refine gO xLt ?_)|refine Aef ?_)
    exact Qb
 have hall:F.all GW=true:=by rwa [aq (by omega)] at hall
 repeat' (with_reducible first|refine qq ?_|(refine Tx 7 ?_;refine gO xLt ?_))
 repeat' (with_reducible first|refine qq ?_|(refine Tx 12 ?_;refine gO xF <| gO xD <| gO xN <| gO xA ?_)|(refine AJ (id:=13) 8 AX (by kernel_rfl) ?_;dsimp only [List.take,List.drop];refine gP (by exact Pb rfl Bv) <| gP xF <| gP xD <| gP (by exact MW rfl rfl (.inl rfl) rfl (Dp Sj _) Bv MY (hl.l1) (by decide) (by decide)) <| gP xM <| gQ Ahr <| gP (by exact AC rfl Da rfl rfl) <| gQ (xAl MZ) ?_;refine Ke ?_;refine gZ (xSk Br) ?_)|(refine BX (id:=14) AX (by kernel_rfl) ?_;refine gP xM <| gQ Ahr <| gP xM <| gQ Ahr <| gP xM <| gQ Ahr <| gP xA <| gP xA <| gP xA ?_;refine Ke ?_)|(refine Tx 15 ?_;refine gO xA <| gO xA ?_)|(refine Tx 16 ?_;refine gO xF <| gO xD <| gO xN <| gO xM ?_))
 have hz0:∀ f:Nat→Int,List.replicate bs.length 0=tab bs.length (En f 0):=fun f=>(AdS _ _).symm
 refine Bi (LM 15 3 1 rfl) (Bi (LM 16 3 1 rfl) ?_)
 refine Bi (BE 9 (hH:=by rw [←hz0,←hz0,←hz0,←hz0];rfl)) (Aq (fun n Fr H=>∃ k:Nat,k≤bs.length∧n=bs.length - k∧(∀ j,j<k→IC bs F j=0)∧Fr=ofL [(1,vd (Ba true F)),(2,vr 0),(4,vr 1),(5,vd (.val .nilIface)),(6,vd (Ba false (BK (BH bs)))),(10,vi bs.length),(11,vr 3),(12,vo 4 bs.length),(13,vo 5 bs.length),(14,vo 6 bs.length),(15,vo 7 ((dlK bs k).length)),(16,vo 8 ((cpK bs k).length)),(84,vd (DC true bs)),(85,vi bs.length),(86,vi ((k:Nat)))]∧H=[.box 26 [.d (Dh true ps),.d (DC true bs),.d (Ba true os)],.box 94 [.d (.val (.slice none 0 0)),.d (.val (.slice none 0 0)),.d (.val (.slice none 0 0)),.d (.val (.slice none 0 0))],.row 3 1 (bs.length) (cI (tab bs.length (En (EE bs F) k))),.box 94 [.d (Dh false ps),.own 2 bs.length,.d (.val (.slice none 0 0)),.d (.val (.slice none 0 0))],.row 3 1 (bs.length) (cI (tab bs.length (En (Ed bs F) k))),.row 3 1 (bs.length) (cI (tab bs.length (En (GF bs F) k))),.row 3 1 (bs.length) (cI (tab bs.length (En (AM bs) 0))),.row 3 1 ((dlK bs k).length) (cI (BK (dlK bs k))),.row 3 1 ((cpK bs k).length) (cI (BK (cpK bs k)))]) (n0:=bs.length) ⟨0,ad _,rfl,fun j hj=>absurd hj (fk _),rfl,rfl⟩ ?_)
 rintro n Fr H ⟨k,hk,rfl,hcon,rfl,rfl⟩
 clear hz0
 by_cases hlt:k<bs.length
 case pos =>
  obtain ⟨y,hy⟩:∃ y,bs[k]?=some y:=⟨_,gE hlt⟩
  obtain ⟨z,hz⟩:∃ z,F[k]?=some z:=⟨_,gE (by omega)⟩
  have hYA:=Di hy
  have hYK:=Ck hy
  have hZ:=FZ hz
  have hdl:=We bs k
  have hcl:=Wf bs k
  repeat' (with_reducible first|refine qq ?_|(refine Tx 17 ?_;refine gO xLt ?_)|(refine Tx 18 ?_;refine gO xM <| gO Amc <| gO xL <| gN (xAl Bw) <| gO xA <| gZ (xSk Bm) ?_))
  by_cases k11:y.kind=11
  case pos =>
   have eV:Mj bs F k=Dq y.vn y.ve z:=by unfold Mj;rw [hYA,hZ]
   have rV:Qy bs F k=BJ y.vn y.ve z:=by unfold Qy;rw [hYA,hZ]
   have cV:Ed bs F k=Dq y.vn y.ve z:=by unfold Ed;rw [hYK,if_pos (by omega),eV]
   have stV:(tab bs.length (En (Ed bs F) k)).set k (Dq y.vn y.ve z)=tab bs.length (En (Ed bs F) (k+1)):=by rw [←cV];exact Mx
   have tlV:k<(tab bs.length (En (Ed bs F) k)).length:=by rw [Fa];exact hlt
   have RV:=UK y.vn y.ve z
   have eU:AgB bs F k=Dq y.un y.ue z:=by unfold AgB;rw [hYA,hZ]
   have rU:AgC bs F k=BJ y.un y.ue z:=by unfold AgC;rw [hYA,hZ]
   have cU:GF bs F k=Dq y.un y.ue z:=by unfold GF;rw [hYK,if_pos (by omega),eU]
   have stU:(tab bs.length (En (GF bs F) k)).set k (Dq y.un y.ue z)=tab bs.length (En (GF bs F) (k+1)):=by rw [←cU];exact Mx
   have tlU:k<(tab bs.length (En (GF bs F) k)).length:=by rw [Fa];exact hlt
   have RU:=UK y.un y.ue z
   have hc:BK (cpK bs k)++[(k:Int)]=BK (cpK bs (k+1)):=by rw [HM,hYK,if_pos (by omega),Hy]
   have hc2:(cpK bs k).length+1=(cpK bs (k+1)).length:=by rw [HM,hYK,if_pos (by omega)];simp
   by_cases hr:BJ y.vn y.ve z=0
   case neg =>
    have hce:IC bs F k=BJ y.vn y.ve z:=by unfold IC;rw [hYK,if_neg (by omega),if_pos (by omega),rV,if_neg hr]
    have hV1:Io ps bs os F=BJ y.vn y.ve z:=hV.trans ((Ari hle hall hlt hcon (by rw [hce];exact hr)).trans hce)
    have hVn:Io ps bs os F≠0:=by rw [hV1];exact hr
    repeat' (with_reducible first|refine qq ?_|refine NJ ?_|refine Aeg ?_|(refine Tx 22 ?_;refine gO xM <| gO (xNE Ap) ?_)|(refine Tx 23 ?_;refine gO (by exact AC rfl Da rfl rfl) <| gO xM <| gZ (xSk Br) <| gO xA ?_))
    exact YG
   by_cases hr2:BJ y.un y.ue z=0
   case neg =>
    have hce:IC bs F k=BJ y.un y.ue z:=by unfold IC;rw [hYK,if_neg (by omega),if_pos (by omega),rV,if_pos hr,rU]
    have hV1:Io ps bs os F=BJ y.un y.ue z:=hV.trans ((Ari hle hall hlt hcon (by rw [hce];exact hr2)).trans hce)
    have hVn:Io ps bs os F≠0:=by rw [hV1];exact hr2
    repeat' (with_reducible first|refine qq ?_|refine NJ ?_|refine Aeg ?_|(refine Tx 22 ?_;refine gO xM <| gO (xNE Ap) ?_)|(refine Tx 24 ?_;refine gO xM ?_)|refine AiN ?_|(refine Tx 27 ?_;refine gO (by exact AC rfl Da rfl rfl) <| gO xM <| gZ (xSk Br) <| gO xA ?_))
    exact YG
   have hC1:∀ j,j<k+1→IC bs F j=0:=fun j hj=>by
    rcases ba j k with h|h
    ·exact hcon j h
    ·obtain rfl:j=k:=by omega
     unfold IC;rw [hYK,if_neg (by omega),if_pos (by omega),rV,if_pos hr,rU];exact hr2
   have sI:tab bs.length (En (EE bs F) k)=tab bs.length (En (EE bs F) (k+1)):=Fd (by unfold EE;rw [hYK,if_neg (by omega)])
   have hd:dlK bs (k+1)=dlK bs k:=by rw [HJ,hYK,if_neg (by omega)]
   repeat' (with_reducible first|refine qq ?_|refine NJ ?_|refine Aeg ?_|(refine Tx 22 ?_;refine gO xM <| gO (xNE Ap) ?_)|(refine Tx 24 ?_;refine gO xM ?_)|refine AiN ?_|(refine Tx 28 ?_;refine gO xM <| gO xM <| gN (by exact Bj rfl Af Bz rfl rfl (by decide) (by decide)) <| gT (by exact LP rfl rfl rfl rfl rfl rfl Af Bz (by omega) (by decide) hc hc2) <| gO xA ?_)|refine YF ?_)
   refine ⟨_,_,BE 9 (hH:=by rw [hd,←sI];rfl) (h:=by rw [hd];exact mB rfl rfl),_,?_,k+1,by omega,rfl,hC1,rfl,rfl⟩
   ·omega
  by_cases k1:y.kind=1
  case pos =>
   have eV:Mj bs F k=Dq y.vn y.ve z:=by unfold Mj;rw [hYA,hZ]
   have rV:Qy bs F k=BJ y.vn y.ve z:=by unfold Qy;rw [hYA,hZ]
   have cV:Ed bs F k=Dq y.vn y.ve z:=by unfold Ed;rw [hYK,if_pos (by omega),eV]
   have stV:(tab bs.length (En (Ed bs F) k)).set k (Dq y.vn y.ve z)=tab bs.length (En (Ed bs F) (k+1)):=by rw [←cV];exact Mx
   have tlV:k<(tab bs.length (En (Ed bs F) k)).length:=by rw [Fa];exact hlt
   have RV:=UK y.vn y.ve z
   have hce:IC bs F k=BJ y.vn y.ve z:=by unfold IC;rw [hYK,if_pos (by omega),rV]
   by_cases hr:BJ y.vn y.ve z=0
   case neg =>
    have hV1:Io ps bs os F=BJ y.vn y.ve z:=hV.trans ((Ari hle hall hlt hcon (by rw [hce];exact hr)).trans hce)
    have hVn:Io ps bs os F≠0:=by rw [hV1];exact hr
    repeat' (with_reducible first|refine qq ?_|refine NJ ?_|refine AiO ?_|(refine Tx 22 ?_;refine gO xM <| gO (xNE Ap) ?_)|(refine Tx 23 ?_;refine gO (by exact AC rfl Da rfl rfl) <| gO xM <| gZ (xSk Br) <| gO xA ?_))
    exact YG
   have hC1:∀ j,j<k+1→IC bs F j=0:=fun j hj=>by
    rcases ba j k with h|h
    ·exact hcon j h
    ·obtain rfl:j=k:=by omega
     exact hce.trans hr
   have sU:tab bs.length (En (GF bs F) k)=tab bs.length (En (GF bs F) (k+1)):=Fd (by unfold GF;rw [hYK,if_neg (by omega)])
   have sI:tab bs.length (En (EE bs F) k)=tab bs.length (En (EE bs F) (k+1)):=Fd (by unfold EE;rw [hYK,if_neg (by omega)])
   have hd:dlK bs (k+1)=dlK bs k:=by rw [HJ,hYK,if_neg (by omega)]
   have hc:cpK bs (k+1)=cpK bs k:=by rw [HM,hYK,if_neg (by omega)]
   repeat' (with_reducible first|refine qq ?_|refine NJ ?_|refine AiO ?_|(refine Tx 22 ?_;refine gO xM <| gO (xNE Ap) ?_)|(refine Tx 24 ?_;refine gO xM ?_)|refine YF ?_)
   refine ⟨_,_,BE 9 (hH:=by rw [hd,hc,←sU,←sI];rfl) (h:=by rw [hd,hc];exact mB rfl rfl),_,?_,k+1,by omega,rfl,hC1,rfl,rfl⟩
   ·omega
  by_cases k2:y.kind=2
  case pos =>
   have eV:Mj bs F k=Dq y.vn y.ve z:=by unfold Mj;rw [hYA,hZ]
   have rV:Qy bs F k=BJ y.vn y.ve z:=by unfold Qy;rw [hYA,hZ]
   have cV:Ed bs F k=Dq y.vn y.ve z:=by unfold Ed;rw [hYK,if_pos (by omega),eV]
   have stV:(tab bs.length (En (Ed bs F) k)).set k (Dq y.vn y.ve z)=tab bs.length (En (Ed bs F) (k+1)):=by rw [←cV];exact Mx
   have tlV:k<(tab bs.length (En (Ed bs F) k)).length:=by rw [Fa];exact hlt
   have RV:=UK y.vn y.ve z
   have hd:BK (dlK bs k)++[(k:Int)]=BK (dlK bs (k+1)):=by rw [HJ,hYK,if_pos (by omega),Hy]
   have hd2:(dlK bs k).length+1=(dlK bs (k+1)).length:=by rw [HJ,hYK,if_pos (by omega)];simp
   have hcI:EE bs F k=Ed bs F k:=by unfold EE;rw [hYK,if_pos (by omega)]
   have stI:(tab bs.length (En (EE bs F) k)).set k (Ed bs F k)=tab bs.length (En (EE bs F) (k+1)):=by rw [←hcI];exact Mx
   have tlI:k<(tab bs.length (En (EE bs F) k)).length:=by rw [Fa];exact hlt
   have gV:(tab bs.length (En (Ed bs F) (k+1)))[k]?=some (Ed bs F k):=by rw [GU hlt];unfold En;rw [if_pos (by omega)]
   have hce:IC bs F k=BJ y.vn y.ve z:=by unfold IC;rw [hYK,if_pos (by omega),rV]
   by_cases hr:BJ y.vn y.ve z=0
   case neg =>
    have hV1:Io ps bs os F=BJ y.vn y.ve z:=hV.trans ((Ari hle hall hlt hcon (by rw [hce];exact hr)).trans hce)
    have hVn:Io ps bs os F≠0:=by rw [hV1];exact hr
    repeat' (with_reducible first|refine qq ?_|refine NJ ?_|refine AiP ?_|(refine Tx 22 ?_;refine gO xM <| gO (xNE Ap) ?_)|(refine Tx 23 ?_;refine gO (by exact AC rfl Da rfl rfl) <| gO xM <| gZ (xSk Br) <| gO xA ?_))
    exact YG
   have hC1:∀ j,j<k+1→IC bs F j=0:=fun j hj=>by
    rcases ba j k with h|h
    ·exact hcon j h
    ·obtain rfl:j=k:=by omega
     exact hce.trans hr
   have sU:tab bs.length (En (GF bs F) k)=tab bs.length (En (GF bs F) (k+1)):=Fd (by unfold GF;rw [hYK,if_neg (by omega)])
   have hc:cpK bs (k+1)=cpK bs k:=by rw [HM,hYK,if_neg (by omega)]
   repeat' (with_reducible first|refine qq ?_|refine NJ ?_|refine AiP ?_|(refine Tx 22 ?_;refine gO xM <| gO (xNE Ap) ?_)|(refine Tx 24 ?_;refine gO xM ?_)|refine YF ?_|(refine AJ (id:=30) 8 AX (by kernel_rfl) ?_;dsimp only [List.take,List.drop];refine gP xF <| gP xD <| gP xM <| gP xM <| gP xM <| gP QA <| gP Ama <| gP QA ?_;refine Ke ?_;refine gZ Aqh ?_)|(refine Tx 31 ?_;refine gO xM <| gO xM <| gN (by exact Bj rfl Af Bz rfl rfl (by decide) (by decide)) <| gT (by exact LP rfl rfl rfl rfl rfl rfl Af Bz (by omega) (by decide) hd hd2) <| gO xA ?_))
   refine ⟨_,_,BE 9 (hH:=by rw [hc,←sU];rfl) (h:=by rw [hc];exact mB rfl rfl),_,?_,k+1,by omega,rfl,hC1,rfl,rfl⟩
   ·omega
  have hC1:∀ j,j<k+1→IC bs F j=0:=fun j hj=>by
   rcases ba j k with h|h
   ·exact hcon j h
   ·obtain rfl:j=k:=by omega
    unfold IC;rw [hYK,if_neg (by omega),if_neg (by omega)]
  have sU:tab bs.length (En (GF bs F) k)=tab bs.length (En (GF bs F) (k+1)):=Fd (by unfold GF;rw [hYK,if_neg (by omega)])
  have sV:tab bs.length (En (Ed bs F) k)=tab bs.length (En (Ed bs F) (k+1)):=Fd (by unfold Ed;rw [hYK,if_neg (by omega)])
  have sI:tab bs.length (En (EE bs F) k)=tab bs.length (En (EE bs F) (k+1)):=Fd (by unfold EE;rw [hYK,if_neg (by omega)])
  have hd:dlK bs (k+1)=dlK bs k:=by rw [HJ,hYK,if_neg (by omega)]
  have hc:cpK bs (k+1)=cpK bs k:=by rw [HM,hYK,if_neg (by omega)]
  repeat' (with_reducible first|refine qq ?_|refine NJ ?_|(refine Tx 24 ?_;refine gO xM ?_)|refine YF ?_)
  refine ⟨_,_,BE 9 (hH:=by rw [hd,hc,←sU,←sV,←sI];rfl) (h:=by rw [hd,hc];exact mB rfl rfl),_,?_,k+1,by omega,rfl,hC1,rfl,rfl⟩
  ·omega
 obtain rfl:k=bs.length:=by omega
 clear hlt hk
 have hdl:=We bs bs.length
 have hcl:=Wf bs bs.length
 rw [show tab bs.length (En (Ed bs F) bs.length)=tab bs.length (Ed bs F) from SM,show tab bs.length (En (GF bs F) bs.length)=tab bs.length (GF bs F) from SM,show tab bs.length (En (EE bs F) bs.length)=tab bs.length (EE bs F) from SM,Aab bs bs.length (AM bs)]
 repeat' (with_reducible first|refine qq ?_|(refine Tx 17 ?_;refine gO xLt ?_)|(refine Tx 33 ?_;refine gO xM <| gO xN <| gO xM ?_))
 refine Bi (BE 9 (hH:=by rw [ky,az];rfl)) (Aq (fun n Fr H=>∃ t:Nat,t≤(dlK bs bs.length).length∧n=(dlK bs bs.length).length - t∧Fr=ofL [(1,vd (Ba true F)),(2,vr 0),(4,vr 1),(5,vd (.val .nilIface)),(6,vd (Ba false (BK (BH bs)))),(10,vi bs.length),(11,vr 3),(12,vo 4 bs.length),(13,vo 5 bs.length),(14,vo 6 bs.length),(15,vo 7 ((dlK bs bs.length).length)),(16,vo 8 ((cpK bs bs.length).length)),(160,vo 7 ((dlK bs bs.length).length)),(161,vi ((dlK bs bs.length).length)),(162,vi ((t:Nat)))]∧H=[.box 26 [.d (Dh true ps),.d (DC true bs),.d (Ba true os)],.box 94 [.d (.val (.slice none 0 0)),.d (.val (.slice none 0 0)),.d (.val (.slice none 0 0)),.d (.val (.slice none 0 0))],.row 3 1 (bs.length+(t)) (cI (tab bs.length (EE bs F)++List.replicate (t) 0)),.box 94 [.d (Dh false ps),.own 2 (bs.length+(t)),.d (.val (.slice none 0 0)),.d (.val (.slice none 0 0))],.row 3 1 (bs.length) (cI (tab bs.length (Ed bs F))),.row 3 1 (bs.length) (cI (tab bs.length (GF bs F))),.row 3 1 (bs.length) (cI (tab bs.length (Nm bs (t)))),.row 3 1 ((dlK bs bs.length).length) (cI (BK (dlK bs bs.length))),.row 3 1 ((cpK bs bs.length).length) (cI (BK (cpK bs bs.length)))]) (n0:=(dlK bs bs.length).length) ⟨0,ad _,rfl,rfl,rfl⟩ ?_)
 rintro n Fr H ⟨t,ht,rfl,rfl,rfl⟩
 by_cases hlt:t<(dlK bs bs.length).length
 case pos =>
  obtain ⟨j,hj⟩:∃ j,(dlK bs bs.length)[t]?=some j:=⟨_,gE hlt⟩
  obtain ⟨hj1,hj2,hj3⟩:=PR.1 hj
  have hjn:=Rr hj
  have stC:(tab bs.length (Nm bs t)).set j (((bs.length+t:Nat)):Int)=tab bs.length (Nm bs (t+1)):=Wd (by rw [Ahe hj];omega) fun i hi=>AdU hj hi
  have tlC:j<(tab bs.length (Nm bs t)).length:=by rw [Fa];exact hj1
  have hap:(tab bs.length (EE bs F)++List.replicate t 0)++[0]=tab bs.length (EE bs F)++List.replicate (t+1) 0:=by rw [kp,←List.replicate_succ']
  repeat' (with_reducible first|refine qq ?_|(refine Tx 34 ?_;refine gO xLt ?_)|(refine Tx 35 ?_;refine gO (xIo Af) <| gO (by first|exact xLi hjn Ak|exact xLd Ak) <| gO xA ?_)|(refine Tx 36 ?_;refine gO xM <| gO xM <| gO xF <| gO xD <| gO xN <| gO (xIo Af) <| gZ Aqi ?_)|(refine Tx 37 ?_;refine gO xF <| gO xD <| gN (by exact Bj rfl Af Bz rfl rfl (by decide) (by decide)) <| gT (by exact LP rfl rfl rfl rfl rfl rfl Af Bz (by omega) (by decide) hap rfl) <| gO xF <| gZ Amd ?_)|(refine Tx 38 ?_;refine gO xAd <| gO xM ?_))
  exact AiR
 obtain rfl:t=(dlK bs bs.length).length:=by omega
 clear hlt ht
 rw [Aac]
 repeat' (with_reducible first|refine qq ?_|(refine Tx 34 ?_;refine gO xLt ?_)|(refine Tx 39 ?_;refine gO xM <| gO xN <| gO xM ?_))
 refine Bi (BE 9 (hH:=by rw [gy,List.flatMap_nil,az];rfl)) (Aq (fun n Fr H=>∃ t:Nat,t≤(cpK bs bs.length).length∧n=(cpK bs bs.length).length - t∧Fr=ofL [(1,vd (Ba true F)),(2,vr 0),(4,vr 1),(5,vd (.val .nilIface)),(6,vd (Ba false (BK (BH bs)))),(10,vi bs.length),(11,vr 3),(12,vo 4 bs.length),(13,vo 5 bs.length),(14,vo 6 bs.length),(15,vo 7 ((dlK bs bs.length).length)),(16,vo 8 ((cpK bs bs.length).length)),(178,vo 8 ((cpK bs bs.length).length)),(179,vi ((cpK bs bs.length).length)),(180,vi ((t:Nat)))]∧H=[.box 26 [.d (Dh true ps),.d (DC true bs),.d (Ba true os)],.box 94 [.d (.val (.slice none 0 0)),.d (.val (.slice none 0 0)),.d (.val (.slice none 0 0)),.d (.val (.slice none 0 0))],.row 3 1 (bs.length+(dlK bs bs.length).length+2*(t)) (cI (tab bs.length (EE bs F)++List.replicate (dlK bs bs.length).length 0++((cpK bs bs.length).take (t)).flatMap (fun j=>[Ed bs F j,GF bs F j]))),.box 94 [.d (Dh false ps),.own 2 (bs.length+(dlK bs bs.length).length+2*(t)),.d (.val (.slice none 0 0)),.d (.val (.slice none 0 0))],.row 3 1 (bs.length) (cI (tab bs.length (Ed bs F))),.row 3 1 (bs.length) (cI (tab bs.length (GF bs F))),.row 3 1 (bs.length) (cI (tab bs.length (Nn bs (t)))),.row 3 1 ((dlK bs bs.length).length) (cI (BK (dlK bs bs.length))),.row 3 1 ((cpK bs bs.length).length) (cI (BK (cpK bs bs.length)))]) (n0:=(cpK bs bs.length).length) ⟨0,ad _,rfl,rfl,rfl⟩ ?_)
 rintro n Fr H ⟨t,ht,rfl,rfl,rfl⟩
 by_cases hlt:t<(cpK bs bs.length).length
 case pos =>
  obtain ⟨j,hj⟩:∃ j,(cpK bs bs.length)[t]?=some j:=⟨_,gE hlt⟩
  obtain ⟨hj1,hj2,hj3⟩:=AdT.1 hj
  have hjn:=Rr hj
  have stC:(tab bs.length (Nn bs t)).set j (((bs.length+(dlK bs bs.length).length+2*t:Nat)):Int)=tab bs.length (Nn bs (t+1)):=Wd (by rw [Ahf hj];omega) fun i hi=>AdV hj hi
  have tlC:j<(tab bs.length (Nn bs t)).length:=by rw [Fa];exact hj1
  have gV:(tab bs.length (Ed bs F))[j]?=some (Ed bs F j):=GU hj1
  have gU:(tab bs.length (GF bs F))[j]?=some (GF bs F j):=GU hj1
  have hap:cI (tab bs.length (EE bs F)++List.replicate (dlK bs bs.length).length 0++((cpK bs bs.length).take (t)).flatMap (fun j=>[Ed bs F j,GF bs F j]))++[.d (.val (.int .i64 (Ed bs F j))),.d (.val (.int .i64 (GF bs F j)))]=cI (tab bs.length (EE bs F)++List.replicate (dlK bs bs.length).length 0++((cpK bs bs.length).take (t+1)).flatMap (fun j=>[Ed bs F j,GF bs F j])):=by rw [AlY,Aad hj,←kp]
  repeat' (with_reducible first|refine qq ?_|(refine Tx 40 ?_;refine gO xLt ?_)|(refine Tx 41 ?_;refine gO (xIo Af) <| gO Amb <| gO xA ?_)|(refine Tx 42 ?_;refine gO xM <| gO xM <| gO xF <| gO xD <| gO xN <| gO (xIo Af) <| gZ Aqi ?_)|(refine AJ (id:=43) 11 AX (by kernel_rfl) ?_;dsimp only [List.take,List.drop];refine gP xF <| gP xD <| gP xM <| gP xM <| gP (xIo Af) <| gP Amb <| gP xM <| gP xM <| gP (xIo Af) <| gP Amb <| gQ (by exact FV rfl Af Bz rfl rfl rfl rfl (by decide) (by decide)) ?_;refine Ke ?_;refine gT (by exact Gx rfl rfl rfl rfl rfl rfl Af Bz (by omega) (by decide) (by decide) rfl hap rfl) <| gO xF <| gZ Amd ?_)|(refine Tx 44 ?_;refine gO xAd <| gO xM ?_))
  exact AiR
 obtain rfl:t=(cpK bs bs.length).length:=by omega
 clear hlt ht
 have hIM:tab bs.length (EE bs F)++List.replicate (dlK bs bs.length).length 0++((cpK bs bs.length).take (cpK bs bs.length).length).flatMap (fun j=>[Ed bs F j,GF bs F j])=Cv bs F:=by rw [ay];rfl
 rw [AdW]
 have hM:bs.length+(dlK bs bs.length).length+2*(cpK bs bs.length).length=(Cv bs F).length:=by rw [←hIM,ak,ak,Fa,fa,UL,dm];omega
 have hol:=AcP (bs:=bs)
 rw [hIM]
 repeat' (with_reducible first|refine qq ?_|(refine Tx 40 ?_;refine gO xLt ?_)|(refine Tx 45 ?_;refine gO xM <| gO xN <| gO xM ?_))
 refine Bi (Pa 3 2 169 7 rfl rfl) ?_
 refine Bi (BE 10) (Aq (fun n Fr H=>∃ t:Nat,t≤(BH bs).length∧n=(BH bs).length - t∧Fr=ofL [(1,vd (Ba true F)),(2,vr 0),(4,vr 1),(5,vd (.val .nilIface)),(6,vd (Ba false (BK (BH bs)))),(10,vi bs.length),(11,vr 3),(12,vo 4 bs.length),(13,vo 5 bs.length),(14,vo 6 bs.length),(15,vo 7 ((dlK bs bs.length).length)),(204,vd (Ba false (BK (BH bs)))),(205,vi ((BK (BH bs)).length)),(206,vi ((t:Nat)))]∧H=[.box 26 [.d (Dh true ps),.d (DC true bs),.d (Ba true os)],.box 94 [.d (.val (.slice none 0 0)),.d (.val (.slice none 0 0)),.d (.val (.slice none 0 0)),.d (.val (.slice none 0 0))],.row 3 1 (bs.length+(dlK bs bs.length).length+2*(cpK bs bs.length).length) (cI (Cv bs F)),.box 94 [.d (Dh false ps),.own 2 (bs.length+(dlK bs bs.length).length+2*(cpK bs bs.length).length),.own 9 ((cdA ps bs F (t)).length),.d (.val (.slice none 0 0))],.row 3 1 (bs.length) (cI (tab bs.length (Ed bs F))),.row 3 1 (bs.length) (cI (tab bs.length (GF bs F))),.row 3 1 (bs.length) (cI (tab bs.length (AM bs))),.row 3 1 ((dlK bs bs.length).length) (cI (BK (dlK bs bs.length))),.row 3 1 ((cpK bs bs.length).length) (cI (BK (cpK bs bs.length))),.row 169 7 (cdA ps bs F (t)).length (cD (AN Tg (cdA ps bs F (t))))]) (n0:=(BH bs).length) ⟨0,ad _,rfl,rfl,rfl⟩ ?_)
 rintro n Fr H ⟨t,ht,rfl,rfl,rfl⟩
 have hnl:=CR (BH bs)
 by_cases hlt:t<(BH bs).length
 case pos =>
  obtain ⟨j,hj⟩:∃ j,(BH bs)[t]?=some j:=⟨_,gE hlt⟩
  obtain ⟨hjn,hjk⟩:=Rh hj
  have hAl:=AdX (ps:=ps) (bs:=bs) (F:=F) t
  obtain ⟨y,hy⟩:∃ y,bs[j]?=some y:=⟨_,gE hjn⟩
  obtain ⟨z,hz⟩:∃ z,F[j]?=some z:=⟨_,gE (by omega)⟩
  have hac:=Cl he hy
  have hYA:=Di hy
  have hYK:=Ck hy
  have hZ:=FZ hz
  have hzr:=Dk hall j
  rw [hZ] at hzr
  have gC:(tab bs.length (AM bs))[j]?=some (AM bs j):=GU hjn
  rw [hYK] at hjk
  have gV:(tab bs.length (Ed bs F))[j]?=some (Ed bs F j):=GU hjn
  repeat' (with_reducible first|refine qq ?_|(refine Tx 46 ?_;refine gO xLt ?_)|(refine Tx 47 ?_;refine gO Aqj <| gO xD <| gO xA ?_)|(refine Tx 48 ?_;refine gO xF <| gO xD <| gO xM <| gO Amc <| gO xL <| gN (xAl Bw) <| gZ (xSk Bm) ?_)|(refine Tx 49 ?_;refine gO xF <| gO xD ?_))
  by_cases k0:y.kind=0
  case pos =>
   have hyl:y.args.length=1:=by have h:=hac.2.1;unfold AO at h;(repeat' split at h) <;> omega
   obtain ⟨a0,hA0⟩:∃ a,y.args[0]?=some a:=⟨_,gE (by omega)⟩
   have hr0:=hac.2.2 a0 (gM hA0)
   have hg0:Bt y=a0:=by unfold Bt;rw [hA0];rfl
   rw [show Cn ps.length bs.length y.kind=ps.length from if_pos (by omega)] at hr0
   obtain ⟨p,hp⟩:∃ p,ps[a0.toNat]?=some p:=⟨_,gE (by omega)⟩
   have hpe:=Mo he hp
   unfold DW at hpe
   have hpr:0≤p.fr∧p.fr≤30:=by
    by_cases h : -2147483648≤p.lo∧p.lo≤p.hi∧p.hi<2147483648∧0≤p.fr∧p.fr≤30
    ·exact h.2.2.2
    ·rw [if_neg h] at hpe;cases hpe
   have hpf:FE ps a0=p.fr:=by unfold FE;rw [hp];rfl
   have hB:Fb ps bs F j (AM bs j)=[⟨0,j,a0,0,z - p.fr,0,0⟩]:=by unfold Fb;dsimp only;rw [hYA,hZ,hg0,hpf,if_pos k0]
   have hnx:=Gu (ps:=ps) (F:=F) hj
   rw [hB] at hnx
   have hap:=Hb (x:=⟨0,j,a0,0,z - p.fr,0,0⟩) (hnx)
   have hap2:=Hc (hnx)
   repeat' (with_reducible first|refine qq ?_|refine PZ ?_|(refine AJ (id:=55) 23 AX (by kernel_rfl) ?_;dsimp only [List.take,List.drop];refine gP xF <| gP xD <| gP xM <| gP xF <| gP xD <| gP Qa <| gP xD <| gP xM <| gP xM <| gP Ip <| gP xD <| gP xF <| gP xD <| gP xF <| gP xD <| gP Qa <| gP xD <| gP (by first|exact xIr Bv (Fy hp)|exact xIo Bv) <| gP xF <| gP xD <| gP xSb <| gP (by exact AC rfl Ez rfl rfl) <| gQ (by exact Bj rfl Bn Ce rfl rfl (by decide) (by decide)) ?_;refine Ke ?_;refine gT (by exact Gx rfl rfl rfl rfl rfl rfl Bn Ce (by omega) (by decide) (by decide) rfl hap hap2) <| gO xF <| gZ UR ?_))
   exact My
  by_cases k1:y.kind=1
  case pos =>
   have hB:Fb ps bs F j (AM bs j)=[⟨1,j,0,0,0,0,Ed bs F j⟩]:=by unfold Fb;dsimp only;rw [hYA,if_neg (by omega),if_pos k1];unfold Ed;rw [hYK,if_pos (by omega)]
   have hnx:=Gu (ps:=ps) (F:=F) hj
   rw [hB] at hnx
   have hap:=Hb (x:=⟨1,j,0,0,0,0,Ed bs F j⟩) (hnx)
   have hap2:=Hc (hnx)
   repeat' (with_reducible first|refine qq ?_|refine PZ ?_|(refine Tx 56 ?_;refine gO xEq <| gO xA ?_)|(refine AJ (id:=57) 9 AX (by kernel_rfl) ?_;dsimp only [List.take,List.drop];refine gP xF <| gP xD <| gP xM <| gP xM <| gP xM <| gP Aqj <| gP Ama <| gP (by exact AC rfl Ez rfl rfl) <| gQ (by exact Bj rfl Bn Ce rfl rfl (by decide) (by decide)) ?_;refine Ke ?_;refine gT (by exact Gx rfl rfl rfl rfl rfl rfl Bn Ce (by omega) (by decide) (by decide) rfl hap hap2) <| gO xF <| gZ UR ?_))
   exact My
  by_cases k6:y.kind=6
  case pos =>
   have hyl:y.args.length=1:=by have h:=hac.2.1;unfold AO at h;(repeat' split at h) <;> omega
   obtain ⟨a0,hA0⟩:∃ a,y.args[0]?=some a:=⟨_,gE (by omega)⟩
   have hr0:=hac.2.2 a0 (gM hA0)
   have hg0:Bt y=a0:=by unfold Bt;rw [hA0];rfl
   rw [show Cn ps.length bs.length y.kind=bs.length from if_neg (by omega)] at hr0
   obtain ⟨z0,hz0⟩:∃ z,F[a0.toNat]?=some z:=⟨_,gE (by omega)⟩
   have hZ0:=FZ hz0
   have hzr0:=Dk hall a0.toNat
   rw [hZ0] at hzr0
   have hvs:=(Mn he hy (by rw [k6];rfl)).2.2
   have hB:Fb ps bs F j (AM bs j)=[⟨6,j,a0,0,z - z0+y.ve,0,y.vn⟩]:=by unfold Fb;dsimp only;rw [hYA,hZ,hg0,hZ0,if_neg (by omega),if_neg (by omega),if_pos k6]
   have hnx:=Gu (ps:=ps) (F:=F) hj
   rw [hB] at hnx
   have hap:=Hb (x:=⟨6,j,a0,0,z - z0+y.ve,0,y.vn⟩) (hnx)
   have hap2:=Hc (hnx)
   repeat' (with_reducible first|refine qq ?_|refine PZ ?_|(refine Tx 56 ?_;refine gO xEq <| gO xA ?_)|(refine Tx 58 ?_;refine gO xEq <| gO xA ?_)|(refine AJ (id:=59) 28 AX (by kernel_rfl) ?_;dsimp only [List.take,List.drop];refine gP xF <| gP xD <| gP xM <| gP xF <| gP xD <| gP Qa <| gP xD <| gP xM <| gP xM <| gP Ip <| gP xD <| gP xM <| gP xF <| gP xD <| gP Qa <| gP xD <| gP Ip <| gP xD <| gP xSb <| gP xF <| gP xF <| gP xD <| gP xAd <| gP xF <| gP xF <| gP xD <| gP (by exact AC rfl Ez rfl rfl) <| gQ (by exact Bj rfl Bn Ce rfl rfl (by decide) (by decide)) ?_;refine Ke ?_;refine gT (by exact Gx rfl rfl rfl rfl rfl rfl Bn Ce (by omega) (by decide) (by decide) rfl hap hap2) <| gO xF <| gZ UR ?_))
   exact My
  by_cases k7:y.kind=7
  case pos =>
   have hyl:y.args.length=2:=by have h:=hac.2.1;unfold AO at h;(repeat' split at h) <;> omega
   obtain ⟨a0,hA0⟩:∃ a,y.args[0]?=some a:=⟨_,gE (by omega)⟩
   have hr0:=hac.2.2 a0 (gM hA0)
   have hg0:Bt y=a0:=by unfold Bt;rw [hA0];rfl
   rw [show Cn ps.length bs.length y.kind=bs.length from if_neg (by omega)] at hr0
   obtain ⟨z0,hz0⟩:∃ z,F[a0.toNat]?=some z:=⟨_,gE (by omega)⟩
   have hZ0:=FZ hz0
   have hzr0:=Dk hall a0.toNat
   rw [hZ0] at hzr0
   obtain ⟨a1,hA1⟩:∃ a,y.args[1]?=some a:=⟨_,gE (by omega)⟩
   have hr1:=hac.2.2 a1 (gM hA1)
   have hg1:FP y=a1:=by unfold FP;rw [hA1];rfl
   rw [show Cn ps.length bs.length y.kind=bs.length from if_neg (by omega)] at hr1
   obtain ⟨z1,hz1⟩:∃ z,F[a1.toNat]?=some z:=⟨_,gE (by omega)⟩
   have hZ1:=FZ hz1
   have hzr1:=Dk hall a1.toNat
   rw [hZ1] at hzr1
   have hB:Fb ps bs F j (AM bs j)=[⟨7,j,a0,a1,z - z0 - z1,0,0⟩]:=by unfold Fb;dsimp only;rw [hYA,hZ,hg0,hg1,hZ0,hZ1,if_neg (by omega),if_neg (by omega),if_neg (by omega),if_pos k7]
   have hnx:=Gu (ps:=ps) (F:=F) hj
   rw [hB] at hnx
   have hap:=Hb (x:=⟨7,j,a0,a1,z - z0 - z1,0,0⟩) (hnx)
   have hap2:=Hc (hnx)
   repeat' (with_reducible first|refine qq ?_|refine PZ ?_|(refine Tx 56 ?_;refine gO xEq <| gO xA ?_)|(refine Tx 58 ?_;refine gO xEq <| gO xA ?_)|(refine Tx 60 ?_;refine gO xEq <| gO xA ?_)|(refine AJ (id:=61) 33 AX (by kernel_rfl) ?_;dsimp only [List.take,List.drop];refine gP xF <| gP xD <| gP xM <| gP xF <| gP xD <| gP Qa <| gP xD <| gP xF <| gP xD <| gP Aag <| gP xD <| gP xM <| gP xM <| gP Ip <| gP xD <| gP xM <| gP xF <| gP xD <| gP Qa <| gP xD <| gP Ip <| gP xD <| gP xSb <| gP xM <| gP xF <| gP xD <| gP Aag <| gP xD <| gP Ip <| gP xD <| gP xSb <| gP (by exact AC rfl Ez rfl rfl) <| gQ (by exact Bj rfl Bn Ce rfl rfl (by decide) (by decide)) ?_;refine Ke ?_;refine gT (by exact Gx rfl rfl rfl rfl rfl rfl Bn Ce (by omega) (by decide) (by decide) rfl hap hap2) <| gO xF <| gZ UR ?_))
   exact My
  by_cases k11:y.kind=11
  case pos =>
   have hyl:y.args.length=1:=by have h:=hac.2.1;unfold AO at h;(repeat' split at h) <;> omega
   obtain ⟨a0,hA0⟩:∃ a,y.args[0]?=some a:=⟨_,gE (by omega)⟩
   have hr0:=hac.2.2 a0 (gM hA0)
   have hg0:Bt y=a0:=by unfold Bt;rw [hA0];rfl
   rw [show Cn ps.length bs.length y.kind=bs.length from if_neg (by omega)] at hr0
   obtain ⟨z0,hz0⟩:∃ z,F[a0.toNat]?=some z:=⟨_,gE (by omega)⟩
   have hZ0:=FZ hz0
   have hzr0:=Dk hall a0.toNat
   rw [hZ0] at hzr0
   have hcF:AM bs j=(bs.length:Int)+((dlK bs bs.length).length:Int)+2*(IE (cpB bs) j:Int):=by unfold AM;rw [hYK,if_neg (by omega),if_pos k11]
   have hrk:=Nq hjn (hYK.trans k11)
   have hB:Fb ps bs F j (AM bs j)=[⟨9,j,a0,AM bs j,z - z0,0,0⟩,⟨8,j,j,AM bs j+1,0,0,0⟩]:=by unfold Fb;dsimp only;rw [hYA,hZ,hg0,hZ0,if_neg (by omega),if_neg (by omega),if_neg (by omega),if_neg (by omega),if_pos k11]
   have hnx:=Gu (ps:=ps) (F:=F) hj
   rw [hB] at hnx
   have hap:=Ahk (x:=⟨9,j,a0,AM bs j,z - z0,0,0⟩) (y:=⟨8,j,j,AM bs j+1,0,0,0⟩) hnx
   have hap2:=Ahl hnx
   repeat' (with_reducible first|refine qq ?_|refine PZ ?_|(refine Tx 56 ?_;refine gO xEq <| gO xA ?_)|(refine Tx 58 ?_;refine gO xEq <| gO xA ?_)|(refine Tx 60 ?_;refine gO xEq <| gO xA ?_)|(refine Tx 62 ?_;refine gO xEq <| gO xA ?_)|(refine AJ (id:=63) 33 AX (by kernel_rfl) ?_;dsimp only [List.take,List.drop];refine gP xF <| gP xD <| gP xM <| gP xF <| gP xD <| gP Qa <| gP Aah <| gP xM <| gP xM <| gP Ip <| gP Aah <| gP xM <| gP xM <| gP Ip <| gP Aah <| gP xM <| gP xF <| gP xD <| gP Qa <| gP Aah <| gP Ip <| gP Aah <| gP xSb <| gP (by exact AC rfl Ez rfl rfl) <| gP xM <| gP xM <| gP xM <| gP xM <| gP Ip <| gP Aah <| gP xAd <| gP (by exact AC rfl Ez rfl rfl) <| gQ (by exact FV rfl Bn Ce rfl rfl rfl rfl (by decide) (by decide)) ?_;refine Ke ?_;refine gT (by exact Gx rfl rfl rfl rfl rfl rfl Bn Ce (by omega) (by decide) (by decide) rfl hap hap2) <| gO xF <| gZ UR ?_))
   exact My
  have OP:=Ask y.kind
  by_cases hl2:y.args.length=2
  case pos =>
   obtain ⟨a0,hA0⟩:∃ a,y.args[0]?=some a:=⟨_,gE (by omega)⟩
   have hr0:=hac.2.2 a0 (gM hA0)
   have hg0:Bt y=a0:=by unfold Bt;rw [hA0];rfl
   rw [show Cn ps.length bs.length y.kind=bs.length from if_neg (by omega)] at hr0
   obtain ⟨z0,hz0⟩:∃ z,F[a0.toNat]?=some z:=⟨_,gE (by omega)⟩
   have hZ0:=FZ hz0
   have hzr0:=Dk hall a0.toNat
   rw [hZ0] at hzr0
   obtain ⟨a1,hA1⟩:∃ a,y.args[1]?=some a:=⟨_,gE (by omega)⟩
   have hr1:=hac.2.2 a1 (gM hA1)
   have hg1:FP y=a1:=by unfold FP;rw [hA1];rfl
   rw [show Cn ps.length bs.length y.kind=bs.length from if_neg (by omega)] at hr1
   obtain ⟨z1,hz1⟩:∃ z,F[a1.toNat]?=some z:=⟨_,gE (by omega)⟩
   have hZ1:=FZ hz1
   have hzr1:=Dk hall a1.toNat
   rw [hZ1] at hzr1
   have hB:Fb ps bs F j (AM bs j)=[⟨opM y.kind,j,a0,a1,z - z0,z - z1,0⟩]:=by unfold Fb;dsimp only;rw [hYA,hZ,hg0,hg1,hZ0,hZ1,if_neg (by omega),if_neg (by omega),if_neg (by omega),if_neg (by omega),if_neg (by omega),if_pos hl2]
   have hnx:=Gu (ps:=ps) (F:=F) hj
   rw [hB] at hnx
   have hap:=Hb (x:=⟨opM y.kind,j,a0,a1,z - z0,z - z1,0⟩) (hnx)
   have hap2:=Hc (hnx)
   repeat' (with_reducible first|refine qq ?_|refine PZ ?_|(refine Tx 56 ?_;refine gO xEq <| gO xA ?_)|(refine Tx 58 ?_;refine gO xEq <| gO xA ?_)|(refine Tx 60 ?_;refine gO xEq <| gO xA ?_)|(refine Tx 62 ?_;refine gO xEq <| gO xA ?_)|refine AiQ ?_|(refine Aid (id:=52) 17 11 169 [.d (.val (.int .i64 (opM y.kind))),.d (.val (.int .i64 (j))),.d (.val (.int .i64 (a0))),.d (.val (.int .i64 (a1))),.d (.val (.int .i64 (z - z0))),.d (.val (.int .i64 (0))),.d (.val (.int .i64 (0)))] AX (by kernel_rfl) ?_;dsimp only [List.take,List.drop];refine Sb rfl rfl (xFa EQ Bd) (xFa EQ Bd) ?_;refine Sb rfl rfl (xLd Bd) (xLd Bd) ?_;refine Sb rfl rfl Aag Aag ?_;refine Sb rfl rfl (xLd Ak) (xLd Ak) ?_;refine Sb rfl rfl xM1 xM1 ?_;refine Sb rfl rfl xM1 xM1 ?_;refine Sb rfl rfl Ip Ip ?_;refine Sb rfl rfl (xLd Ak) (xLd Ak) ?_;refine Sb rfl rfl xM1 xM1 ?_;refine Sb rfl rfl (xFa EQ Bd) (xFa EQ Bd) ?_;refine Sb rfl rfl (xLd Bd) (xLd Bd) ?_;refine Sb rfl rfl Aag Aag ?_;refine Sb rfl rfl (xLd Ak) (xLd Ak) ?_;refine Sb rfl rfl Ip Ip ?_;refine Sb rfl rfl (xLd Ak) (xLd Ak) ?_;refine Sb rfl rfl xSb xSb ?_;refine Sb rfl rfl (xFa Pi Ak) (xFa Pi Ak) ?_;refine Aic ?_;refine Aoj rfl rfl rfl (by exact TV rfl rfl rfl rfl rfl Ak (bf rfl) rfl) ?_;refine gO xF <| gZ (by first|exact xS1 Ak|exact xSk Ak) ?_))
   exact My
  have hyl:y.args.length=1:=by have h:=hac.2.1;have h1:=hac.1;unfold AO at h h1;(repeat' split at h) <;> omega
  obtain ⟨a0,hA0⟩:∃ a,y.args[0]?=some a:=⟨_,gE (by omega)⟩
  have hr0:=hac.2.2 a0 (gM hA0)
  have hg0:Bt y=a0:=by unfold Bt;rw [hA0];rfl
  rw [show Cn ps.length bs.length y.kind=bs.length from if_neg (by omega)] at hr0
  obtain ⟨z0,hz0⟩:∃ z,F[a0.toNat]?=some z:=⟨_,gE (by omega)⟩
  have hZ0:=FZ hz0
  have hzr0:=Dk hall a0.toNat
  rw [hZ0] at hzr0
  have hB:Fb ps bs F j (AM bs j)=[⟨opM y.kind,j,a0,0,z - z0,0,0⟩]:=by unfold Fb;dsimp only;rw [hYA,hZ,hg0,hZ0,if_neg (by omega),if_neg (by omega),if_neg (by omega),if_neg (by omega),if_neg (by omega),if_neg hl2]
  have hnx:=Gu (ps:=ps) (F:=F) hj
  rw [hB] at hnx
  have hap:=Hb (x:=⟨opM y.kind,j,a0,0,z - z0,0,0⟩) (hnx)
  have hap2:=Hc (hnx)
  repeat' (with_reducible first|refine qq ?_|refine PZ ?_|(refine Tx 56 ?_;refine gO xEq <| gO xA ?_)|(refine Tx 58 ?_;refine gO xEq <| gO xA ?_)|(refine Tx 60 ?_;refine gO xEq <| gO xA ?_)|(refine Tx 62 ?_;refine gO xEq <| gO xA ?_)|refine AiQ ?_)
  exact My
 obtain rfl:t=(BH bs).length:=by omega
 clear hlt ht
 rw [←Ahg]
 repeat' (with_reducible first|refine qq ?_|(refine Tx 46 ?_;refine gO xLt ?_)|(refine Tx 65 ?_;refine gO xM <| gO xN <| gO xM ?_))
 refine Bi (BE 10) (Aq (fun n Fr H=>∃ t:Nat,t≤(dlK bs bs.length).length∧n=(dlK bs bs.length).length - t∧Fr=ofL [(1,vd (Ba true F)),(2,vr 0),(4,vr 1),(5,vd (.val .nilIface)),(6,vd (Ba false (BK (BH bs)))),(10,vi bs.length),(11,vr 3),(12,vo 4 bs.length),(13,vo 5 bs.length),(14,vo 6 bs.length),(15,vo 7 ((dlK bs bs.length).length)),(413,vo 7 ((dlK bs bs.length).length)),(414,vi ((dlK bs bs.length).length)),(415,vi ((t:Nat)))]∧H=[.box 26 [.d (Dh true ps),.d (DC true bs),.d (Ba true os)],.box 94 [.d (.val (.slice none 0 0)),.d (.val (.slice none 0 0)),.d (.val (.slice none 0 0)),.d (.val (.slice none 0 0))],.row 3 1 (bs.length+(dlK bs bs.length).length+2*(cpK bs bs.length).length) (cI (Cv bs F)),.box 94 [.d (Dh false ps),.own 2 (bs.length+(dlK bs bs.length).length+2*(cpK bs bs.length).length),.own 9 ((cdB ps bs F (t)).length),.d (.val (.slice none 0 0))],.row 3 1 (bs.length) (cI (tab bs.length (Ed bs F))),.row 3 1 (bs.length) (cI (tab bs.length (GF bs F))),.row 3 1 (bs.length) (cI (tab bs.length (AM bs))),.row 3 1 ((dlK bs bs.length).length) (cI (BK (dlK bs bs.length))),.row 3 1 ((cpK bs bs.length).length) (cI (BK (cpK bs bs.length))),.row 169 7 (cdB ps bs F (t)).length (cD (AN Tg (cdB ps bs F (t))))]) (n0:=(dlK bs bs.length).length) ⟨0,ad _,rfl,rfl,rfl⟩ ?_)
 rintro n Fr H ⟨t,ht,rfl,rfl,rfl⟩
 by_cases hlt:t<(dlK bs bs.length).length
 case pos =>
  obtain ⟨j,hj⟩:∃ j,(dlK bs bs.length)[t]?=some j:=⟨_,gE hlt⟩
  obtain ⟨hjn,hjk,hj3⟩:=PR.1 hj
  have hjm:=Rr hj
  have hAl:=AdY (ps:=ps) (bs:=bs) (F:=F) t
  obtain ⟨y,hy⟩:∃ y,bs[j]?=some y:=⟨_,gE hjn⟩
  obtain ⟨z,hz⟩:∃ z,F[j]?=some z:=⟨_,gE (by omega)⟩
  have hac:=Cl he hy
  have hYA:=Di hy
  have hYK:=Ck hy
  have hZ:=FZ hz
  have hzr:=Dk hall j
  rw [hZ] at hzr
  have gC:(tab bs.length (AM bs))[j]?=some (AM bs j):=GU hjn
  rw [hYK] at hjk
  have hyl:y.args.length=1:=by have h:=hac.2.1;unfold AO at h;(repeat' split at h) <;> omega
  obtain ⟨a0,hA0⟩:∃ a,y.args[0]?=some a:=⟨_,gE (by omega)⟩
  have hr0:=hac.2.2 a0 (gM hA0)
  have hg0:Bt y=a0:=by unfold Bt;rw [hA0];rfl
  rw [show Cn ps.length bs.length y.kind=bs.length from if_neg (by omega)] at hr0
  obtain ⟨z0,hz0⟩:∃ z,F[a0.toNat]?=some z:=⟨_,gE (by omega)⟩
  have hZ0:=FZ hz0
  have hzr0:=Dk hall a0.toNat
  rw [hZ0] at hzr0
  have hnx:=Ahi (ps:=ps) (F:=F) hj
  rw [show mv1 bs F j=⟨2,AM bs j,a0,0,z - z0,0,0⟩ by unfold mv1;rw [hYA,hZ,hg0,hZ0]] at hnx
  have hap:=Hb hnx
  have hap2:=Hc hnx
  repeat' (with_reducible first|refine qq ?_|(refine Tx 66 ?_;refine gO xLt ?_)|(refine Tx 67 ?_;refine gO Aaf <| gO WF <| gO xA ?_)|(refine Tx 68 ?_;refine gO xF <| gO xD <| gO xM <| gO Amc <| gO xF <| gO (by first|exact xLi hjm Ak|exact xLi gC Ak|exact xLd Bd) <| gO Qa <| gO WF <| gO xA ?_)|(refine AJ (id:=69) 18 AX (by kernel_rfl) ?_;dsimp only [List.take,List.drop];refine gP xF <| gP xD <| gP xM <| gP xM <| gP Aaf <| gP WF <| gP xM <| gP xM <| gP xM <| gP Aaf <| gP WF <| gP xM <| gP xM <| gP Aaf <| gP WF <| gP xSb <| gP (by exact AC rfl Ez rfl rfl) <| gQ (by exact Bj rfl Bn Ce rfl rfl (by decide) (by decide)) ?_;refine Ke ?_;refine gT (by exact Gx rfl rfl rfl rfl rfl rfl Bn Ce (by omega) (by decide) (by decide) rfl hap hap2) <| gO xF <| gZ UR ?_)|(refine Tx 70 ?_;refine gO xAd <| gO xM ?_))
  exact My
 obtain rfl:t=(dlK bs bs.length).length:=by omega
 clear hlt ht
 rw [←Ahh]
 repeat' (with_reducible first|refine qq ?_|(refine Tx 66 ?_;refine gO xLt ?_)|(refine Tx 71 ?_;refine gO xM <| gO xN <| gO xM ?_))
 refine Bi (BE 10) (Aq (fun n Fr H=>∃ t:Nat,t≤(dlK bs bs.length).length∧n=(dlK bs bs.length).length - t∧Fr=ofL [(1,vd (Ba true F)),(2,vr 0),(4,vr 1),(5,vd (.val .nilIface)),(6,vd (Ba false (BK (BH bs)))),(10,vi bs.length),(11,vr 3),(12,vo 4 bs.length),(13,vo 5 bs.length),(14,vo 6 bs.length),(15,vo 7 ((dlK bs bs.length).length)),(448,vo 7 ((dlK bs bs.length).length)),(449,vi ((dlK bs bs.length).length)),(450,vi ((t:Nat)))]∧H=[.box 26 [.d (Dh true ps),.d (DC true bs),.d (Ba true os)],.box 94 [.d (.val (.slice none 0 0)),.d (.val (.slice none 0 0)),.d (.val (.slice none 0 0)),.d (.val (.slice none 0 0))],.row 3 1 (bs.length+(dlK bs bs.length).length+2*(cpK bs bs.length).length) (cI (Cv bs F)),.box 94 [.d (Dh false ps),.own 2 (bs.length+(dlK bs bs.length).length+2*(cpK bs bs.length).length),.own 9 ((cdC ps bs F (t)).length),.d (.val (.slice none 0 0))],.row 3 1 (bs.length) (cI (tab bs.length (Ed bs F))),.row 3 1 (bs.length) (cI (tab bs.length (GF bs F))),.row 3 1 (bs.length) (cI (tab bs.length (AM bs))),.row 3 1 ((dlK bs bs.length).length) (cI (BK (dlK bs bs.length))),.row 3 1 ((cpK bs bs.length).length) (cI (BK (cpK bs bs.length))),.row 169 7 (cdC ps bs F (t)).length (cD (AN Tg (cdC ps bs F (t))))]) (n0:=(dlK bs bs.length).length) ⟨0,ad _,rfl,rfl,rfl⟩ ?_)
 rintro n Fr H ⟨t,ht,rfl,rfl,rfl⟩
 by_cases hlt:t<(dlK bs bs.length).length
 case pos =>
  obtain ⟨j,hj⟩:∃ j,(dlK bs bs.length)[t]?=some j:=⟨_,gE hlt⟩
  obtain ⟨hjn,hjk,hj3⟩:=PR.1 hj
  have hjm:=Rr hj
  have hAl:=WC (ps:=ps) (bs:=bs) (F:=F) t
  obtain ⟨y,hy⟩:∃ y,bs[j]?=some y:=⟨_,gE hjn⟩
  obtain ⟨z,hz⟩:∃ z,F[j]?=some z:=⟨_,gE (by omega)⟩
  have hac:=Cl he hy
  have hYA:=Di hy
  have hYK:=Ck hy
  have hZ:=FZ hz
  have hzr:=Dk hall j
  rw [hZ] at hzr
  have gC:(tab bs.length (AM bs))[j]?=some (AM bs j):=GU hjn
  rw [hYK] at hjk
  have hyl:y.args.length=1:=by have h:=hac.2.1;unfold AO at h;(repeat' split at h) <;> omega
  obtain ⟨a0,hA0⟩:∃ a,y.args[0]?=some a:=⟨_,gE (by omega)⟩
  have hr0:=hac.2.2 a0 (gM hA0)
  have hg0:Bt y=a0:=by unfold Bt;rw [hA0];rfl
  rw [show Cn ps.length bs.length y.kind=bs.length from if_neg (by omega)] at hr0
  obtain ⟨z0,hz0⟩:∃ z,F[a0.toNat]?=some z:=⟨_,gE (by omega)⟩
  have hZ0:=FZ hz0
  have hzr0:=Dk hall a0.toNat
  rw [hZ0] at hzr0
  have hnx:cdC ps bs F (t+1)=cdC ps bs F t++[⟨2,j,AM bs j,0,0,0,0⟩]:=Ahj hj
  have hap:=Hb hnx
  have hap2:=Hc hnx
  repeat' (with_reducible first|refine qq ?_|(refine Tx 72 ?_;refine gO xLt ?_)|(refine Tx 73 ?_;refine gO Aaf <| gO WF <| gO xA ?_)|(refine AJ (id:=74) 9 AX (by kernel_rfl) ?_;dsimp only [List.take,List.drop];refine gP xF <| gP xD <| gP xM <| gP xM <| gP xM <| gP Aaf <| gP WF <| gP (by exact AC rfl Ez rfl rfl) <| gQ (by exact Bj rfl Bn Ce rfl rfl (by decide) (by decide)) ?_;refine Ke ?_;refine gT (by exact Gx rfl rfl rfl rfl rfl rfl Bn Ce (by omega) (by decide) (by decide) rfl hap hap2) <| gO xF <| gZ UR ?_)|(refine Tx 75 ?_;refine gO xAd <| gO xM ?_))
  exact My
 obtain rfl:t=(dlK bs bs.length).length:=by omega
 clear hlt ht
 rw [WB]
 have hcl8:=WC (ps:=ps) (bs:=bs) (F:=F) (dlK bs bs.length).length
 rw [WB] at hcl8
 have hV4:=hV.trans (cp_4 hle hall hcon)
 repeat' (with_reducible first|refine qq ?_|(refine Tx 72 ?_;refine gO xLt ?_)|(refine Tx 76 ?_;refine gO xF <| gO xD <| gO xN <| gO xM ?_))
 refine Bi (BE 10) (Aq (fun n Fr H=>∃ t:Nat,t≤(Cg ps bs F).length∧n=(Cg ps bs F).length - t∧((Cg ps bs F).take t).all AgE=true∧Fr=ofL [(1,vd (Ba true F)),(2,vr 0),(4,vr 1),(5,vd (.val .nilIface)),(6,vd (Ba false (BK (BH bs)))),(10,vi bs.length),(11,vr 3),(12,vo 4 bs.length),(13,vo 5 bs.length),(14,vo 6 bs.length),(467,vo 9 ((Cg ps bs F).length)),(468,vi ((Cg ps bs F).length)),(469,vi ((t:Nat)))]∧H=[.box 26 [.d (Dh true ps),.d (DC true bs),.d (Ba true os)],.box 94 [.d (.val (.slice none 0 0)),.d (.val (.slice none 0 0)),.d (.val (.slice none 0 0)),.d (.val (.slice none 0 0))],.row 3 1 (bs.length+(dlK bs bs.length).length+2*(cpK bs bs.length).length) (cI (Cv bs F)),.box 94 [.d (Dh false ps),.own 2 (bs.length+(dlK bs bs.length).length+2*(cpK bs bs.length).length),.own 9 ((Cg ps bs F).length),.d (.val (.slice none 0 0))],.row 3 1 (bs.length) (cI (tab bs.length (Ed bs F))),.row 3 1 (bs.length) (cI (tab bs.length (GF bs F))),.row 3 1 (bs.length) (cI (tab bs.length (AM bs))),.row 3 1 ((dlK bs bs.length).length) (cI (BK (dlK bs bs.length))),.row 3 1 ((cpK bs bs.length).length) (cI (BK (cpK bs bs.length))),.row 169 7 (Cg ps bs F).length (cD (AN Tg (Cg ps bs F)))]) (n0:=(Cg ps bs F).length) ⟨0,ad _,rfl,rfl,rfl,rfl⟩ ?_)
 rintro n Fr H ⟨t,ht,rfl,hsh,rfl,rfl⟩
 by_cases hlt:t<(Cg ps bs F).length
 case pos =>
  obtain ⟨x,hx⟩:∃ x,(Cg ps bs F)[t]?=some x:=⟨_,gE hlt⟩
  repeat' (with_reducible first|refine qq ?_|(refine Tx 77 ?_;refine gO xLt ?_)|(refine Tx 78 ?_;refine gO (xIo Bn) <| gO (by first|exact RT rfl rfl (At.row rfl) Fu (AlZ hx) rfl|exact xLa Fu) <| gN (xAl Ce) <| gZ (xSk Fu) ?_))
  by_cases hs:AgE x=true
  case pos =>
   have hs1:=of_decide_eq_true hs
   obtain ⟨q1,q2,q3,q4⟩:=hs1
   repeat' (with_reducible first|refine qq ?_|refine US ?_)
   refine ⟨_,_,BE 10,_,?_,t+1,by omega,rfl,Gr hx hsh hs,rfl,rfl⟩
   ·omega
  case neg =>
   have hV1:Io ps bs os F=3:=hV4.trans (if_neg (fun ha=>hs (List.all_eq_true.1 ha x (gM hx))))
   have hs1:¬ (-62≤x.sa∧x.sa≤30 ∧ -62≤x.sb∧x.sb≤30):=fun h=>hs (decide_eq_true h)
   by_cases c27:x.sa < -62
   case pos =>
    repeat' (with_reducible first|refine qq ?_|refine US ?_)
    exact Qb
   by_cases c245:30<x.sa
   case pos =>
    repeat' (with_reducible first|refine qq ?_|refine US ?_)
    exact Qb
   by_cases c521:x.sb < -62
   case pos =>
    repeat' (with_reducible first|refine qq ?_|refine US ?_)
    exact Qb
   repeat' (with_reducible first|refine qq ?_|refine US ?_)
   exact Qb
 obtain rfl:t=(Cg ps bs F).length:=by omega
 rw [ay] at hsh
 have hV5:=hV4.trans (if_pos hsh)
 repeat' (with_reducible first|refine qq ?_|(refine Tx 77 ?_;refine gO xLt ?_)|(refine Tx 82 ?_;refine gO (by exact Pb rfl Af) <| gO xF <| gO xD <| gO (by exact MW rfl rfl (.inl rfl) rfl (UM _) Af Bz (hl.l3) (by decide) (by decide)) <| gO xF <| gZ Amd ?_)|(refine Tx 83 ?_;refine gO xL <| gZ (xSk Br) <| gO xA ?_))
 skip
 exact Ax rfl (.cons_ (Ug rfl rfl Br rfl (show WA false (Th (Io ps bs os F) ps) (Th (Io ps bs os F) (Cv bs F)) (Th (Io ps bs os F) (Cg ps bs F)) (Th (Io ps bs os F) os)=.agg [Dh false ps,Ba false (Cv bs F),AaG false (Cg ps bs F),Ba false os] by rw [UQ hV5,UQ hV5,UQ hV5,UQ hV5];rfl) (BG rfl rfl (CA rfl (fun _=>Dg.row (Dp Sj _))) (BG rfl rfl (WD rfl rfl hM rfl) (BG rfl rfl (YB rfl rfl rfl fun _=>Dp XP _) (BG rfl rfl (CA rfl (fun _=>XO _)) (CF rfl rfl)))))) (.cons_ (Il rfl hV5) .nil_))
theorem WG (ps:List Prt) (bs:List Bk) (os:List Int) (F:List Int) (hl:FK ps bs os) (hF:F.length≤1000000):CVF prog An 46 [aDg true ps bs os,.one (Ba true F)] [WA false (Th (Io ps bs os F) ps) (Th (Io ps bs os F) (Cv bs F)) (Th (Io ps bs os F) (Cg ps bs F)) (Th (Io ps bs os F) os),aE (Io ps bs os F)] :=
 (Aai ps bs os F hl hF).fresh fun x hx=>by
  simp only [bo,bp,or_false] at hx
  rcases hx with rfl|rfl
  ·exact Aor true ps bs os
  ·exact AkB true F
section
variable {P:Program} {G:World→Prop} {o:Oper} {F:Frm} {H:List Ob}
theorem AiS {m:Mm}:∀ {vs:List Value} {v:Value},EH m (.agg (vs.map fun u=>.d (.val u))) v→v=.agg vs.toArray:=fun {vs v} h=>by
 obtain ⟨xs,rfl,hl⟩:=h
 have:xs=vs:=by
  refine fj fun j=>?_
  have hlen:=hl.1
  rw [af] at hlen
  cases hj:vs[j]? with
  | none =>
   rw [ji] at hj ⊢
   omega
  | some u =>
   have hlt:=(gS.1 hj).1
   obtain ⟨x,hx⟩:∃ x,xs[j]?=some x:=⟨_,gE (by omega)⟩
   have h1:=hl.2 j (.d (.val u)) x (by simp [hj]) hx
   have h2:Bh m.w m.S (.val u) x:=h1
   cases h2
   exact hx
 rw [this]
theorem Ame {t t':TypeId} {x y:Operand} {b r:Bool} {op:BinOp} {xs ys:List Value} (ho:o.op=.binOp op t x y t') (hg:P.eqGuardType P.depth t=false) (hop:(op=.eql∧b=r)∨(op=.neq∧b=!r)) (hx:F.ev x=.agg (xs.map fun u=>.d (.val u))) (hy:F.ev y=.agg (ys.map fun u=>.d (.val u)))
  (he:∀ w,(Op.equalIn 10000 t (.agg xs.toArray) (.agg ys.toArray)).run P w=.ok r w):Bb P G o F H (.one (.d (.val (.bool b)))) []:=Cc fun b0 m a _ _ hor=>by
 have ex:=AiS (m:=m) (v:=a.eval x) (by rw [←hx];exact Bg hor (by rw [ho];simp [Op.operands]))
 have ey:=AiS (m:=m) (v:=a.eval y) (by rw [←hy];exact Bg hor (by rw [ho];simp [Op.operands]))
 refine ⟨.bool b,?_,Bh.val rfl⟩
 unfold execOp
 simp only [ho,ex,ey]
 rw [aj]
 have h:((do eqGuard op t x y (.agg xs.toArray) (.agg ys.toArray);binOp op t (.agg xs.toArray) (.agg ys.toArray)):Sem Value).run P m.w=.ok (.bool b) m.w:=by
  rw [aj,run_eqGuard_agg m.w op t x y _ _ hg,av]
  rcases hop with ⟨rfl,rfl⟩|⟨rfl,rfl⟩
  ·rw [run_eql_struct,he,av]
  ·rw [run_neq_struct,he,av]
 rw [h]
 rfl
end
theorem WJ {t t':Bool} {s:Nat} {cs ds:List D} (h:AV TEq cs ds):TEq (.row t s n cs) (.row t' s n ds):=.row h.1 h.2
theorem Aeh (l:List D):AV TEq l l:=⟨rfl,fun j a b h1 h2=>by rw [h1] at h2;cases h2;exact TEq.refl a⟩
theorem Amf (t t':Bool) (xs:List Int):TEq (Ba t xs) (Ba t' xs):=WJ (Aeh _)
theorem Asn (t t':Bool) (ps:List Prt):TEq (Dh t ps) (Dh t' ps):=WJ (Aeh _)
theorem YH {α β:Type} {R:α→β→Prop}:∀ {a:List α} {b:List β} {c:List α} {d:List β},AV R a b→AV R c d→AV R (a++c) (b++d)
 | [],b,c,d,h,k=>by rw [h.unnil];exact k
 | x::a,b,c,d,h,k=>by
  obtain ⟨y,b',rfl,h1,h2⟩:=h.uncons
  exact .cons_ h1 (YH h2 k)
theorem YI {α:Type} {f g:α→List D} (h:∀ x,AV TEq (f x) (g x)):∀ l:List α,AV TEq (AN f l) (AN g l)
 | []=>.nil_
 | x::l=>by
  show AV TEq (AN f ([x]++l)) (AN g ([x]++l))
  rw [EU,EU]
  refine YH ?_ (YI h l)
  show AV TEq (([x].map f).flatten) (([x].map g).flatten)
  simpa using h x
theorem Aso (t t':Bool) (bs:List Bk):TEq (DC t bs) (DC t' bs):=WJ (YI (fun b=>.cons_ (.val _) (.cons_ (Amf t t' _) (.cons_ (.val _) (.cons_ (.val _) (.cons_ (.val _) (.cons_ (.val _) .nil_)))))) bs)
theorem Aqk (t t':Bool) (ps:List Prt) (bs:List Bk) (os:List Int):AEq (aDg t ps bs os) (aDg t' ps bs os):=.agg (.cons_ (Asn t t' ps) (.cons_ (Aso t t' bs) (.cons_ (Amf t t' os) .nil_)))
theorem Aei (t u:Bool) {ps:List Prt} {bs:List Bk} {os F:List Int} (hl:FK ps bs os) (hF:F.length≤1000000):CV prog An 46 [aDg t ps bs os,.one (Ba u F)] [WA false (Th (Io ps bs os F) ps) (Th (Io ps bs os F) (Cv bs F)) (Th (Io ps bs os F) (Cg ps bs F)) (Th (Io ps bs os F) os),aE (Io ps bs os F)] :=
 (WG ps bs os F hl hF).tags (.cons_ (Aqk t true ps bs os) (.cons_ (.one (Amf u true F)) .nil_))
end Go.Proofs.YtmdfjbpggbhgnaaGreatDoor
