/- What the proofs of this claim share, part 14. No conditions. -/
import Derived.Test.YtjlkgfeepocjfaaGreatDoorMk11
import Derived.Test.YtjlkgfeepocjfaaGreatDoorMk12
import Derived.Test.YtjlkgfeepocjfaaGreatDoorMk13
set_option maxRecDepth 100000
set_option maxHeartbeats 4000000
set_option linter.all false
open Go.Proofs.Tryz
namespace Go.Proofs.YtjlkgfeepocjfaaGreatDoor
open Go.RowKit
variable {n:Nat} {p:Prop}
def Bj (n:Nat):Nat:=if n=0 then 0 else n.log2+1
theorem XP (n:Nat):n<2 ^ Bj n:=by
 unfold Bj
 split
 ·omega
 ·rename_i h
  exact (Nat.log2_lt h).1 (jn _)
theorem Dj {k:Nat}:Bj n≤k ↔ n<2 ^ k:=by
 unfold Bj
 split
 ·rename_i h
  subst h
  exact ⟨fun _=>bd k,fun _=>ad _⟩
 ·rename_i h
  rw [←Nat.log2_lt h]
  omega
theorem Oo {k:Nat} (h1:n<2 ^ k) (h2:k≠0→2 ^ (k - 1)≤n):Bj n=k:=by
 have a:=Dj.2 h1
 rcases cw (Bj n) k with h|h
 ·have h3:=h2 (by omega)
  have h4:=(Dj (n:=n) (k:=k - 1)).1 (by omega)
  omega
 ·omega
theorem Uk:∀ (k x:Nat),x<2 ^ k→k≤64→Lib.bitLen x=Bj x
 | 0,x,h,_=>by
  have:x=0:=by simpa using h
  subst this
  rfl
 | k+1,x,h,hk=>by
  by_cases h0:x=0
  ·subst h0;rfl
  ·have h64:x<2 ^ 64:=al h (au (by decide) hk)
   rw [Lib.bitLen_half x h0 h64,Uk k (x / 2) (by rw [bj] at h;omega) (by omega)]
   symm
   refine Oo ?_ fun _=>?_
   ·have:=XP (x / 2)
    rw [bi,Nat.pow_one]
    omega
   ·rw [Nat.add_sub_cancel_left]
    by_cases h2:x / 2=0
    ·rw [h2];show 2 ^ 0≤x;omega
    ·have h5:¬ Bj (x / 2)≤Bj (x / 2) - 1:=by unfold Bj;rw [if_neg h2];omega
     rw [Dj] at h5
     obtain ⟨m,hm⟩:∃ m,Bj (x / 2)=m+1:=⟨Bj (x / 2) - 1,by unfold Bj;rw [if_neg h2];omega⟩
     rw [hm] at h5 ⊢
     rw [Nat.add_sub_cancel] at h5
     rw [bj]
     omega
theorem Agd (x:Nat) (hx:x<4294967296):CVF prog Ah 222 [.one (dW x)] [aI (Bj x:Nat)]:=fun w S vs hg hlt ha=>by
 obtain ⟨u,hu,h1⟩:=BM ha
 subst hu
 cases h1
 refine (AcG x w (by omega) (by omega)).mono fun r w' ⟨he,hw⟩=>?_
 subst hw
 refine ⟨_,he,?_,ab _ _⟩
 rw [ap,Uk 32 x (by simpa using hx) (by decide)]
 exact Bx.val rfl
theorem QU (h:n≠0):∃ p L,(Ac n).length=L+1∧(Ac n)[L]?=some p∧p≠0∧p<4294967296∧p=n / 4294967296 ^ L:=by
 obtain ⟨L,hL⟩:∃ L,(Ac n).length=L+1:=⟨(Ac n).length - 1,by have:=Cy h;omega⟩
 obtain ⟨p,hp⟩:∃ p,(Ac n)[L]?=some p:=⟨_,gE (by omega)⟩
 have h1:=Oz h
 rw [hL,Nat.add_sub_cancel,hp] at h1
 have h2:=AE n p (gM hp)
 refine ⟨p,L,hL,hp,h1,h2,?_⟩
 have h3:=Bb (Ac n) L
 rw [show (Ac n).take (L+1)=Ac n from aj (by omega),Ao,hp] at h3
 have h4:=BO (ws:=(Ac n).take L) (fun z hz=>AE n z (fe hz))
 rw [em,ff (by omega)] at h4
 simp only [bf] at h3
 rw [h3,ij _ _ (Nat.pos_of_ne_zero (by intro hz;rw [hz] at h4;omega)),fv h4,av]
theorem ZO {p L:Nat} (hp:p=n / 4294967296 ^ L) (h0:p≠0):Bj n=32*L+Bj p:=by
 have e:(4294967296:Nat) ^ L=2 ^ (32*L):=by rw [dt]
 rw [e] at hp
 refine Oo ?_ fun _=>?_
 ·have h1:=XP p
  rw [bi]
  have h2:n / 2 ^ (32*L)<2 ^ Bj p:=hp ▸ h1
  rw [il (bd _)] at h2
  rw [aw]
  exact h2
 ·obtain ⟨m,hm⟩:∃ m,Bj p=m+1:=⟨Bj p - 1,by unfold Bj;rw [if_neg h0];omega⟩
  have h5:¬ Bj p≤m:=by omega
  rw [Dj] at h5
  have h6:¬ n / 2 ^ (32*L)<2 ^ m:=hp ▸ h5
  rw [il (bd _)] at h6
  rw [hm,show 32*L+(m+1) - 1=m+32*L by omega,bi]
  omega
section
variable {P:Program} {G:World→Prop} {o:Oper} {F:Frm} {H:List Ob}
theorem Age {t t':TypeId} {x y:Operand} {p q r:Int} (ho:o.op=.binOp .and t x y t') (hx:F.ev x=.one (.d (.val (.int .u32 p)))) (hy:F.ev y=.one (.d (.val (.int .u32 q)))) (hr:bits .and .u32 p q=r):AZ P G o F H (.one (.d (.val (.int .u32 r)))) []:=by
 subst hr
 refine Dv ho hx hy (fun w=>?_) rfl
 simp [eqGuard,binOp,intBits_and]
theorem Alz {t t':TypeId} {x y:Operand} {k k':IntKind} {p:Nat} {r:Int} (ho:o.op=.binOp .shr t x y t') (hx:F.ev x=.one (.d (.val (.int k (p:Int))))) (hy:F.ev y=.one (.d (.val (.int k' (n:Int))))) (hn:n≤k.bits) (hr:(p:Int) / 2 ^ n=r):AZ P G o F H (.one (.d (.val (.int k r)))) []:=by
 subst hr
 refine Dv ho hx hy (fun w=>?_) rfl
 have h1:¬ ((n:Int)<0):=by omega
 have e:(p:Int).fdiv (2 ^ n)=(p:Int) / 2 ^ n:=Int.fdiv_eq_ediv_of_nonneg _ (bg (ga (by decide)))
 simp [eqGuard,binOp,Op.shift,h1,ff hn,e]
end
structure Rv where
 nb:Bool
 ws:List Nat
 den:Int
def Rv.rw (r:Rv):Rw:=⟨r.nb,none,r.ws,0,r.den⟩
def dRv (t:Bool) (r:Rv):List D:=[.val (.bool r.nb),.row t 1 r.ws.length (r.ws.map dW),.val (.int .i64 r.den)]
def aRv (t:Bool) (r:Rv):A:=.agg (dRv t r)
theorem AoO {w:World} {S:EN} {t:Bool} {r:Rv} {v:Value} (h:Ft w S (aRv t r) v) (hS:∀ t b,S t b→b<w.heap.size) (hw:Av r.ws):∃ A c,v=(⟨r.nb,A,r.ws,c,r.den⟩:Rw).val∧ArJ w w.heap.size ⟨r.nb,A,r.ws,c,r.den⟩:=by
 obtain ⟨xs,rfl,h1⟩:=h
 obtain ⟨a,l1,rfl,ha,h2⟩:=h1.uncons
 obtain ⟨b,l2,rfl,hb,h3⟩:=h2.uncons
 obtain ⟨c,l3,rfl,hc,h4⟩:=h3.uncons
 rw [h4.unnil]
 cases ha
 cases hc
 obtain ⟨A,c,rfl,q1,q2,q3,_⟩:=Ok hb hS rfl
 exact ⟨A,c,rfl,q1,q2,q3,hw⟩
section
variable {G:World→Prop}
theorem Pr (t:Bool) (r:Rv) (hw:Av r.ws) (hl:r.ws.length≤1000000):CVF prog G 58 [aRv t r] [aB (vdB r.rw)]:=fun w S vs hg hlt ha=>by
 obtain ⟨u,hu,h1⟩:=BM ha
 subst hu
 obtain ⟨A,c,rfl,hat⟩:=AoO h1 hlt hw
 exact (ZM _ _ w (aa _) hat hl).mono fun r w' ⟨he,hb⟩=>⟨_,he,Bx.val rfl,hb⟩
theorem Ul (t:Bool) (r:Rv) (hw:Av r.ws) (hl:r.ws.length≤1000000):CVF prog G 163 [aRv t r] [aB (vdB r.rw)]:=fun w S vs hg hlt ha=>by
 obtain ⟨u,hu,h1⟩:=BM ha
 subst hu
 obtain ⟨A,c,rfl,hat⟩:=AoO h1 hlt hw
 exact (ZN _ _ w (aa _) hat hl).mono fun r w' ⟨he,hb⟩=>⟨_,he,Bx.val rfl,hb⟩
end
theorem Wg {t:Bool} {r:Rv} (hw:Av r.ws) (hv:vdB r.rw=true):dRv t r=dDy t r.rw.x r.rw.d∧Nf r.rw.x r.rw.d∧(Ac r.rw.x.natAbs).length=r.ws.length:=by
 have hc:Ac r.rw.x.natAbs=r.ws:=by rw [Aly];exact Agc (r:=r.rw) hw hv
 have hP:vdP r.rw:=of_decide_eq_true hv
 have key:r.nb=decide (r.rw.x<0)∧r.den=((r.rw.d:Nat):Int)∧Nf r.rw.x r.rw.d:=by
  by_cases h0:r.ws.length=0
  ·obtain ⟨h1,h2⟩:=(Agb (r:=r.rw) h0).1 hP
   have hx:r.rw.x=0:=by
    have:=Aly r.rw
    rw [show r.rw.ws=[] from bz h0] at this
    have hz:AH []=0:=rfl
    omega
   have h1':r.nb=false:=h1
   have h2':r.den=0:=h2
   have hd:r.rw.d=0:=by show r.den.toNat=0;rw [h2'];rfl
   rw [hx,hd,h1',h2']
   exact ⟨rfl,rfl,by decide,fun h=>absurd rfl h⟩
  ·obtain ⟨h1,h2,h3,h4⟩:=(AcF (r:=r.rw) h0).1 hP
   have h2':0≤r.den:=h2
   have h3':r.den≤65536:=h3
   have hd:((r.rw.d:Nat):Int)=r.den:=Int.toNat_of_nonneg h2'
   have hpos:AH r.ws≠0:=fun hz=>by
    rw [Aly,show r.rw.ws=r.ws from rfl,hz,AK] at hc
    rw [←hc] at h0
    exact h0 rfl
   have hodd:r.rw.d≠0→AH r.ws % 2=1:=fun hne=>by
    rcases h4 with h|h
    ·have h':r.den=0:=h
     omega
    ·have h':r.ws[0]?.getD 0 % 2=1:=h
     have:=Ig hw 0
     simp only [Nat.pow_zero,Nat.div_one,Nat.zero_div,Nat.zero_mod] at this
     omega
   have hx:r.rw.x=sg r.nb (AH r.ws):=rfl
   refine ⟨?_,hd.symm,by omega,fun hne=>?_⟩
   ·rw [hx]
    unfold sg
    cases r.nb
    ·simp
    ·simp;omega
   ·have:=hodd hne
    rw [hx]
    unfold sg
    split <;> omega
 obtain ⟨k1,k2,k3⟩:=key
 refine ⟨?_,k3,by rw [hc]⟩
 unfold dRv dDy wds
 rw [hc,←k1,←k2,VV]
theorem Agf {x k:Nat} (hx:x<2 ^ (k+1)) (hm:x / 2 ^ k % 2=0):x<2 ^ k:=by
 have h1:x / 2 ^ k<2:=(il (bd _)).2 (by rw [bj] at hx;omega)
 have h2:x / 2 ^ k=0:=by generalize x / 2 ^ k=q at *;omega
 rcases Nat.div_eq_zero_iff.1 h2 with h|h
 ·have:=bd k;omega
 ·exact h
theorem AoP {x k:Nat} (hm:x / 2 ^ k % 2=1):2 ^ (k+1 - 1)≤x:=by
 rw [Nat.add_sub_cancel]
 have h1:1≤x / 2 ^ k:=by generalize x / 2 ^ k=q at *;omega
 have h2:=(Nat.le_div_iff_mul_le (bd k)).1 h1
 omega
theorem AcH {ds:List D}:∀ c∈ds.map C.d,C.bel n c:=fun c hc=>by
 obtain ⟨d,_,rfl⟩:=List.mem_map.1 hc
 trivial
def Um (a d:Nat):Bool:=decide (4096<max (Bj a) d)
theorem Agg (a:Nat) (l1:(Ac a).length≤200000):CV prog Ah 208 [.one (Iu false a)] [aI (Bj a:Nat)]:=by
 refine cvz func208 ntmps208 ?_
 by_cases h0:a=0
 case pos =>
  subst h0
  have l0:((Ac 0).length:Int)=0:=by rw [AK];rfl
  rw [show Bj 0=0 from rfl]
  repeat' (with_reducible first|refine qq ?_|(refine Tx 0 ?_;refine gO xA ?_)|(refine Tx 1 ?_;refine gO xM <| gO xN <| gO xEq ?_)|(refine Tx 2 ?_;refine gO xA ?_))
  exact Au rfl (.cons_ (Lw rfl rfl) .nil_)
 obtain ⟨p,L,hL,hp,p0,hp1,hpd⟩:=QU h0
 have hi:((Ac a).length:Int)=(L:Int)+1:=by omega
 have LN:=Agd p hp1
 have hx2:=QP hp
 have hb:=ZO hpd p0
 have e1:((Ac a).length:Int) - 1=(L:Int):=by omega
 rw [hb]
 have hq:Bj p≤32:=Dj.2 (by simpa using hp1)
 repeat' (with_reducible first|refine qq ?_|(refine Tx 0 ?_;refine gO xA ?_)|(refine Tx 1 ?_;refine gO xM <| gO xN <| gO xEq ?_)|(refine Tx 3 ?_;refine gO xM <| gO xN <| gO xSb <| gO (by exact Md rfl rfl rfl (by omega)) <| gO xM <| gO xM <| gO xN <| gO xSb <| gO (by exact DG (i:=L) rfl rfl rfl (by omega) AN (by omega) (by decide) (hx2)) <| gO xD <| gO (xCl func222 (LN.cv)) <| gO xAd <| gO xA ?_))
 exact Au rfl (.cons_ (.tmp (.one (by rw [show 32*(((Ac a).length:Int) - 1)+((Bj p:Nat):Int)=((32*L+Bj p:Nat):Int) by omega];exact Bi rfl fun h=>.val _))) .nil_)
theorem Oq (x:Int) (dx:Nat) (hnx:Nf x dx) (lx:(Ac x.natAbs).length≤40000):CV prog Ah 126 [aDy false x dx] [aI (Bj x.natAbs:Nat)]:=by
 refine cvz func126 ntmps126 ?_
 have PX:=FH (G:=Ah) x dx hnx (lT lx (by decide))
 have NB:=Agg x.natAbs (by omega)
 repeat' (with_reducible first|refine qq ?_|(refine Tx 0 ?_;refine gN xBo <| gO xA ?_)|(refine Tx 1 ?_;refine gO xL <| gO (xCl func71 (PX)) <| gO xMt <| gO xEx <| gO xEx <| gO xEx <| gO xA <| gO xA <| gO xA ?_)|(refine Tx 2 ?_;refine gO xM <| gO (xCl func208 (NB)) <| gO xA ?_))
 exact Au rfl (.cons_ (Lw rfl rfl) .nil_)
theorem AoQ {p':Prop} (k:p') (h:Hd9 p'→p:=by with_reducible first|(intro Z9;refine Tx 3 ?_;refine gO xM <| gO xGt <| gO xM ?_;(first|iterate 14 refine Jd ?_|(refine Jy (xFa EZ BQ) ?_;refine Jy (xLd BQ) ?_;refine Jy xM1 ?_;refine Jy xSb ?_;refine Jy (by first|exact Acr rfl rfl rfl (by decide) hq|exact Abl rfl rfl rfl (by omega)) ?_;refine Jy (by exact DG (i:=k / 32) rfl rfl rfl rfl BK (by omega) (by decide) (hx2)) ?_;refine Jy (xLd Cg) ?_;refine Jy xM1 ?_;refine Jy xSb ?_;refine Jy (by first|exact Ez rfl underlying3 underlying149 rfl hc|exact Fg rfl underlying3 underlying149 rfl) ?_;refine Jy (by first|exact Acs rfl rfl rfl (by decide) hr|exact Abm rfl rfl rfl (by omega)) ?_;refine Jy (by exact Alz (n:=k % 32) rfl rfl rfl hs32 rfl) ?_;refine Jy (by exact Age rfl rfl rfl hbit) ?_;refine Jy xEq ?_));refine gO xPk ?_;exact Z9.o)|fail):p:=h ⟨k⟩
theorem AoR (h:p:=by
 rw [hb]
 repeat' (with_reducible first|refine qq ?_|refine AoQ ?_|(refine Tx 5 ?_;refine gO xM <| gO xA ?_))
 exact Au rfl (.cons_ (Lw rfl rfl) .nil_)):p:=h
theorem Agh (x:Int) (dx:Nat) (hnx:Nf x dx) (lx:(Ac x.natAbs).length≤40000):CV prog Ah 216 [aDy false x dx] [aI (Bj x.natAbs:Nat)]:=by
 refine cvz func216 ntmps216 ?_
 have NM:=Pj Ah x dx hnx (by omega)
 have hok:=AE x.natAbs
 have hlt0:x.natAbs<2 ^ (32*(Ac x.natAbs).length):=by have:=BO hok;rw [Ao] at this;rw [dt];exact this
 repeat' (with_reducible first|refine qq ?_|(refine Tx 0 ?_;refine gN xBo <| gO xA ?_)|(refine Tx 1 ?_;refine gO xL <| gO (xCl func76 (NM)) <| gZ (xSk Aa) ?_)|(refine Tx 2 ?_;refine gO xF <| gO xD <| gO xN <| gO (by exact Md rfl rfl rfl (by omega)) <| gO xA ?_))
 refine AJ (Be 1 (h:=by rw [show ((32*(Ac x.natAbs).length:Nat):Int)=32*(((Ac x.natAbs).length:Nat):Int) by omega];exact mB rfl rfl)) (Al (fun n Fr H=>∃ k:Nat,k≤32*(Ac x.natAbs).length∧n=k∧x.natAbs<2 ^ k∧Fr=ofL [(1,vr 0),(3,vi (((k:Nat):Int)))]∧H=[.box 43 ((dDy false x dx).map C.d)]) (n0:=32*(Ac x.natAbs).length) ⟨32*(Ac x.natAbs).length,aa _,rfl,hlt0,rfl,rfl⟩ ?_)
 rintro n Fr H ⟨k,hk,rfl,hx,rfl,rfl⟩
 by_cases h0:n=0
 case pos =>
  subst h0
  have hb:Bj x.natAbs=0:=Oo hx (fun h=>absurd rfl h)
  exact AoR
 obtain ⟨k,rfl⟩:∃ k,n=k+1:=⟨n - 1,by omega⟩
 have hkL:k / 32<(Ac x.natAbs).length:=by omega
 obtain ⟨p,hp⟩:∃ p,(Ac x.natAbs)[k / 32]?=some p:=⟨_,gE hkL⟩
 have hp1:=hok p (gM hp)
 have hx2:=QP hp
 have hbit:bits .and .u32 ((p:Int) / 2 ^ (k % 32)) 1=((x.natAbs / 2 ^ k % 2:Nat):Int):=by rw [Vs hp1];have h1:=Ig hok k;rw [hp,Ao] at h1;simp only [bf] at h1;omega
 have hs32:k % 32≤IntKind.u32.bits:=by have:=eo k (show 0<32 by decide);show k % 32≤32;omega
 have hk1:((k+1:Nat):Int) - 1=((k:Nat):Int):=by omega
 have hq:IntKind.i64.wrap ((((k+1:Nat):Int) - 1).tdiv 32)=((k / 32:Nat):Int):=by rw [hk1,Int.tdiv_eq_ediv_of_nonneg (by omega),gp];omega
 have hc:IntKind.u64.wrap (((k+1:Nat):Int) - 1)=((k:Nat):Int):=by rw [hk1,fh];omega
 have hr:((k:Nat):Int).tmod 32=((k % 32:Nat):Int):=by rw [Int.tmod_eq_emod_of_nonneg (by omega)];omega
 rcases Nat.mod_two_eq_zero_or_one (x.natAbs / 2 ^ k) with hm|hm
 case inl =>
  rw [hm] at hbit
  repeat' (with_reducible first|refine qq ?_|refine AoQ ?_|(refine Tx 4 ?_;refine gO xM <| gO xSb <| gO xA ?_))
  exact ⟨_,_,Gw [(1,vr 0),(3,vi (((k:Nat):Int)))] 1 rfl (by rw [←hk1];exact mB rfl rfl) ⟨AcH,trivial⟩,_,jn k,k,by omega,rfl,Agf hx hm,rfl,rfl⟩
 rw [hm] at hbit
 have hb:Bj x.natAbs=k+1:=Oo hx (fun _=>AoP hm)
 exact AoR
theorem AoS {p':Prop} (k:p') (h:Hd9 p'→p:=by with_reducible first|(intro Z9;refine qq ?_;exact Z9.o)|(intro Z9;refine Tx 0 ?_;refine gN xBo <| gO xA ?_;exact Z9.o)|(intro Z9;refine Bl (id:=1) AC (by kernel_rfl) ?_;refine gP xL <| gP (xCl func216 (BT)) <| gP xF <| gP xD <| gP (by first|exact Acv rfl rfl rfl hm|exact Lr rfl rfl rfl) <| gP xGt <| gP xA ?_;refine Ke ?_;exact Z9.o)|fail):p:=h ⟨k⟩
theorem XQ (x:Int) (dx:Nat) (hnx:Nf x dx) (lx:(Ac x.natAbs).length≤40000):CV prog Ah 180 [aDy false x dx] [aB (Um x.natAbs dx)]:=by
 refine cvz func180 ntmps180 ?_
 have BT:=Agh x dx hnx lx
 have hm:max ((Bj x.natAbs:Nat):Int) (dx:Int)=((max (Bj x.natAbs) dx:Nat):Int):=by omega
 unfold Um
 by_cases hl:4096<max (Bj x.natAbs) dx
 case pos =>
  rw [show decide (4096<max (Bj x.natAbs) dx)=true from decide_eq_true hl]
  repeat' (with_reducible first|refine AoS ?_)
  exact Au rfl (.cons_ (Db rfl rfl) .nil_)
 case neg =>
  rw [show decide (4096<max (Bj x.natAbs) dx)=false from decide_eq_false hl]
  repeat' (with_reducible first|refine AoS ?_)
  exact Au rfl (.cons_ (Db rfl rfl) .nil_)
end Go.Proofs.YtjlkgfeepocjfaaGreatDoor
