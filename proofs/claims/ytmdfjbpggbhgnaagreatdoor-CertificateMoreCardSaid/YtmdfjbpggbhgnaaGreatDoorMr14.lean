/- What the proofs of this claim share, part 14. No conditions. -/
import Derived.Test.YtmdfjbpggbhgnaaGreatDoorMr11
import Derived.Test.YtmdfjbpggbhgnaaGreatDoorMr12
import Derived.Test.YtmdfjbpggbhgnaaGreatDoorMr13
set_option maxRecDepth 100000
set_option maxHeartbeats 4000000
set_option linter.all false
open Go.Proofs.Tryz
namespace Go.Proofs.YtmdfjbpggbhgnaaGreatDoor
open Go.RowKit
variable {n:Nat} {p:Prop}
def Bl (n:Nat):Nat:=if n=0 then 0 else n.log2+1
theorem VX (n:Nat):n<2 ^ Bl n:=by
 unfold Bl
 split
 ·omega
 ·rename_i h
  exact (Nat.log2_lt h).1 (kg _)
theorem Dl {k:Nat}:Bl n≤k ↔ n<2 ^ k:=by
 unfold Bl
 split
 ·rename_i h
  subst h
  exact ⟨fun _=>ax k,fun _=>ad _⟩
 ·rename_i h
  rw [←Nat.log2_lt h]
  omega
theorem MD {k:Nat} (h1:n<2 ^ k) (h2:k≠0→2 ^ (k - 1)≤n):Bl n=k:=by
 have a:=Dl.2 h1
 rcases cn (Bl n) k with h|h
 ·have h3:=h2 (by omega)
  have h4:=(Dl (n:=n) (k:=k - 1)).1 (by omega)
  omega
 ·omega
theorem SE:∀ (k x:Nat),x<2 ^ k→k≤64→Lib.bitLen x=Bl x
 | 0,x,h,_=>by
  have:x=0:=by simpa using h
  subst this
  rfl
 | k+1,x,h,hk=>by
  by_cases h0:x=0
  ·subst h0;rfl
  ·have h64:x<2 ^ 64:=aj h (ap (by decide) hk)
   rw [Lib.bitLen_half x h0 h64,SE k (x / 2) (by rw [bg] at h;omega) (by omega)]
   symm
   refine MD ?_ fun _=>?_
   ·have:=VX (x / 2)
    rw [bd,Nat.pow_one]
    omega
   ·rw [Nat.add_sub_cancel_left]
    by_cases h2:x / 2=0
    ·rw [h2];show 2 ^ 0≤x;omega
    ·have h5:¬ Bl (x / 2)≤Bl (x / 2) - 1:=by unfold Bl;rw [if_neg h2];omega
     rw [Dl] at h5
     obtain ⟨m,hm⟩:∃ m,Bl (x / 2)=m+1:=⟨Bl (x / 2) - 1,by unfold Bl;rw [if_neg h2];omega⟩
     rw [hm] at h5 ⊢
     rw [Nat.add_sub_cancel] at h5
     rw [bg]
     omega
theorem Adx (x:Nat) (hx:x<4294967296):CVF prog Ah 257 [.one (dW x)] [aI (Bl x:Nat)]:=fun w S vs hg hlt ha=>by
 obtain ⟨u,hu,h1⟩:=BB ha
 subst hu
 cases h1
 refine (Aak x w (by omega) (by omega)).mono fun r w' ⟨he,hw⟩=>?_
 subst hw
 refine ⟨_,he,?_,ab _ _⟩
 rw [am,SE 32 x (by simpa using hx) (by decide)]
 exact Br.val rfl
theorem PA (h:n≠0):∃ p L,(Ab n).length=L+1∧(Ab n)[L]?=some p∧p≠0∧p<4294967296∧p=n / 4294967296 ^ L:=by
 obtain ⟨L,hL⟩:∃ L,(Ab n).length=L+1:=⟨(Ab n).length - 1,by have:=Cj h;omega⟩
 obtain ⟨p,hp⟩:∃ p,(Ab n)[L]?=some p:=⟨_,gE (by omega)⟩
 have h1:=MW h
 rw [hL,Nat.add_sub_cancel,hp] at h1
 have h2:=Ay n p (gM hp)
 refine ⟨p,L,hL,hp,h1,h2,?_⟩
 have h3:=AZ (Ab n) L
 rw [show (Ab n).take (L+1)=Ab n from al (by omega),Am,hp] at h3
 have h4:=BE (ws:=(Ab n).take L) (fun z hz=>Ay n z (en hz))
 rw [ef,eo (by omega)] at h4
 simp only [bh] at h3
 rw [h3,ig _ _ (Nat.pos_of_ne_zero (by intro hz;rw [hz] at h4;omega)),fk h4,bo]
theorem XB {p L:Nat} (hp:p=n / 4294967296 ^ L) (h0:p≠0):Bl n=32*L+Bl p:=by
 have e:(4294967296:Nat) ^ L=2 ^ (32*L):=by rw [dp]
 rw [e] at hp
 refine MD ?_ fun _=>?_
 ·have h1:=VX p
  rw [bd]
  have h2:n / 2 ^ (32*L)<2 ^ Bl p:=hp ▸ h1
  rw [ij (ax _)] at h2
  rw [aq]
  exact h2
 ·obtain ⟨m,hm⟩:∃ m,Bl p=m+1:=⟨Bl p - 1,by unfold Bl;rw [if_neg h0];omega⟩
  have h5:¬ Bl p≤m:=by omega
  rw [Dl] at h5
  have h6:¬ n / 2 ^ (32*L)<2 ^ m:=hp ▸ h5
  rw [ij (ax _)] at h6
  rw [hm,show 32*L+(m+1) - 1=m+32*L by omega,bd]
  omega
section
variable {P:Program} {G:World→Prop} {o:Oper} {F:Frm} {H:List Ob}
theorem Ady {t t':TypeId} {x y:Operand} {p q r:Int} (ho:o.op=.binOp .and t x y t') (hx:F.ev x=.one (.d (.val (.int .u32 p)))) (hy:F.ev y=.one (.d (.val (.int .u32 q)))) (hr:bits .and .u32 p q=r):AN P G o F H (.one (.d (.val (.int .u32 r)))) []:=by
 subst hr
 refine Da ho hx hy (fun w=>?_) rfl
 simp [eqGuard,binOp,intBits_and]
theorem Aiv {t t':TypeId} {x y:Operand} {k k':IntKind} {p:Nat} {r:Int} (ho:o.op=.binOp .shr t x y t') (hx:F.ev x=.one (.d (.val (.int k (p:Int))))) (hy:F.ev y=.one (.d (.val (.int k' (n:Int))))) (hn:n≤k.bits) (hr:(p:Int) / 2 ^ n=r):AN P G o F H (.one (.d (.val (.int k r)))) []:=by
 subst hr
 refine Da ho hx hy (fun w=>?_) rfl
 have h1:¬ ((n:Int)<0):=by omega
 have e:(p:Int).fdiv (2 ^ n)=(p:Int) / 2 ^ n:=Int.fdiv_eq_ediv_of_nonneg _ (bf (gq (by decide)))
 simp [eqGuard,binOp,Op.shift,h1,eo hn,e]
end
structure Rv where
 nb:Bool
 ws:List Nat
 den:Int
def Rv.rw (r:Rv):Rw:=⟨r.nb,none,r.ws,0,r.den⟩
def dRv (t:Bool) (r:Rv):List D:=[.val (.bool r.nb),.row t 1 r.ws.length (r.ws.map dW),.val (.int .i64 r.den)]
def aRv (t:Bool) (r:Rv):A:=.agg (dRv t r)
theorem AlX {w:World} {S:Eh} {t:Bool} {r:Rv} {v:Value} (h:EM w S (aRv t r) v) (hS:∀ t b,S t b→b<w.heap.size) (hw:Ar r.ws):∃ A c,v=(⟨r.nb,A,r.ws,c,r.den⟩:Rw).val∧AoW w w.heap.size ⟨r.nb,A,r.ws,c,r.den⟩:=by
 obtain ⟨xs,rfl,h1⟩:=h
 obtain ⟨a,l1,rfl,ha,h2⟩:=h1.uncons
 obtain ⟨b,l2,rfl,hb,h3⟩:=h2.uncons
 obtain ⟨c,l3,rfl,hc,h4⟩:=h3.uncons
 rw [h4.unnil]
 cases ha
 cases hc
 obtain ⟨A,c,rfl,q1,q2,q3,_⟩:=Mx hb hS rfl
 exact ⟨A,c,rfl,q1,q2,q3,hw⟩
section
variable {G:World→Prop}
theorem NV (t:Bool) (r:Rv) (hw:Ar r.ws) (hl:r.ws.length≤1000000):CVF prog G 123 [aRv t r] [aB (vdB r.rw)]:=fun w S vs hg hlt ha=>by
 obtain ⟨u,hu,h1⟩:=BB ha
 subst hu
 obtain ⟨A,c,rfl,hat⟩:=AlX h1 hlt hw
 exact (Xz _ _ w (aa _) hat hl).mono fun r w' ⟨he,hb⟩=>⟨_,he,Br.val rfl,hb⟩
theorem NW (t:Bool) (r:Rv) (hw:Ar r.ws) (hl:r.ws.length≤1000000):CVF prog G 81 [aRv t r] [aB (vdB r.rw)]:=fun w S vs hg hlt ha=>by
 obtain ⟨u,hu,h1⟩:=BB ha
 subst hu
 obtain ⟨A,c,rfl,hat⟩:=AlX h1 hlt hw
 exact (XA _ _ w (aa _) hat hl).mono fun r w' ⟨he,hb⟩=>⟨_,he,Br.val rfl,hb⟩
end
theorem Uv {t:Bool} {r:Rv} (hw:Ar r.ws) (hv:vdB r.rw=true):dRv t r=dDy t r.rw.x r.rw.d∧Nf r.rw.x r.rw.d∧(Ab r.rw.x.natAbs).length=r.ws.length:=by
 have hc:Ab r.rw.x.natAbs=r.ws:=by rw [Aiu];exact Adw (r:=r.rw) hw hv
 have hP:vdP r.rw:=of_decide_eq_true hv
 have key:r.nb=decide (r.rw.x<0)∧r.den=((r.rw.d:Nat):Int)∧Nf r.rw.x r.rw.d:=by
  by_cases h0:r.ws.length=0
  ·obtain ⟨h1,h2⟩:=(Adv (r:=r.rw) h0).1 hP
   have hx:r.rw.x=0:=by
    have:=Aiu r.rw
    rw [show r.rw.ws=[] from cj h0] at this
    have hz:Az []=0:=rfl
    omega
   have h1':r.nb=false:=h1
   have h2':r.den=0:=h2
   have hd:r.rw.d=0:=by show r.den.toNat=0;rw [h2'];rfl
   rw [hx,hd,h1',h2']
   exact ⟨rfl,rfl,by decide,fun h=>absurd rfl h⟩
  ·obtain ⟨h1,h2,h3,h4⟩:=(Aaj (r:=r.rw) h0).1 hP
   have h2':0≤r.den:=h2
   have h3':r.den≤65536:=h3
   have hd:((r.rw.d:Nat):Int)=r.den:=Int.toNat_of_nonneg h2'
   have hpos:Az r.ws≠0:=fun hz=>by
    rw [Aiu,show r.rw.ws=r.ws from rfl,hz,AF] at hc
    rw [←hc] at h0
    exact h0 rfl
   have hodd:r.rw.d≠0→Az r.ws % 2=1:=fun hne=>by
    rcases h4 with h|h
    ·have h':r.den=0:=h
     omega
    ·have h':r.ws[0]?.getD 0 % 2=1:=h
     have:=GO hw 0
     simp only [Nat.pow_zero,Nat.div_one,Nat.zero_div,Nat.zero_mod] at this
     omega
   have hx:r.rw.x=sg r.nb (Az r.ws):=rfl
   refine ⟨?_,hd.symm,by omega,fun hne=>?_⟩
   ·rw [hx]
    unfold sg
    cases r.nb
    ·simp
    ·simp;omega
   ·have:=hodd hne
    rw [hx]
    unfold sg
    split <;> omega
 obtain ⟨k1,k2,k3⟩:=key
 refine ⟨?_,k3,by rw [hc]⟩
 unfold dRv dDy wds
 rw [hc,←k1,←k2,Ul]
theorem Adz {x k:Nat} (hx:x<2 ^ (k+1)) (hm:x / 2 ^ k % 2=0):x<2 ^ k:=by
 have h1:x / 2 ^ k<2:=(ij (ax _)).2 (by rw [bg] at hx;omega)
 have h2:x / 2 ^ k=0:=by generalize x / 2 ^ k=q at *;omega
 rcases Nat.div_eq_zero_iff.1 h2 with h|h
 ·have:=ax k;omega
 ·exact h
theorem AlY {x k:Nat} (hm:x / 2 ^ k % 2=1):2 ^ (k+1 - 1)≤x:=by
 rw [Nat.add_sub_cancel]
 have h1:1≤x / 2 ^ k:=by generalize x / 2 ^ k=q at *;omega
 have h2:=(Nat.le_div_iff_mul_le (ax k)).1 h1
 omega
theorem AdA {ds:List D}:∀ c∈ds.map C.d,C.bel n c:=fun c hc=>by
 obtain ⟨d,_,rfl⟩:=List.mem_map.1 hc
 trivial
def SF (a d:Nat):Bool:=decide (4096<max (Bl a) d)
theorem AdB (a:Nat) (l1:(Ab a).length≤200000):CV prog Ah 252 [.one (GX false a)] [aI (Bl a:Nat)]:=by
 refine cvz func252 ntmps252 ?_
 by_cases h0:a=0
 case pos =>
  subst h0
  have l0:((Ab 0).length:Int)=0:=by rw [AF];rfl
  rw [show Bl 0=0 from rfl]
  repeat' (with_reducible first|refine qq ?_|(refine Tx 0 ?_;refine gO xA ?_)|(refine Tx 1 ?_;refine gO xM <| gO xN <| gO xEq ?_)|(refine Tx 2 ?_;refine gO xA ?_))
  exact Ax rfl (.cons_ (Qu rfl rfl) .nil_)
 obtain ⟨p,L,hL,hp,p0,hp1,hpd⟩:=PA h0
 have hi:((Ab a).length:Int)=(L:Int)+1:=by omega
 have LN:=Adx p hp1
 have hx2:=Pv hp
 have hb:=XB hpd p0
 have e1:((Ab a).length:Int) - 1=(L:Int):=by omega
 rw [hb]
 have hq:Bl p≤32:=Dl.2 (by simpa using hp1)
 repeat' (with_reducible first|refine qq ?_|(refine Tx 0 ?_;refine gO xA ?_)|(refine Tx 1 ?_;refine gO xM <| gO xN <| gO xEq ?_)|(refine Tx 3 ?_;refine gO xM <| gO xN <| gO xSb <| gO (by exact Iy rfl rfl rfl (by omega)) <| gO xM <| gO xM <| gO xN <| gO xSb <| gO (by exact Po (i:=L) rfl rfl rfl (by omega) AH (by omega) (by decide) (hx2)) <| gO xD <| gO (xCl func257 (LN.cv)) <| gO xAd <| gO xA ?_))
 exact Ax rfl (.cons_ (.tmp (.one (by rw [show 32*(((Ab a).length:Int) - 1)+((Bl p:Nat):Int)=((32*L+Bl p:Nat):Int) by omega];exact AX rfl fun h=>.val _))) .nil_)
theorem ME (x:Int) (dx:Nat) (hnx:Nf x dx) (lx:(Ab x.natAbs).length≤40000):CV prog Ah 212 [aDy false x dx] [aI (Bl x.natAbs:Nat)]:=by
 refine cvz func212 ntmps212 ?_
 have PX:=EX (G:=Ah) x dx hnx (lT lx (by decide))
 have NB:=AdB x.natAbs (by omega)
 repeat' (with_reducible first|refine qq ?_|(refine Tx 0 ?_;refine gN xBo <| gO xA ?_)|(refine Tx 1 ?_;refine gO xL <| gO (xCl func69 (PX)) <| gO xMt <| gO xEx <| gO xEx <| gO xEx <| gO xA <| gO xA <| gO xA ?_)|(refine Tx 2 ?_;refine gO xM <| gO (xCl func252 (NB)) <| gO xA ?_))
 exact Ax rfl (.cons_ (Qu rfl rfl) .nil_)
theorem AlZ {p':Prop} (k:p') (h:Hd9 p'→p:=by with_reducible first|(intro Z9;refine Tx 3 ?_;refine gO xM <| gO xGt <| gO xM ?_;(first|iterate 14 refine Jd ?_|(refine Jy (xFa Er BG) ?_;refine Jy (xLd BG) ?_;refine Jy xM1 ?_;refine Jy xSb ?_;refine Jy (by first|exact ZX rfl rfl rfl (by decide) hq|exact YZ rfl rfl rfl (by omega)) ?_;refine Jy (by exact Po (i:=k / 32) rfl rfl rfl rfl Bw (by omega) (by decide) (hx2)) ?_;refine Jy (xLd BV) ?_;refine Jy xM1 ?_;refine Jy xSb ?_;refine Jy (by first|exact CX rfl underlying3 underlying160 rfl hc|exact Dz rfl underlying3 underlying160 rfl) ?_;refine Jy (by first|exact QO rfl rfl rfl (by decide) hr|exact RQ rfl rfl rfl (by omega)) ?_;refine Jy (by exact Aiv (n:=k % 32) rfl rfl rfl hs32 rfl) ?_;refine Jy (by exact Ady rfl rfl rfl hbit) ?_;refine Jy xEq ?_));refine gO xPk ?_;exact Z9.o)|fail):p:=h ⟨k⟩
theorem Ama (h:p:=by
 rw [hb]
 repeat' (with_reducible first|refine qq ?_|refine AlZ ?_|(refine Tx 5 ?_;refine gO xM <| gO xA ?_))
 exact Ax rfl (.cons_ (Qu rfl rfl) .nil_)):p:=h
theorem AdC (x:Int) (dx:Nat) (hnx:Nf x dx) (lx:(Ab x.natAbs).length≤40000):CV prog Ah 172 [aDy false x dx] [aI (Bl x.natAbs:Nat)]:=by
 refine cvz func172 ntmps172 ?_
 have NM:=NN Ah x dx hnx (by omega)
 have hok:=Ay x.natAbs
 have hlt0:x.natAbs<2 ^ (32*(Ab x.natAbs).length):=by have:=BE hok;rw [Am] at this;rw [dp];exact this
 repeat' (with_reducible first|refine qq ?_|(refine Tx 0 ?_;refine gN xBo <| gO xA ?_)|(refine Tx 1 ?_;refine gO xL <| gO (xCl func105 (NM)) <| gZ (xSk Aa) ?_)|(refine Tx 2 ?_;refine gO xF <| gO xD <| gO xN <| gO (by exact Iy rfl rfl rfl (by omega)) <| gO xA ?_))
 refine AQ (Bu 1 (h:=by rw [show ((32*(Ab x.natAbs).length:Nat):Int)=32*(((Ab x.natAbs).length:Nat):Int) by omega];exact mB rfl rfl)) (Aq (fun n Fr H=>∃ k:Nat,k≤32*(Ab x.natAbs).length∧n=k∧x.natAbs<2 ^ k∧Fr=ofL [(1,vr 0),(3,vi (((k:Nat):Int)))]∧H=[.box 43 ((dDy false x dx).map C.d)]) (n0:=32*(Ab x.natAbs).length) ⟨32*(Ab x.natAbs).length,aa _,rfl,hlt0,rfl,rfl⟩ ?_)
 rintro n Fr H ⟨k,hk,rfl,hx,rfl,rfl⟩
 by_cases h0:n=0
 case pos =>
  subst h0
  have hb:Bl x.natAbs=0:=MD hx (fun h=>absurd rfl h)
  exact Ama
 obtain ⟨k,rfl⟩:∃ k,n=k+1:=⟨n - 1,by omega⟩
 have hkL:k / 32<(Ab x.natAbs).length:=by omega
 obtain ⟨p,hp⟩:∃ p,(Ab x.natAbs)[k / 32]?=some p:=⟨_,gE hkL⟩
 have hp1:=hok p (gM hp)
 have hx2:=Pv hp
 have hbit:bits .and .u32 ((p:Int) / 2 ^ (k % 32)) 1=((x.natAbs / 2 ^ k % 2:Nat):Int):=by rw [TI hp1];have h1:=GO hok k;rw [hp,Am] at h1;simp only [bh] at h1;omega
 have hs32:k % 32≤IntKind.u32.bits:=by have:=eh k (show 0<32 by decide);show k % 32≤32;omega
 have hk1:((k+1:Nat):Int) - 1=((k:Nat):Int):=by omega
 have hq:IntKind.i64.wrap ((((k+1:Nat):Int) - 1).tdiv 32)=((k / 32:Nat):Int):=by rw [hk1,Int.tdiv_eq_ediv_of_nonneg (by omega),gh];omega
 have hc:IntKind.u64.wrap (((k+1:Nat):Int) - 1)=((k:Nat):Int):=by rw [hk1,et];omega
 have hr:((k:Nat):Int).tmod 32=((k % 32:Nat):Int):=by rw [ld (by omega)];omega
 rcases Nat.mod_two_eq_zero_or_one (x.natAbs / 2 ^ k) with hm|hm
 case inl =>
  rw [hm] at hbit
  repeat' (with_reducible first|refine qq ?_|refine AlZ ?_|(refine Tx 4 ?_;refine gO xM <| gO xSb <| gO xA ?_))
  exact ⟨_,_,Ls [(1,vr 0),(3,vi (((k:Nat):Int)))] 1 rfl (by rw [←hk1];exact mB rfl rfl) ⟨AdA,trivial⟩,_,kg k,k,by omega,rfl,Adz hx hm,rfl,rfl⟩
 rw [hm] at hbit
 have hb:Bl x.natAbs=k+1:=MD hx (fun _=>AlY hm)
 exact Ama
theorem Amb {p':Prop} (k:p') (h:Hd9 p'→p:=by with_reducible first|(intro Z9;refine qq ?_;exact Z9.o)|(intro Z9;refine Tx 0 ?_;refine gN xBo <| gO xA ?_;exact Z9.o)|(intro Z9;refine Ca (id:=1) AV (by kernel_rfl) ?_;refine gP xL <| gP (xCl func172 (BT)) <| gP xF <| gP xD <| gP (by first|exact ZZ rfl rfl rfl hm|exact HW rfl rfl rfl) <| gP xGt <| gP xA ?_;refine Ke ?_;exact Z9.o)|fail):p:=h ⟨k⟩
theorem QS (x:Int) (dx:Nat) (hnx:Nf x dx) (lx:(Ab x.natAbs).length≤40000):CV prog Ah 82 [aDy false x dx] [aB (SF x.natAbs dx)]:=by
 refine cvz func82 ntmps82 ?_
 have BT:=AdC x dx hnx lx
 have hm:max ((Bl x.natAbs:Nat):Int) (dx:Int)=((max (Bl x.natAbs) dx:Nat):Int):=by omega
 unfold SF
 by_cases hl:4096<max (Bl x.natAbs) dx
 case pos =>
  rw [show decide (4096<max (Bl x.natAbs) dx)=true from decide_eq_true hl]
  repeat' (with_reducible first|refine Amb ?_)
  exact Ax rfl (.cons_ (DD rfl rfl) .nil_)
 case neg =>
  rw [show decide (4096<max (Bl x.natAbs) dx)=false from decide_eq_false hl]
  repeat' (with_reducible first|refine Amb ?_)
  exact Ax rfl (.cons_ (DD rfl rfl) .nil_)
end Go.Proofs.YtmdfjbpggbhgnaaGreatDoor
