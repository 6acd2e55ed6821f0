/- What the proofs of this claim share, part 14. No conditions. -/
import Derived.Test.YtmdfjbpggbhgnaaGreatDoorAt11
import Derived.Test.YtmdfjbpggbhgnaaGreatDoorAt12
import Derived.Test.YtmdfjbpggbhgnaaGreatDoorAt13
set_option maxRecDepth 100000
set_option maxHeartbeats 4000000
set_option linter.all false
open Go.Proofs.Tryz
namespace Go.Proofs.YtmdfjbpggbhgnaaGreatDoor
open Go.RowKit
variable {n:Nat}
def Be (n:Nat):Nat:=if n=0 then 0 else n.log2+1
theorem TZ (n:Nat):n<2 ^ Be n:=by
 unfold Be
 split
 ·omega
 ·rename_i h
  exact (Nat.log2_lt h).1 (Nat.lt_succ_self _)
theorem Cw {k:Nat}:Be n≤k ↔ n<2 ^ k:=by
 unfold Be
 split
 ·rename_i h
  subst h
  exact ⟨fun _=>ba k,fun _=>ad _⟩
 ·rename_i h
  rw [←Nat.log2_lt h]
  omega
theorem Ua {k:Nat} (h1:n<2 ^ k) (h2:k≠0→2 ^ (k - 1)≤n):Be n=k:=by
 have a:=Cw.2 h1
 rcases bu (Be n) k with h|h
 ·have h3:=h2 (by omega)
  have h4:=(Cw (n:=n) (k:=k - 1)).1 (by omega)
  omega
 ·omega
theorem QF:∀ (k x:Nat),x<2 ^ k→k≤64→Lib.bitLen x=Be x
 | 0,x,h,_=>by
  have:x=0:=by simpa using h
  subst this
  rfl
 | k+1,x,h,hk=>by
  by_cases h0:x=0
  ·subst h0;rfl
  ·have h64:x<2 ^ 64:=ai h (ao (by decide) hk)
   rw [Lib.bitLen_half x h0 h64,QF k (x / 2) (by rw [az] at h;omega) (by omega)]
   symm
   refine Ua ?_ fun _=>?_
   ·have:=TZ (x / 2)
    rw [ay,Nat.pow_one]
    omega
   ·rw [Nat.add_sub_cancel_left]
    by_cases h2:x / 2=0
    ·rw [h2];show 2 ^ 0≤x;omega
    ·have h5:¬ Be (x / 2)≤Be (x / 2) - 1:=by unfold Be;rw [if_neg h2];omega
     rw [Cw] at h5
     obtain ⟨m,hm⟩:∃ m,Be (x / 2)=m+1:=⟨Be (x / 2) - 1,by unfold Be;rw [if_neg h2];omega⟩
     rw [hm] at h5 ⊢
     rw [Nat.add_sub_cancel] at h5
     rw [az]
     omega
theorem AaC (x:Nat) (hx:x<4294967296):CVF prog Al 257 [.one (dW x)] [aI (Be x:Nat)]:=fun w S vs hg hlt ha=>by
 obtain ⟨u,hu,h1⟩:=BZ ha
 subst hu
 cases h1
 refine (XY x w (by omega) (by omega)).mono fun r w' ⟨he,hw⟩=>?_
 subst hw
 refine ⟨_,he,?_,ab _ _⟩
 rw [ak,QF 32 x (by simpa using hx) (by decide)]
 exact Bf.val rfl
theorem NZ (h:n≠0):∃ p L,(Aa n).length=L+1∧(Aa n)[L]?=some p∧p≠0∧p<4294967296∧p=n / 4294967296 ^ L:=by
 obtain ⟨L,hL⟩:∃ L,(Aa n).length=L+1:=⟨(Aa n).length - 1,by have:=Ce h;omega⟩
 obtain ⟨p,hp⟩:∃ p,(Aa n)[L]?=some p:=⟨_,gE (by omega)⟩
 have h1:=Lx h
 rw [hL,Nat.add_sub_cancel,hp] at h1
 have h2:=Au n p (gM hp)
 refine ⟨p,L,hL,hp,h1,h2,?_⟩
 have h3:=AJ (Aa n) L
 rw [show (Aa n).take (L+1)=Aa n from ap (by omega),Ao,hp] at h3
 have h4:=Br (ws:=(Aa n).take L) (fun z hz=>Au n z (ed hz))
 rw [eh,ff (by omega)] at h4
 simp only [ax] at h3
 rw [h3,gm _ _ (Nat.pos_of_ne_zero (by intro hz;rw [hz] at h4;omega)),fg h4,bj]
theorem Vf {p L:Nat} (hp:p=n / 4294967296 ^ L) (h0:p≠0):Be n=32*L+Be p:=by
 have e:(4294967296:Nat) ^ L=2 ^ (32*L):=by rw [dn]
 rw [e] at hp
 refine Ua ?_ fun _=>?_
 ·have h1:=TZ p
  rw [ay]
  have h2:n / 2 ^ (32*L)<2 ^ Be p:=hp ▸ h1
  rw [ir (ba _)] at h2
  rw [aq]
  exact h2
 ·obtain ⟨m,hm⟩:∃ m,Be p=m+1:=⟨Be p - 1,by unfold Be;rw [if_neg h0];omega⟩
  have h5:¬ Be p≤m:=by omega
  rw [Cw] at h5
  have h6:¬ n / 2 ^ (32*L)<2 ^ m:=hp ▸ h5
  rw [ir (ba _)] at h6
  rw [hm,show 32*L+(m+1) - 1=m+32*L by omega,ay]
  omega
structure Rv where
 nb:Bool
 ws:List Nat
 den:Int
def Rv.rw (r:Rv):Rw:=⟨r.nb,none,r.ws,0,r.den⟩
def dRv (t:Bool) (r:Rv):List D:=[.val (.bool r.nb),.row t 1 r.ws.length (r.ws.map dW),.val (.int .i64 r.den)]
def aRv (t:Bool) (r:Rv):A:=.agg (dRv t r)
theorem Ald {w:World} {S:Dt} {t:Bool} {r:Rv} {v:Value} (h:DY w S (aRv t r) v) (hS:∀ t b,S t b→b<w.heap.size) (hw:An r.ws):∃ A c,v=(⟨r.nb,A,r.ws,c,r.den⟩:Rw).val∧RwAt w w.heap.size ⟨r.nb,A,r.ws,c,r.den⟩:=by
 obtain ⟨xs,rfl,h1⟩:=h
 obtain ⟨a,l1,rfl,ha,h2⟩:=h1.uncons
 obtain ⟨b,l2,rfl,hb,h3⟩:=h2.uncons
 obtain ⟨c,l3,rfl,hc,h4⟩:=h3.uncons
 rw [h4.unnil]
 cases ha
 cases hc
 obtain ⟨A,c,rfl,q1,q2,q3,_⟩:=Ld hb hS rfl
 exact ⟨A,c,rfl,q1,q2,q3,hw⟩
section
variable {G:World→Prop}
theorem Mn (t:Bool) (r:Rv) (hw:An r.ws) (hl:r.ws.length≤1000000):CVF prog G 123 [aRv t r] [aB (vdB r.rw)]:=fun w S vs hg hlt ha=>by
 obtain ⟨u,hu,h1⟩:=BZ ha
 subst hu
 obtain ⟨A,c,rfl,hat⟩:=Ald h1 hlt hw
 exact (Ve _ _ w (aa _) hat hl).mono fun r w' ⟨he,hb⟩=>⟨_,he,Bf.val rfl,hb⟩
end
theorem XZ {t:Bool} {r:Rv} (hw:An r.ws) (hv:vdB r.rw=true):dRv t r=dDy t r.rw.x r.rw.d∧Nf r.rw.x r.rw.d∧(Aa r.rw.x.natAbs).length=r.ws.length:=by
 have hc:Aa r.rw.x.natAbs=r.ws:=by rw [AeI];exact AaB (r:=r.rw) hw hv
 have hP:vdP r.rw:=of_decide_eq_true hv
 have key:r.nb=decide (r.rw.x<0)∧r.den=((r.rw.d:Nat):Int)∧Nf r.rw.x r.rw.d:=by
  by_cases h0:r.ws.length=0
  ·obtain ⟨h1,h2⟩:=(AeH (r:=r.rw) h0).1 hP
   have hx:r.rw.x=0:=by
    have:=AeI r.rw
    rw [show r.rw.ws=[] from bw h0] at this
    have hz:Ar []=0:=rfl
    omega
   have h1':r.nb=false:=h1
   have h2':r.den=0:=h2
   have hd:r.rw.d=0:=by show r.den.toNat=0;rw [h2'];rfl
   rw [hx,hd,h1',h2']
   exact ⟨rfl,rfl,by decide,fun h=>absurd rfl h⟩
  ·obtain ⟨h1,h2,h3,h4⟩:=(AaA (r:=r.rw) h0).1 hP
   have h2':0≤r.den:=h2
   have h3':r.den≤65536:=h3
   have hd:((r.rw.d:Nat):Int)=r.den:=Int.toNat_of_nonneg h2'
   have hpos:Ar r.ws≠0:=fun hz=>by
    rw [AeI,show r.rw.ws=r.ws from rfl,hz,Ax] at hc
    rw [←hc] at h0
    exact h0 rfl
   have hodd:r.rw.d≠0→Ar r.ws % 2=1:=fun hne=>by
    rcases h4 with h|h
    ·have h':r.den=0:=h
     omega
    ·have h':r.ws[0]?.getD 0 % 2=1:=h
     have:=GK hw 0
     simp only [Nat.pow_zero,Nat.div_one,Nat.zero_div,Nat.zero_mod] at this
     omega
   have hx:r.rw.x=sg r.nb (Ar r.ws):=rfl
   refine ⟨?_,hd.symm,by omega,fun hne=>?_⟩
   ·rw [hx]
    unfold sg
    cases r.nb
    ·simp
    ·simp;omega
   ·have:=hodd hne
    rw [hx]
    unfold sg
    split <;> omega
 obtain ⟨k1,k2,k3⟩:=key
 refine ⟨?_,k3,by rw [hc]⟩
 unfold dRv dDy wds
 rw [hc,←k1,←k2,XG]
theorem AeJ {ds:List D}:∀ c∈ds.map C.d,C.bel n c:=fun c hc=>by
 obtain ⟨d,_,rfl⟩:=List.mem_map.1 hc
 trivial
def AeK (a d:Nat):Bool:=decide (4096<max (Be a) d)
theorem AaD (a:Nat) (l1:(Aa a).length≤200000):CV prog Al 252 [.one (FU false a)] [aI (Be a:Nat)]:=by
 refine cvz func252 ntmps252 ?_
 by_cases h0:a=0
 case pos =>
  subst h0
  have l0:((Aa 0).length:Int)=0:=by rw [Ax];rfl
  rw [show Be 0=0 from rfl]
  repeat' (with_reducible first|refine qq ?_|(refine Tx 0 ?_;refine gO xA ?_)|(refine Tx 1 ?_;refine gO xM <| gO xN <| gO xEq ?_)|(refine Tx 2 ?_;refine gO xA ?_))
  exact AE rfl (.cons_ (WW rfl rfl) .nil_)
 obtain ⟨p,L,hL,hp,p0,hp1,hpd⟩:=NZ h0
 have hi:((Aa a).length:Int)=(L:Int)+1:=by omega
 have LN:=AaC p hp1
 have hx2:=QC hp
 have hb:=Vf hpd p0
 have e1:((Aa a).length:Int) - 1=(L:Int):=by omega
 rw [hb]
 have hq:Be p≤32:=Cw.2 (by simpa using hp1)
 repeat' (with_reducible first|refine qq ?_|(refine Tx 0 ?_;refine gO xA ?_)|(refine Tx 1 ?_;refine gO xM <| gO xN <| gO xEq ?_)|(refine Tx 3 ?_;refine gO xM <| gO xN <| gO xSb <| gO (by exact Tq rfl rfl rfl (by omega)) <| gO xM <| gO xM <| gO xN <| gO xSb <| gO (by exact TD (i:=L) rfl rfl rfl (by omega) Av (by omega) (by decide) (hx2)) <| gO xD <| gO (xCl func257 (LN.cv)) <| gO xAd <| gO xA ?_))
 exact AE rfl (.cons_ (.tmp (.one (by rw [show 32*(((Aa a).length:Int) - 1)+((Be p:Nat):Int)=((32*L+Be p:Nat):Int) by omega];exact Bs rfl fun h=>.val _))) .nil_)
theorem Li (x:Int) (dx:Nat) (hnx:Nf x dx) (lx:(Aa x.natAbs).length≤40000):CV prog Al 212 [aDy false x dx] [aI (Be x.natAbs:Nat)]:=by
 refine cvz func212 ntmps212 ?_
 have PX:=Ef (G:=Al) x dx hnx (lT lx (by decide))
 have NB:=AaD x.natAbs (by omega)
 repeat' (with_reducible first|refine qq ?_|(refine Tx 0 ?_;refine gN xBo <| gO xA ?_)|(refine Tx 1 ?_;refine gO xL <| gO (xCl func69 (PX)) <| gO xMt <| gO xEx <| gO xEx <| gO xEx <| gO xA <| gO xA <| gO xA ?_)|(refine Tx 2 ?_;refine gO xM <| gO (xCl func252 (NB)) <| gO xA ?_))
 exact AE rfl (.cons_ (WW rfl rfl) .nil_)
end Go.Proofs.YtmdfjbpggbhgnaaGreatDoor
