/- What the proofs of this claim share, part 14. No conditions. -/
import Derived.Test.YtmdfjbpggbhgnaaGreatDoorHd11
import Derived.Test.YtmdfjbpggbhgnaaGreatDoorHd12
import Derived.Test.YtmdfjbpggbhgnaaGreatDoorHd13
set_option maxRecDepth 100000
set_option maxHeartbeats 4000000
set_option linter.all false
open Go.Proofs.Tryz
namespace Go.Proofs.YtmdfjbpggbhgnaaGreatDoor
open Go.RowKit
variable {n:Nat}
def Bu (n:Nat):Nat:=if n=0 then 0 else n.log2+1
theorem Zy (n:Nat):n<2 ^ Bu n:=by
 unfold Bu
 split
 ·omega
 ·rename_i h
  exact (Nat.log2_lt h).1 (Nat.lt_succ_self _)
theorem DD {k:Nat}:Bu n≤k ↔ n<2 ^ k:=by
 unfold Bu
 split
 ·rename_i h
  subst h
  exact ⟨fun _=>bu k,fun _=>ad _⟩
 ·rename_i h
  rw [←Nat.log2_lt h]
  omega
theorem Zz {k:Nat} (h1:n<2 ^ k) (h2:k≠0→2 ^ (k - 1)≤n):Bu n=k:=by
 have a:=DD.2 h1
 rcases bh (Bu n) k with h|h
 ·have h3:=h2 (by omega)
  have h4:=(DD (n:=n) (k:=k - 1)).1 (by omega)
  omega
 ·omega
theorem VZ:∀ (k x:Nat),x<2 ^ k→k≤64→Lib.bitLen x=Bu x
 | 0,x,h,_=>by
  have:x=0:=by simpa using h
  subst this
  rfl
 | k+1,x,h,hk=>by
  by_cases h0:x=0
  ·subst h0;rfl
  ·have h64:x<2 ^ 64:=am h (av (by decide) hk)
   rw [Lib.bitLen_half x h0 h64,VZ k (x / 2) (by rw [bt] at h;omega) (by omega)]
   symm
   refine Zz ?_ fun _=>?_
   ·have:=Zy (x / 2)
    rw [bj,Nat.pow_one]
    omega
   ·rw [Nat.add_sub_cancel_left]
    by_cases h2:x / 2=0
    ·rw [h2];show 2 ^ 0≤x;omega
    ·have h5:¬ Bu (x / 2)≤Bu (x / 2) - 1:=by unfold Bu;rw [if_neg h2];omega
     rw [DD] at h5
     obtain ⟨m,hm⟩:∃ m,Bu (x / 2)=m+1:=⟨Bu (x / 2) - 1,by unfold Bu;rw [if_neg h2];omega⟩
     rw [hm] at h5 ⊢
     rw [Nat.add_sub_cancel] at h5
     rw [bt]
     omega
theorem Ail (x:Nat) (hx:x<4294967296):CVF prog An 257 [.one (dW x)] [aI (Bu x:Nat)]:=fun w S vs hg hlt ha=>by
 obtain ⟨u,hu,h1⟩:=BQ ha
 subst hu
 cases h1
 refine (Aeu x w (by omega) (by omega)).mono fun r w' ⟨he,hw⟩=>?_
 subst hw
 refine ⟨_,he,?_,ab _ _⟩
 rw [ao,VZ 32 x (by simpa using hx) (by decide)]
 exact Bo.val rfl
theorem SN (h:n≠0):∃ p L,(Ae n).length=L+1∧(Ae n)[L]?=some p∧p≠0∧p<4294967296∧p=n / 4294967296 ^ L:=by
 obtain ⟨L,hL⟩:∃ L,(Ae n).length=L+1:=⟨(Ae n).length - 1,by have:=De h;omega⟩
 obtain ⟨p,hp⟩:∃ p,(Ae n)[L]?=some p:=⟨_,gE (by omega)⟩
 have h1:=Qg h
 rw [hL,Nat.add_sub_cancel,hp] at h1
 have h2:=AF n p (gM hp)
 refine ⟨p,L,hL,hp,h1,h2,?_⟩
 have h3:=Bl (Ae n) L
 rw [show (Ae n).take (L+1)=Ae n from ar (by omega),Ax,hp] at h3
 have h4:=Ca (ws:=(Ae n).take L) (fun z hz=>AF n z (ed hz))
 rw [dj,gh (by omega)] at h4
 simp only [bd] at h3
 rw [h3,jd _ _ (Nat.pos_of_ne_zero (by intro hz;rw [hz] at h4;omega)),gi h4,bf]
theorem Abe {p L:Nat} (hp:p=n / 4294967296 ^ L) (h0:p≠0):Bu n=32*L+Bu p:=by
 have e:(4294967296:Nat) ^ L=2 ^ (32*L):=by rw [em]
 rw [e] at hp
 refine Zz ?_ fun _=>?_
 ·have h1:=Zy p
  rw [bj]
  have h2:n / 2 ^ (32*L)<2 ^ Bu p:=hp ▸ h1
  rw [ju (bu _)] at h2
  rw [aw]
  exact h2
 ·obtain ⟨m,hm⟩:∃ m,Bu p=m+1:=⟨Bu p - 1,by unfold Bu;rw [if_neg h0];omega⟩
  have h5:¬ Bu p≤m:=by omega
  rw [DD] at h5
  have h6:¬ n / 2 ^ (32*L)<2 ^ m:=hp ▸ h5
  rw [ju (bu _)] at h6
  rw [hm,show 32*L+(m+1) - 1=m+32*L by omega,bj]
  omega
structure Rv where
 nb:Bool
 ws:List Nat
 den:Int
def Rv.rw (r:Rv):Rw:=⟨r.nb,none,r.ws,0,r.den⟩
def dRv (t:Bool) (r:Rv):List D:=[.val (.bool r.nb),.row t 1 r.ws.length (r.ws.map dW),.val (.int .i64 r.den)]
def aRv (t:Bool) (r:Rv):A:=.agg (dRv t r)
theorem ArN {w:World} {S:DH} {t:Bool} {r:Rv} {v:Value} (h:EK w S (aRv t r) v) (hS:∀ t b,S t b→b<w.heap.size) (hw:Au r.ws):∃ A c,v=(⟨r.nb,A,r.ws,c,r.den⟩:Rw).val∧Avh w w.heap.size ⟨r.nb,A,r.ws,c,r.den⟩:=by
 obtain ⟨xs,rfl,h1⟩:=h
 obtain ⟨a,l1,rfl,ha,h2⟩:=h1.uncons
 obtain ⟨b,l2,rfl,hb,h3⟩:=h2.uncons
 obtain ⟨c,l3,rfl,hc,h4⟩:=h3.uncons
 rw [h4.unnil]
 cases ha
 cases hc
 obtain ⟨A,c,rfl,q1,q2,q3,_⟩:=PK hb hS rfl
 exact ⟨A,c,rfl,q1,q2,q3,hw⟩
section
variable {G:World→Prop}
theorem Ng (t:Bool) (r:Rv) (hw:Au r.ws) (hl:r.ws.length≤1000000):CVF prog G 123 [aRv t r] [aB (vdB r.rw)]:=fun w S vs hg hlt ha=>by
 obtain ⟨u,hu,h1⟩:=BQ ha
 subst hu
 obtain ⟨A,c,rfl,hat⟩:=ArN h1 hlt hw
 exact (Abc _ _ w (aa _) hat hl).mono fun r w' ⟨he,hb⟩=>⟨_,he,Bo.val rfl,hb⟩
theorem Wa (t:Bool) (r:Rv) (hw:Au r.ws) (hl:r.ws.length≤1000000):CVF prog G 81 [aRv t r] [aB (vdB r.rw)]:=fun w S vs hg hlt ha=>by
 obtain ⟨u,hu,h1⟩:=BQ ha
 subst hu
 obtain ⟨A,c,rfl,hat⟩:=ArN h1 hlt hw
 exact (Abd _ _ w (aa _) hat hl).mono fun r w' ⟨he,hb⟩=>⟨_,he,Bo.val rfl,hb⟩
end
theorem Ui {t:Bool} {r:Rv} (hw:Au r.ws) (hv:vdB r.rw=true):dRv t r=dDy t r.rw.x r.rw.d∧Nf r.rw.x r.rw.d∧(Ae r.rw.x.natAbs).length=r.ws.length:=by
 have hc:Ae r.rw.x.natAbs=r.ws:=by rw [AnA];exact Aik (r:=r.rw) hw hv
 have hP:vdP r.rw:=of_decide_eq_true hv
 have key:r.nb=decide (r.rw.x<0)∧r.den=((r.rw.d:Nat):Int)∧Nf r.rw.x r.rw.d:=by
  by_cases h0:r.ws.length=0
  ·obtain ⟨h1,h2⟩:=(Aij (r:=r.rw) h0).1 hP
   have hx:r.rw.x=0:=by
    have:=AnA r.rw
    rw [show r.rw.ws=[] from cq h0] at this
    have hz:AC []=0:=rfl
    omega
   have h1':r.nb=false:=h1
   have h2':r.den=0:=h2
   have hd:r.rw.d=0:=by show r.den.toNat=0;rw [h2'];rfl
   rw [hx,hd,h1',h2']
   exact ⟨rfl,rfl,by decide,fun h=>absurd rfl h⟩
  ·obtain ⟨h1,h2,h3,h4⟩:=(Aet (r:=r.rw) h0).1 hP
   have h2':0≤r.den:=h2
   have h3':r.den≤65536:=h3
   have hd:((r.rw.d:Nat):Int)=r.den:=Int.toNat_of_nonneg h2'
   have hpos:AC r.ws≠0:=fun hz=>by
    rw [AnA,show r.rw.ws=r.ws from rfl,hz,AV] at hc
    rw [←hc] at h0
    exact h0 rfl
   have hodd:r.rw.d≠0→AC r.ws % 2=1:=fun hne=>by
    rcases h4 with h|h
    ·have h':r.den=0:=h
     omega
    ·have h':r.ws[0]?.getD 0 % 2=1:=h
     have:=MI hw 0
     simp only [Nat.pow_zero,Nat.div_one,Nat.zero_div,Nat.zero_mod] at this
     omega
   have hx:r.rw.x=sg r.nb (AC r.ws):=rfl
   refine ⟨?_,hd.symm,by omega,fun hne=>?_⟩
   ·rw [hx]
    unfold sg
    cases r.nb
    ·simp
    ·simp;omega
   ·have:=hodd hne
    rw [hx]
    unfold sg
    split <;> omega
 obtain ⟨k1,k2,k3⟩:=key
 refine ⟨?_,k3,by rw [hc]⟩
 unfold dRv dDy wds
 rw [hc,←k1,←k2,Aec]
theorem AnB {ds:List D}:∀ c∈ds.map C.d,C.bel n c:=fun c hc=>by
 obtain ⟨d,_,rfl⟩:=List.mem_map.1 hc
 trivial
def AnC (a d:Nat):Bool:=decide (4096<max (Bu a) d)
theorem Aim (a:Nat) (l1:(Ae a).length≤200000):CV prog An 252 [.one (IQ false a)] [aI (Bu a:Nat)]:=by
 refine cvz func252 ntmps252 ?_
 by_cases h0:a=0
 case pos =>
  subst h0
  have l0:((Ae 0).length:Int)=0:=by rw [AV];rfl
  rw [show Bu 0=0 from rfl]
  repeat' (with_reducible first|refine qq ?_|(refine Tx 0 ?_;refine gO xA ?_)|(refine Tx 1 ?_;refine gO xM <| gO xN <| gO xEq ?_)|(refine Tx 2 ?_;refine gO xA ?_))
  exact AH rfl (.cons_ (Ado rfl rfl) .nil_)
 obtain ⟨p,L,hL,hp,p0,hp1,hpd⟩:=SN h0
 have hi:((Ae a).length:Int)=(L:Int)+1:=by omega
 have LN:=Ail p hp1
 have hx2:=VW hp
 have hb:=Abe hpd p0
 have e1:((Ae a).length:Int) - 1=(L:Int):=by omega
 rw [hb]
 have hq:Bu p≤32:=DD.2 (by simpa using hp1)
 repeat' (with_reducible first|refine qq ?_|(refine Tx 0 ?_;refine gO xA ?_)|(refine Tx 1 ?_;refine gO xM <| gO xN <| gO xEq ?_)|(refine Tx 3 ?_;refine gO xM <| gO xN <| gO xSb <| gO (by exact Pz rfl rfl rfl (by omega)) <| gO xM <| gO xM <| gO xN <| gO xSb <| gO (by exact Zh (i:=L) rfl rfl rfl (by omega) AP (by omega) (by decide) (hx2)) <| gO xD <| gO (xCl func257 (LN.cv)) <| gO xAd <| gO xA ?_))
 exact AH rfl (.cons_ (.tmp (.one (by rw [show 32*(((Ae a).length:Int) - 1)+((Bu p:Nat):Int)=((32*L+Bu p:Nat):Int) by omega];exact Bs rfl fun h=>.val _))) .nil_)
theorem IR (x:Int) (dx:Nat) (hnx:Nf x dx) (lx:(Ae x.natAbs).length≤40000):CV prog An 212 [aDy false x dx] [aI (Bu x.natAbs:Nat)]:=by
 refine cvz func212 ntmps212 ?_
 have PX:=FY (G:=An) x dx hnx (lT lx (by decide))
 have NB:=Aim x.natAbs (by omega)
 repeat' (with_reducible first|refine qq ?_|(refine Tx 0 ?_;refine gN xBo <| gO xA ?_)|(refine Tx 1 ?_;refine gO xL <| gO (xCl func69 (PX)) <| gO xMt <| gO xEx <| gO xEx <| gO xEx <| gO xA <| gO xA <| gO xA ?_)|(refine Tx 2 ?_;refine gO xM <| gO (xCl func252 (NB)) <| gO xA ?_))
 exact AH rfl (.cons_ (Ado rfl rfl) .nil_)
end Go.Proofs.YtmdfjbpggbhgnaaGreatDoor
