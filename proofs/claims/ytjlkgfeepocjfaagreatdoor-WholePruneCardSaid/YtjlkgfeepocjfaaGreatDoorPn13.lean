/- What the proofs of this claim share, part 13. No conditions. -/
import Derived.Test.YtjlkgfeepocjfaaGreatDoorPn11
import Derived.Test.YtjlkgfeepocjfaaGreatDoorPn12
set_option maxRecDepth 100000
set_option maxHeartbeats 4000000
set_option linter.all false
open Go.Proofs.Tryz
namespace Go.Proofs.YtjlkgfeepocjfaaGreatDoor
open Go.RowKit
variable {n:Nat}
def Bl (n:Nat):Nat:=if n=0 then 0 else n.log2+1
theorem Aaa (n:Nat):n<2 ^ Bl n:=by
 unfold Bl
 split
 ·omega
 ·rename_i h
  exact (Nat.log2_lt h).1 (Nat.lt_succ_self _)
theorem CZ {k:Nat}:Bl n≤k ↔ n<2 ^ k:=by
 unfold Bl
 split
 ·rename_i h
  subst h
  exact ⟨fun _=>bt k,fun _=>af _⟩
 ·rename_i h
  rw [←Nat.log2_lt h]
  omega
theorem Aab {k:Nat} (h1:n<2 ^ k) (h2:k≠0→2 ^ (k - 1)≤n):Bl n=k:=by
 have a:=CZ.2 h1
 rcases bf (Bl n) k with h|h
 ·have h3:=h2 (by omega)
  have h4:=(CZ (n:=n) (k:=k - 1)).1 (by omega)
  omega
 ·omega
theorem WD:∀ (k x:Nat),x<2 ^ k→k≤64→Lib.bitLen x=Bl x
 | 0,x,h,_=>by
  have:x=0:=by simpa using h
  subst this
  rfl
 | k+1,x,h,hk=>by
  by_cases h0:x=0
  ·subst h0;rfl
  ·have h64:x<2 ^ 64:=au h (ba (by decide) hk)
   rw [Lib.bitLen_half x h0 h64,WD k (x / 2) (by rw [ce] at h;omega) (by omega)]
   symm
   refine Aab ?_ fun _=>?_
   ·have:=Aaa (x / 2)
    rw [bh,Nat.pow_one]
    omega
   ·rw [Nat.add_sub_cancel_left]
    by_cases h2:x / 2=0
    ·rw [h2];show 2 ^ 0≤x;omega
    ·have h5:¬ Bl (x / 2)≤Bl (x / 2) - 1:=by unfold Bl;rw [if_neg h2];omega
     rw [CZ] at h5
     obtain ⟨m,hm⟩:∃ m,Bl (x / 2)=m+1:=⟨Bl (x / 2) - 1,by unfold Bl;rw [if_neg h2];omega⟩
     rw [hm] at h5 ⊢
     rw [Nat.add_sub_cancel] at h5
     rw [ce]
     omega
theorem Aio (x:Nat) (hx:x<4294967296):CVF prog An 222 [.one (dW x)] [aI (Bl x:Nat)]:=fun w S vs hg hlt ha=>by
 obtain ⟨u,hu,h1⟩:=CG ha
 subst hu
 cases h1
 refine (AeH x w (by omega) (by omega)).mono fun r w' ⟨he,hw⟩=>?_
 subst hw
 refine ⟨_,he,?_,ah _ _⟩
 rw [ar,WD 32 x (by simpa using hx) (by decide)]
 exact Ba.val rfl
theorem SS (h:n≠0):∃ p L,(Ad n).length=L+1∧(Ad n)[L]?=some p∧p≠0∧p<4294967296∧p=n / 4294967296 ^ L:=by
 obtain ⟨L,hL⟩:∃ L,(Ad n).length=L+1:=⟨(Ad n).length - 1,by have:=Eh h;omega⟩
 obtain ⟨p,hp⟩:∃ p,(Ad n)[L]?=some p:=⟨_,gE (by omega)⟩
 have h1:=Vx h
 rw [hL,Nat.add_sub_cancel,hp] at h1
 have h2:=Bd n p (gM hp)
 refine ⟨p,L,hL,hp,h1,h2,?_⟩
 have h3:=Bg (Ad n) L
 rw [show (Ad n).take (L+1)=Ad n from am (by omega),AI,hp] at h3
 have h4:=Co (ws:=(Ad n).take L) (fun z hz=>Bd n z (eh hz))
 rw [cj,ei (by omega)] at h4
 simp only [bg] at h3
 rw [h3,iu _ _ (Nat.pos_of_ne_zero (by intro hz;rw [hz] at h4;omega)),gy h4,ax]
theorem AbL {p L:Nat} (hp:p=n / 4294967296 ^ L) (h0:p≠0):Bl n=32*L+Bl p:=by
 have e:(4294967296:Nat) ^ L=2 ^ (32*L):=by rw [gx]
 rw [e] at hp
 refine Aab ?_ fun _=>?_
 ·have h1:=Aaa p
  rw [bh]
  have h2:n / 2 ^ (32*L)<2 ^ Bl p:=hp ▸ h1
  rw [jp (bt _)] at h2
  rw [ay]
  exact h2
 ·obtain ⟨m,hm⟩:∃ m,Bl p=m+1:=⟨Bl p - 1,by unfold Bl;rw [if_neg h0];omega⟩
  have h5:¬ Bl p≤m:=by omega
  rw [CZ] at h5
  have h6:¬ n / 2 ^ (32*L)<2 ^ m:=hp ▸ h5
  rw [jp (bt _)] at h6
  rw [hm,show 32*L+(m+1) - 1=m+32*L by omega,bh]
  omega
structure Rv where
 nb:Bool
 ws:List Nat
 den:Int
def Rv.rw (r:Rv):Rw:=⟨r.nb,none,r.ws,0,r.den⟩
def dRv (t:Bool) (r:Rv):List D:=[.val (.bool r.nb),.row t 1 r.ws.length (r.ws.map dW),.val (.int .i64 r.den)]
def aRv (t:Bool) (r:Rv):A:=.agg (dRv t r)
theorem AuS {w:World} {S:Dm} {t:Bool} {r:Rv} {v:Value} (h:EA w S (aRv t r) v) (hS:∀ t b,S t b→b<w.heap.size) (hw:Az r.ws):∃ A c,v=(⟨r.nb,A,r.ws,c,r.den⟩:Rw).val∧ApQ w w.heap.size ⟨r.nb,A,r.ws,c,r.den⟩:=by
 obtain ⟨xs,rfl,h1⟩:=h
 obtain ⟨a,l1,rfl,ha,h2⟩:=h1.uncons
 obtain ⟨b,l2,rfl,hb,h3⟩:=h2.uncons
 obtain ⟨c,l3,rfl,hc,h4⟩:=h3.uncons
 rw [h4.unnil]
 cases ha
 cases hc
 obtain ⟨A,c,rfl,q1,q2,q3,_⟩:=Px hb hS rfl
 exact ⟨A,c,rfl,q1,q2,q3,hw⟩
section
variable {G:World→Prop}
theorem MD (t:Bool) (r:Rv) (hw:Az r.ws) (hl:r.ws.length≤36000000000000):CVF prog G 58 [aRv t r] [aB (vdB r.rw)]:=fun w S vs hg hlt ha=>by
 obtain ⟨u,hu,h1⟩:=CG ha
 subst hu
 obtain ⟨A,c,rfl,hat⟩:=AuS h1 hlt hw
 exact (AbK _ _ w (aa _) hat hl).mono fun r w' ⟨he,hb⟩=>⟨_,he,Ba.val rfl,hb⟩
end
theorem Yx {t:Bool} {r:Rv} (hw:Az r.ws) (hv:vdB r.rw=true):dRv t r=dDy t r.rw.x r.rw.d∧Nf r.rw.x r.rw.d∧(Ad r.rw.x.natAbs).length=r.ws.length:=by
 have hc:Ad r.rw.x.natAbs=r.ws:=by rw [AnG];exact Ain (r:=r.rw) hw hv
 have hP:vdP r.rw:=of_decide_eq_true hv
 have key:r.nb=decide (r.rw.x<0)∧r.den=((r.rw.d:Nat):Int)∧Nf r.rw.x r.rw.d:=by
  by_cases h0:r.ws.length=0
  ·obtain ⟨h1,h2⟩:=(AnF (r:=r.rw) h0).1 hP
   have hx:r.rw.x=0:=by
    have:=AnG r.rw
    rw [show r.rw.ws=[] from bj h0] at this
    have hz:Bc []=0:=rfl
    omega
   have h1':r.nb=false:=h1
   have h2':r.den=0:=h2
   have hd:r.rw.d=0:=by show r.den.toNat=0;rw [h2'];rfl
   rw [hx,hd,h1',h2']
   exact ⟨rfl,rfl,by decide,fun h=>absurd rfl h⟩
  ·obtain ⟨h1,h2,h3,h4⟩:=(Aim (r:=r.rw) h0).1 hP
   have h2':0≤r.den:=h2
   have h3':r.den≤65536:=h3
   have hd:((r.rw.d:Nat):Int)=r.den:=Int.toNat_of_nonneg h2'
   have hpos:Bc r.ws≠0:=fun hz=>by
    rw [AnG,show r.rw.ws=r.ws from rfl,hz,Bf] at hc
    rw [←hc] at h0
    exact h0 rfl
   have hodd:r.rw.d≠0→Bc r.ws % 2=1:=fun hne=>by
    rcases h4 with h|h
    ·have h':r.den=0:=h
     omega
    ·have h':r.ws[0]?.getD 0 % 2=1:=h
     have:=Ty hw 0
     simp only [Nat.pow_zero,Nat.div_one,Nat.zero_div,Nat.zero_mod] at this
     omega
   have hx:r.rw.x=sg r.nb (Bc r.ws):=rfl
   refine ⟨?_,hd.symm,by omega,fun hne=>?_⟩
   ·rw [hx]
    unfold sg
    cases r.nb
    ·simp
    ·simp;omega
   ·have:=hodd hne
    rw [hx]
    unfold sg
    split <;> omega
 obtain ⟨k1,k2,k3⟩:=key
 refine ⟨?_,k3,by rw [hc]⟩
 unfold dRv dDy wds
 rw [hc,←k1,←k2,AbF]
theorem AnH {ds:List D}:∀ c∈ds.map C.d,C.bel n c:=fun c hc=>by
 obtain ⟨d,_,rfl⟩:=List.mem_map.1 hc
 trivial
def AnI (a d:Nat):Bool:=decide (4096<max (Bl a) d)
theorem Aip (a:Nat) (l1:(Ad a).length≤35184372087808):CV prog An 208 [.one (IQ false a)] [aI (Bl a:Nat)]:=by
 refine cvz func208 ntmps208 ?_
 by_cases h0:a=0
 case pos =>
  subst h0
  have l0:((Ad 0).length:Int)=0:=by rw [Bf];rfl
  rw [show Bl 0=0 from rfl]
  repeat' (with_reducible first|refine qq ?_|(refine Tx 0 ?_;refine gO xA ?_)|(refine Tx 1 ?_;refine gO xM <| gO xN <| gO xEq ?_)|(refine Tx 2 ?_;refine gO xA ?_))
  exact AN rfl (.cons_ (AhG rfl rfl) .nil_)
 obtain ⟨p,L,hL,hp,p0,hp1,hpd⟩:=SS h0
 have hi:((Ad a).length:Int)=(L:Int)+1:=by omega
 have LN:=Aio p hp1
 have hx2:=Wz hp
 have hb:=AbL hpd p0
 have e1:((Ad a).length:Int) - 1=(L:Int):=by omega
 rw [hb]
 have hq:Bl p≤32:=CZ.2 (by simpa using hp1)
 repeat' (with_reducible first|refine qq ?_|(refine Tx 0 ?_;refine gO xA ?_)|(refine Tx 1 ?_;refine gO xM <| gO xN <| gO xEq ?_)|(refine Tx 3 ?_;refine gO xM <| gO xN <| gO xSb <| gO (by exact Pb rfl rfl rfl (by omega)) <| gO xM <| gO xM <| gO xN <| gO xSb <| gO (by exact Sp (i:=L) rfl rfl rfl (by omega) AK (by omega) (by decide) (hx2)) <| gO xD <| gO (xCl func222 (LN.cv)) <| gO xAd <| gO xA ?_))
 exact AN rfl (.cons_ (.tmp (.one (by rw [show 32*(((Ad a).length:Int) - 1)+((Bl p:Nat):Int)=((32*L+Bl p:Nat):Int) by omega];exact Bp rfl fun h=>.val _))) .nil_)
theorem IR (x:Int) (dx:Nat) (hnx:Nf x dx) (lx:(Ad x.natAbs).length≤35184372087808):CV prog An 126 [aDy false x dx] [aI (Bl x.natAbs:Nat)]:=by
 refine cvz func126 ntmps126 ?_
 have PX:=FM (G:=An) x dx hnx (lT lx (by decide))
 have NB:=Aip x.natAbs (by omega)
 repeat' (with_reducible first|refine qq ?_|(refine Tx 0 ?_;refine gN xBo <| gO xA ?_)|(refine Tx 1 ?_;refine gO xL <| gO (xCl func71 (PX)) <| gO xMt <| gO xEx <| gO xEx <| gO xEx <| gO xA <| gO xA <| gO xA ?_)|(refine Tx 2 ?_;refine gO xM <| gO (xCl func208 (NB)) <| gO xA ?_))
 exact AN rfl (.cons_ (AhG rfl rfl) .nil_)
end Go.Proofs.YtjlkgfeepocjfaaGreatDoor
