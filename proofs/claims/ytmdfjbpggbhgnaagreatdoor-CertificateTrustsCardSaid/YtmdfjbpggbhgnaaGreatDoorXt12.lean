/- What the proofs of this claim share, part 12. No conditions. -/
import Derived.Test.YtmdfjbpggbhgnaaGreatDoorXt10
import Derived.Test.YtmdfjbpggbhgnaaGreatDoorXt11
import Derived.Test.YtmdfjbpggbhgnaaGreatDoorXt9
set_option maxRecDepth 100000
set_option maxHeartbeats 4000000
set_option linter.all false
open Go.Proofs.Tryz
namespace Go.Proofs.YtmdfjbpggbhgnaaGreatDoor
open Go.RowKit
variable {n:Nat} {p:Prop}
def CS (n:Nat):Nat:=if n=0 then 0 else n.log2+1
theorem XT (n:Nat):n<2 ^ CS n:=by
 unfold CS
 split
 ·omega
 ·rename_i h
  exact (Nat.log2_lt h).1 (Nat.lt_succ_self _)
theorem HG {k:Nat}:CS n≤k ↔ n<2 ^ k:=by
 unfold CS
 split
 ·rename_i h
  subst h
  exact ⟨fun _=>bj k,fun _=>ad _⟩
 ·rename_i h
  rw [←Nat.log2_lt h]
  omega
theorem XU {k:Nat} (h1:n<2 ^ k) (h2:k≠0→2 ^ (k - 1)≤n):CS n=k:=by
 have a:=HG.2 h1
 rcases ba (CS n) k with h|h
 ·have h3:=h2 (by omega)
  have h4:=(HG (n:=n) (k:=k - 1)).1 (by omega)
  omega
 ·omega
theorem Up:∀ (k x:Nat),x<2 ^ k→k≤64→Lib.bitLen x=CS x
 | 0,x,h,_=>by
  have:x=0:=by simpa using h
  subst this
  rfl
 | k+1,x,h,hk=>by
  by_cases h0:x=0
  ·subst h0;rfl
  ·have h64:x<2 ^ 64:=al h (ax (by decide) hk)
   rw [Lib.bitLen_half x h0 h64,Up k (x / 2) (by rw [bi] at h;omega) (by omega)]
   symm
   refine XU ?_ fun _=>?_
   ·have:=XT (x / 2)
    rw [bd,Nat.pow_one]
    omega
   ·rw [Nat.add_sub_cancel_left]
    by_cases h2:x / 2=0
    ·rw [h2];show 2 ^ 0≤x;omega
    ·have h5:¬ CS (x / 2)≤CS (x / 2) - 1:=by unfold CS;rw [if_neg h2];omega
     rw [HG] at h5
     obtain ⟨m,hm⟩:∃ m,CS (x / 2)=m+1:=⟨CS (x / 2) - 1,by unfold CS;rw [if_neg h2];omega⟩
     rw [hm] at h5 ⊢
     rw [Nat.add_sub_cancel] at h5
     rw [bi]
     omega
theorem Agp (x:Nat) (hx:x<4294967296):CVF prog An 257 [.one (dW x)] [aI (CS x:Nat)]:=fun w S vs hg hlt ha=>by
 obtain ⟨u,hu,h1⟩:=BI ha
 subst hu
 cases h1
 refine (AcC x w (by omega) (by omega)).mono fun r w' ⟨he,hw⟩=>?_
 subst hw
 refine ⟨_,he,?_,ab _ _⟩
 rw [am,Up 32 x (by simpa using hx) (by decide)]
 exact Bh.val rfl
theorem Rf (h:n≠0):∃ p L,(Ad n).length=L+1∧(Ad n)[L]?=some p∧p≠0∧p<4294967296∧p=n / 4294967296 ^ L:=by
 obtain ⟨L,hL⟩:∃ L,(Ad n).length=L+1:=⟨(Ad n).length - 1,by have:=CO h;omega⟩
 obtain ⟨p,hp⟩:∃ p,(Ad n)[L]?=some p:=⟨_,gE (by omega)⟩
 have h1:=OC h
 rw [hL,Nat.add_sub_cancel,hp] at h1
 have h2:=Az n p (gM hp)
 refine ⟨p,L,hL,hp,h1,h2,?_⟩
 have h3:=Bf (Ad n) L
 rw [show (Ad n).take (L+1)=Ad n from aq (by omega),Au,hp] at h3
 have h4:=BO (ws:=(Ad n).take L) (fun z hz=>Az n z (dj hz))
 rw [dm,fv (by omega)] at h4
 simp only [ci] at h3
 rw [h3,il _ _ (Nat.pos_of_ne_zero (by intro hz;rw [hz] at h4;omega)),fw h4,bc]
theorem ZE {p L:Nat} (hp:p=n / 4294967296 ^ L) (h0:p≠0):CS n=32*L+CS p:=by
 have e:(4294967296:Nat) ^ L=2 ^ (32*L):=by rw [ee]
 rw [e] at hp
 refine XU ?_ fun _=>?_
 ·have h1:=XT p
  rw [bd]
  have h2:n / 2 ^ (32*L)<2 ^ CS p:=hp ▸ h1
  rw [jj (bj _)] at h2
  rw [ar]
  exact h2
 ·obtain ⟨m,hm⟩:∃ m,CS p=m+1:=⟨CS p - 1,by unfold CS;rw [if_neg h0];omega⟩
  have h5:¬ CS p≤m:=by omega
  rw [HG] at h5
  have h6:¬ n / 2 ^ (32*L)<2 ^ m:=hp ▸ h5
  rw [jj (bj _)] at h6
  rw [hm,show 32*L+(m+1) - 1=m+32*L by omega,bd]
  omega
theorem AcD {P:Program} {G:World→Prop} {o:Oper} {F:Frm} {H:List Ob} {ts:Array TypeId} {x y:Operand} {k:IntKind} {p q r:Int} (ho:o.op=.call { callee:=.builtin .max,args:=#[x,y],argTypes:=ts }) (hx:F.ev x=.one (.d (.val (.int k p)))) (hy:F.ev y=.one (.d (.val (.int k q)))) (hr:max p q=r):Bb P G o F H (.one (.d (.val (.int k r)))) []:=hr ▸ GI ho hx hy
theorem Agq {P:Program} {G:World→Prop} {o:Oper} {F:Frm} {H:List Ob} {t t':TypeId} {x y:Operand} {p q r:Bool} (ho:o.op=.binOp .eql t x y t') (ht:P.underlying t=some .bool) (hx:F.ev x=.one (.d (.val (.bool p)))) (hy:F.ev y=.one (.d (.val (.bool q)))) (hr:(p == q)=r):Bb P G o F H (.one (.d (.val (.bool r)))) []:=by
 subst hr
 refine Dn ho hx hy (fun w=>?_) rfl
 have h1:(Op.equal t (.bool p) (.bool q)).run P w=.ok (p == q) w:=by
  have key:∀ d:Nat,(Op.equalIn (d+1) t (.bool p) (.bool q)).run P w=.ok (p == q) w:=fun d=>by simp [Op.equalIn,run_underlying ht]
  exact key 9999
 simp [eqGuard,binOp,h1]
theorem AoO (x:Int):sg (!decide (x<0)) x.natAbs = -x:=by
 unfold sg
 by_cases h:x<0
 ·simp only [h,decide_true,fb,dr,if_false];omega
 ·simp only [h,decide_false,fd,if_true];omega
theorem Alo (x:Int):sg (decide (x<0)) x.natAbs=x:=by
 unfold sg
 by_cases h:x<0
 ·simp only [h,decide_true,if_true];omega
 ·simp only [h,decide_false,dr,if_false];omega
theorem Ain (x:Int) (k:Nat):sg (decide (x<0)) (x.natAbs*2 ^ k)=x*2 ^ k:=by
 have h1:=Alo x
 unfold sg at *
 by_cases h:x<0
 ·simp only [h,decide_true,if_true] at *
  conv=>rhs;rw [←h1]
  rw [jx,ct,Int.natCast_pow]
  rfl
 ·simp only [h,decide_false,dr,if_false] at *
  conv=>rhs;rw [←h1]
  rw [jx,Int.natCast_pow]
  rfl
theorem AoP (h:p:=by
 unfold sg
 cases hx:decide (x<0) <;> cases hy:decide (y<0) <;> simp only [hx,hy] at h ⊢ <;> simp at h ⊢ <;> omega):p:=h
theorem Agr (x:Int) (dx:Nat) (y:Int) (dy:Nat) :
  (decide (x<0)=decide (y<0)→Cb x dx y dy=nf (sg (decide (x<0)) (x.natAbs*2 ^ (max dx dy - dx)+y.natAbs*2 ^ (max dx dy - dy))) (max dx dy)) ∧
  (¬ decide (x<0)=decide (y<0)→y.natAbs*2 ^ (max dx dy - dy)≤x.natAbs*2 ^ (max dx dy - dx)→Cb x dx y dy=nf (sg (decide (x<0)) (x.natAbs*2 ^ (max dx dy - dx) - y.natAbs*2 ^ (max dx dy - dy))) (max dx dy)) ∧
  (¬ decide (x<0)=decide (y<0)→¬ y.natAbs*2 ^ (max dx dy - dy)≤x.natAbs*2 ^ (max dx dy - dx)→Cb x dx y dy=nf (sg (decide (y<0)) (y.natAbs*2 ^ (max dx dy - dy) - x.natAbs*2 ^ (max dx dy - dx))) (max dx dy)):=by
 have h1:=Ain x (max dx dy - dx)
 have h2:=Ain y (max dx dy - dy)
 unfold Cb
 rw [←h1,←h2]
 generalize x.natAbs*2 ^ (max dx dy - dx)=p
 generalize y.natAbs*2 ^ (max dx dy - dy)=q
 refine ⟨fun h=>?_,fun h hle=>?_,fun h hle=>?_⟩
 ·rw [←h]
  congr 1
  unfold sg
  split <;> omega
 ·congr 1
  exact AoP
 ·congr 1
  exact AoP
theorem DX {x:Int} {d:Nat} (h:Nf x d):Ac x d 0=(x,d):=by
 unfold Ac
 rw [if_neg (by decide)]
 show nf (x*2 ^ 0) d=_
 rw [Int.pow_zero,je]
 exact Gl h.2
theorem Lm (n:Int) (h1 : -9223372036854775808≤n) (h2:n<9223372036854775808):CV prog An 68 [aI n] [aDy false n 0]:=CVF.cv fun w S vs hg hlt ha=>by
 obtain ⟨u,hu,h3⟩:=BI ha
 subst hu
 cases h3
 exact (Abm n h1 h2 w hg).mono fun r w' ⟨v,he,hd,hb⟩=>⟨v,he,LZ hd,hb⟩
theorem BR (x:Int) (d:Nat) (n:Int) (hn:Nf x d) (hl:(Ad x.natAbs).length≤50000) (hd:(d:Int) - max (-65536) (min n 65536)≤65536):CV prog An 21 [aDy false x d,aI n] [aDy false (Ac x d n).1 (Ac x d n).2]:=CVF.cv fun w S vs hg hlt ha=>by
 obtain ⟨v,vs',rfl,h1,ha⟩:=ha.uncons
 obtain ⟨u,hu,h2⟩:=BI ha
 subst hu
 cases h2
 exact (QL (Ll h1 hlt hn) (aa _) hl hd hg).mono fun r w' ⟨v,he,hd,hb⟩=>⟨v,he,LZ hd,hb⟩
theorem AcE (x:Int) (dx:Nat) (y:Int) (dy:Nat):Cm x dx y dy=AaF x dx y dy:=by
 unfold Cm AaF Cb
 rw [Acq (AaY _ _),ct]
 rfl
theorem Ec (x:Int) (dx:Nat) (y:Int) (dy:Nat) (hnx:Nf x dx) (hny:Nf y dy) (lx:(Ad x.natAbs).length≤40000) (ly:(Ad y.natAbs).length≤40000):CV prog An 15 [aDy false x dx,aDy false y dy] [aI (Cm x dx y dy)]:=CVF.cv fun w S vs hg hlt ha=>by
 obtain ⟨v,vs',rfl,h1,ha⟩:=ha.uncons
 obtain ⟨u,hu,h2⟩:=BI ha
 subst hu
 exact (AfT (Ll h1 hlt hnx) (Ll h2 hlt hny) (aa _) (lT lx (by decide)) (lT ly (by decide))).mono fun r w' ⟨he,hb⟩=>⟨_,he.trans (by rw [AcE]),Bh.val rfl,hb⟩
theorem AoQ (h:p:=by first|exact xCl func69 (PX)|exact xCl func69 (PY)):p:=h
theorem AoR (h:p:=by first|exact xCl func70 (LX)|exact xCl func70 (LY)):p:=h
theorem Ags (x:Int) (dx:Nat) (y:Int) (dy:Nat) (hnx:Nf x dx) (hny:Nf y dy) (lx:(Ad x.natAbs).length≤40000) (ly:(Ad y.natAbs).length≤40000):CV prog An 56 [aDy false x dx,aDy false y dy] [aB (decide (x<0)),.one (Hz false (x.natAbs*2 ^ ((max dx dy) - dx))),aB (decide (y<0)),.one (Hz false (y.natAbs*2 ^ ((max dx dy) - dy))),aI ((max dx dy):Nat)]:=by
 refine cvz func56 ntmps56 ?_
 have PX:=Fz (G:=An) x dx hnx (lT lx (by decide))
 have PY:=Fz (G:=An) y dy hny (lT ly (by decide))
 have hdx:=hnx.1
 have hdy:=hny.1
 have hm:(max (dx:Int) (dy:Int))=(((max dx dy):Nat):Int):=by omega
 have LX:=XS x.natAbs ((max dx dy) - dx) (lT lx (by decide)) (by omega)
 have LY:=XS y.natAbs ((max dx dy) - dy) (lT ly (by decide)) (by omega)
 have e1:(((max dx dy) - dx:Nat):Int)=(((max dx dy):Nat):Int) - (dx:Int):=by omega
 have e2:(((max dx dy) - dy:Nat):Int)=(((max dx dy):Nat):Int) - (dy:Int):=by omega
 rw [e1] at LX
 rw [e2] at LY
 repeat' (with_reducible first|refine qq ?_|(refine Tx 0 ?_;refine gN xBo <| gN xBo <| gO xA <| gO xA <| gO xA <| gO xA <| gO xA ?_)|(refine Tx 1 ?_;refine gO xL <| gO AoQ <| gO xMt <| gO xEx <| gO xEx <| gO xEx <| gO xA <| gO xA <| gO xA ?_)|(refine Tx 2 ?_;refine gO xL <| gO AoQ <| gO xMt <| gO xEx <| gO xEx <| gO xEx <| gO xA <| gO xA <| gO xA ?_)|(refine Tx 3 ?_;refine gO xM <| gO xM <| gO (by first|exact AcD rfl rfl rfl hm|exact GI rfl rfl rfl) <| gO xA ?_)|(refine Tx 4 ?_;refine gO xM <| gO xM <| gO xM <| gO xM <| gO xSb <| gO AoR <| gO xM <| gO xM <| gO xM <| gO xM <| gO xSb <| gO AoR <| gO xM <| gO xA <| gO xA <| gO xA <| gO xA <| gO xA ?_))
 exact Ax rfl (.cons_ (DJ rfl rfl) (.cons_ (.tmp (.one (CA rfl fun _=>XR _))) (.cons_ (DJ rfl rfl) (.cons_ (.tmp (.one (CA rfl fun _=>XR _))) (.cons_ (QX rfl rfl) .nil_)))))
theorem Alp {p':Prop} (k:p') (h:Hd9 p'→p:=by with_reducible first|(intro Z9;refine qq ?_;exact Z9.o)|(intro Z9;refine Tx 0 ?_;refine gN xBo <| gN xBo <| gN (xAl Av) ?_;exact Z9.o)|(intro Z9;refine Tx 1 ?_;refine gO xL <| gO xL <| gO (xCl func56 (AL)) <| gO xMt <| gO xEx <| gO xEx <| gO xEx <| gO xEx <| gO xEx <| gO xA <| gO xA <| gO xA <| gO xA <| gO xA ?_;exact Z9.o)|(intro Z9;refine Tx 2 ?_;refine gO xM <| gO xM <| gO (xCl func57 (CP.cv)) <| gO xA ?_;exact Z9.o)|(intro Z9;refine Tx 3 ?_;refine gO xM <| gO xM <| gO (by first|exact Agq rfl underlying4 rfl rfl hsb|exact xEq) <| gO xA ?_;exact Z9.o)|fail):p:=h ⟨k⟩
theorem Qv (h:p:=by
 exact Ax rfl (.cons_ (rvW Ae rfl) .nil_)):p:=h
theorem Db (x:Int) (dx:Nat) (y:Int) (dy:Nat) (hnx:Nf x dx) (hny:Nf y dy) (lx:(Ad x.natAbs).length≤40000) (ly:(Ad y.natAbs).length≤40000):CV prog An 152 [aDy false x dx,aDy false y dy] [aDy false (Cb x dx y dy).1 (Cb x dx y dy).2]:=by
 refine cvz func152 ntmps152 ?_
 have AL:=Ags x dx y dy hnx hny lx ly
 have hdx:=hnx.1
 have hdy:=hny.1
 have hX:(Ad (x.natAbs*2 ^ ((max dx dy) - dx))).length≤50000:=lT (Bs x.natAbs ((max dx dy) - dx)) (by omega)
 have hY:(Ad (y.natAbs*2 ^ ((max dx dy) - dy))).length≤50000:=lT (Bs y.natAbs ((max dx dy) - dy)) (by omega)
 have CP:=VW (G:=An) false false (x.natAbs*2 ^ ((max dx dy) - dx)) (y.natAbs*2 ^ ((max dx dy) - dy)) (by omega) (by omega)
 have SU:=Agr x dx y dy
 generalize (x.natAbs*2 ^ ((max dx dy) - dx))=p at *
 generalize (y.natAbs*2 ^ ((max dx dy) - dy))=q at *
 obtain ⟨S1,S2,S3⟩:=SU
 have hpq:=Ew p q
 by_cases hs:decide (x<0)=decide (y<0)
 case pos =>
  have NA:=Alk p q (by omega) (by omega)
  have RS:=EK false (decide (x<0)) (p+q) (max dx dy) (by omega) (by omega)
  rw [←S1 hs] at RS
  have hsb:=beq_iff_eq.2 hs
  repeat' (with_reducible first|refine Alp ?_|(refine Tx 4 ?_;refine gO xM <| gO xM <| gO xM <| gO (xCl func73 (NA)) <| gO xM <| gO (xCl func71 (RS.cv)) <| gZ (xSk Ae) ?_))
  exact Qv
 have hsb:(decide (x<0) == decide (y<0))=false:=beq_eq_false_iff_ne.2 hs
 by_cases hc:q≤p
 case pos =>
  have NS:=Acz p q hc (by omega)
  have RS:=EK false (decide (x<0)) (p - q) (max dx dy) (lT (AZ (Nat.sub_le p q)) (by omega)) (by omega)
  rw [←S2 hs hc] at RS
  have hge:0≤sgI ((p:Int) - (q:Int)):=by rw [BZ];(repeat' split) <;> omega
  repeat' (with_reducible first|refine Alp ?_|(refine Tx 5 ?_;refine gO xM <| gO xGe <| gO xA ?_)|(refine Tx 6 ?_;refine gO xM <| gO xM <| gO xM <| gO (xCl func229 (NS)) <| gO xM <| gO (xCl func71 (RS.cv)) <| gZ (xSk Ae) ?_))
  exact Qv
 have NS:=Acz q p (by omega) (by omega)
 have RS:=EK false (decide (y<0)) (q - p) (max dx dy) (lT (AZ (Nat.sub_le q p)) (by omega)) (by omega)
 rw [←S3 hs hc] at RS
 have hge:¬ 0≤sgI ((p:Int) - (q:Int)):=by rw [BZ];(repeat' split) <;> omega
 repeat' (with_reducible first|refine Alp ?_|(refine Tx 5 ?_;refine gO xM <| gO xGe <| gO xA ?_)|(refine Tx 7 ?_;refine gO xM <| gO xM <| gO xM <| gO (xCl func229 (NS)) <| gO xM <| gO (xCl func71 (RS.cv)) <| gZ (xSk Ae) ?_))
 exact Qv
theorem Ou (x:Int) (dx:Nat) (hnx:Nf x dx) (lx:(Ad x.natAbs).length≤40000):CV prog An 176 [aDy false x dx] [aDy false (-x) dx]:=by
 refine cvz func176 ntmps176 ?_
 have PX:=Fz (G:=An) x dx hnx (lT lx (by decide))
 have hdx:=hnx.1
 have RS:=EK false (!decide (x<0)) x.natAbs dx (lT lx (by decide)) hdx
 rw [show nf (sg (!decide (x<0)) x.natAbs) dx=(-x,dx) by rw [AoO];exact Gl fun h=>by have:=hnx.2 h;omega] at RS
 repeat' (with_reducible first|refine qq ?_|(refine Tx 0 ?_;refine gN xBo <| gN (xAl Av) ?_)|(refine Tx 1 ?_;refine gO xL <| gO (xCl func69 (PX)) <| gO xMt <| gO xEx <| gO xEx <| gO xEx <| gO xA <| gO xA <| gO xA ?_)|(refine Tx 2 ?_;refine gO xM <| gO (by first|exact xNt|exact xNg) <| gO xM <| gO xM <| gO (xCl func71 (RS.cv)) <| gZ (xSk Ae) ?_))
 exact Qv
theorem Ov (x:Int) (dx:Nat) (hnx:Nf x dx) (lx:(Ad x.natAbs).length≤40000):CV prog An 158 [aDy false x dx] [aDy false ((x.natAbs:Nat):Int) dx]:=by
 refine cvz func158 ntmps158 ?_
 have PX:=Fz (G:=An) x dx hnx (lT lx (by decide))
 have hdx:=hnx.1
 have RS:=EK false false x.natAbs dx (lT lx (by decide)) hdx
 rw [show nf (sg false x.natAbs) dx=(((x.natAbs:Nat):Int),dx) from Gl fun h=>by have:=hnx.2 h;show ((x.natAbs:Nat):Int) % 2=1;omega] at RS
 repeat' (with_reducible first|refine qq ?_|(refine Tx 0 ?_;refine gN xBo <| gN (xAl Av) ?_)|(refine Tx 1 ?_;refine gO xL <| gO (xCl func69 (PX)) <| gO xMt <| gO xEx <| gO xEx <| gO xEx <| gO xA <| gO xA <| gO xA ?_)|(refine Tx 2 ?_;refine gO xM <| gO xM <| gO (xCl func71 (RS.cv)) <| gZ (xSk Ae) ?_))
 exact Qv
theorem Agt (x:Int) (dx:Nat) (y:Int) (dy:Nat) (hnx:Nf x dx) (hny:Nf y dy) (lx:(Ad x.natAbs).length≤40000) (ly:(Ad y.natAbs).length≤40000):CV prog An 224 [aDy false x dx,aDy false y dy] [aDy false (Cb x dx (-y) dy).1 (Cb x dx (-y) dy).2]:=by
 refine cvz func224 ntmps224 ?_
 have NG:=Ou y dy hny ly
 have AD:=Db x dx (-y) dy hnx ⟨hny.1,fun h=>by have:=hny.2 h;omega⟩ lx (by rw [Int.natAbs_neg];exact ly)
 repeat' (with_reducible first|refine qq ?_|(refine Tx 0 ?_;refine gN xBo <| gN xBo <| gN (xAl Av) ?_)|(refine AJ (id:=1) 4 AX (by kernel_rfl) ?_;dsimp only [List.take,List.drop];refine gP xL <| gP xL <| gP (xCl func176 (NG)) <| gP (xCl func152 (AD)) ?_;refine Ke ?_;refine gZ (xSk Ae) ?_))
 exact Qv
theorem Mc (x:Int) (dx:Nat) (y:Int) (dy:Nat) (hnx:Nf x dx) (hny:Nf y dy) (lx:(Ad x.natAbs).length≤40000) (ly:(Ad y.natAbs).length≤40000):CV prog An 225 [aDy false x dx,aDy false y dy] [aDy false (Dt x dx y dy).1 (Dt x dx y dy).2]:=by
 refine cvz func225 ntmps225 ?_
 have CM:=Ec x dx y dy hnx hny lx ly
 have SX:=BR x dx 0 hnx (lT lx (by decide)) (by have:=hnx.1;omega)
 have SY:=BR y dy 0 hny (lT ly (by decide)) (by have:=hny.1;omega)
 rw [DX hnx] at SX
 rw [DX hny] at SY
 by_cases h:Cm x dx y dy≤0
 case pos =>
  rw [show Dt x dx y dy=(x,dx) from if_neg (by omega)]
  repeat' (with_reducible first|refine qq ?_|(refine Tx 0 ?_;refine gN xBo <| gN xBo <| gN (xAl Av) ?_)|(refine Tx 1 ?_;refine gO xL <| gO xL <| gO (xCl func15 (CM)) <| gO xLe ?_)|(refine Tx 2 ?_;refine gO xL <| gO (xCl func21 (SX)) <| gZ (xSk Ae) ?_))
  exact Qv
 case neg =>
  rw [show Dt x dx y dy=(y,dy) from if_pos (by omega)]
  repeat' (with_reducible first|refine qq ?_|(refine Tx 0 ?_;refine gN xBo <| gN xBo <| gN (xAl Av) ?_)|(refine Tx 1 ?_;refine gO xL <| gO xL <| gO (xCl func15 (CM)) <| gO xLe ?_)|(refine Tx 3 ?_;refine gO xL <| gO (xCl func21 (SY)) <| gZ (xSk Ae) ?_))
  exact Qv
theorem ED (x:Int) (dx:Nat) (y:Int) (dy:Nat) (hnx:Nf x dx) (hny:Nf y dy) (lx:(Ad x.natAbs).length≤40000) (ly:(Ad y.natAbs).length≤40000):CV prog An 156 [aDy false x dx,aDy false y dy] [aDy false (Dx x dx y dy).1 (Dx x dx y dy).2]:=by
 refine cvz func156 ntmps156 ?_
 have CM:=Ec x dx y dy hnx hny lx ly
 have SX:=BR x dx 0 hnx (lT lx (by decide)) (by have:=hnx.1;omega)
 have SY:=BR y dy 0 hny (lT ly (by decide)) (by have:=hny.1;omega)
 rw [DX hnx] at SX
 rw [DX hny] at SY
 by_cases h:0≤Cm x dx y dy
 case pos =>
  rw [show Dx x dx y dy=(x,dx) from if_neg (by omega)]
  repeat' (with_reducible first|refine qq ?_|(refine Tx 0 ?_;refine gN xBo <| gN xBo <| gN (xAl Av) ?_)|(refine Tx 1 ?_;refine gO xL <| gO xL <| gO (xCl func15 (CM)) <| gO xGe ?_)|(refine Tx 2 ?_;refine gO xL <| gO (xCl func21 (SX)) <| gZ (xSk Ae) ?_))
  exact Qv
 case neg =>
  rw [show Dx x dx y dy=(y,dy) from if_pos (by omega)]
  repeat' (with_reducible first|refine qq ?_|(refine Tx 0 ?_;refine gN xBo <| gN xBo <| gN (xAl Av) ?_)|(refine Tx 1 ?_;refine gO xL <| gO xL <| gO (xCl func15 (CM)) <| gO xGe ?_)|(refine Tx 3 ?_;refine gO xL <| gO (xCl func21 (SY)) <| gZ (xSk Ae) ?_))
  exact Qv
structure Rv where
 nb:Bool
 ws:List Nat
 den:Int
def Rv.rw (r:Rv):Rw:=⟨r.nb,none,r.ws,0,r.den⟩
def dRv (t:Bool) (r:Rv):List D:=[.val (.bool r.nb),.row t 1 r.ws.length (r.ws.map dW),.val (.int .i64 r.den)]
def aRv (t:Bool) (r:Rv):A:=.agg (dRv t r)
theorem AoS {w:World} {S:Du} {t:Bool} {r:Rv} {v:Value} (h:Em w S (aRv t r) v) (hS:∀ t b,S t b→b<w.heap.size) (hw:Ao r.ws):∃ A c,v=(⟨r.nb,A,r.ws,c,r.den⟩:Rw).val∧Alm w w.heap.size ⟨r.nb,A,r.ws,c,r.den⟩:=by
 obtain ⟨xs,rfl,h1⟩:=h
 obtain ⟨a,l1,rfl,ha,h2⟩:=h1.uncons
 obtain ⟨b,l2,rfl,hb,h3⟩:=h2.uncons
 obtain ⟨c,l3,rfl,hc,h4⟩:=h3.uncons
 rw [h4.unnil]
 cases ha
 cases hc
 obtain ⟨A,c,rfl,q1,q2,q3,_⟩:=Oo hb hS rfl
 exact ⟨A,c,rfl,q1,q2,q3,hw⟩
section
variable {G:World→Prop}
theorem Md (t:Bool) (r:Rv) (hw:Ao r.ws) (hl:r.ws.length≤1000000):CVF prog G 123 [aRv t r] [aB (vdB r.rw)]:=fun w S vs hg hlt ha=>by
 obtain ⟨u,hu,h1⟩:=BI ha
 subst hu
 obtain ⟨A,c,rfl,hat⟩:=AoS h1 hlt hw
 exact (ZC _ _ w (aa _) hat hl).mono fun r w' ⟨he,hb⟩=>⟨_,he,Bh.val rfl,hb⟩
theorem Uq (t:Bool) (r:Rv) (hw:Ao r.ws) (hl:r.ws.length≤1000000):CVF prog G 81 [aRv t r] [aB (vdB r.rw)]:=fun w S vs hg hlt ha=>by
 obtain ⟨u,hu,h1⟩:=BI ha
 subst hu
 obtain ⟨A,c,rfl,hat⟩:=AoS h1 hlt hw
 exact (ZD _ _ w (aa _) hat hl).mono fun r w' ⟨he,hb⟩=>⟨_,he,Bh.val rfl,hb⟩
end
theorem Sv {t:Bool} {r:Rv} (hw:Ao r.ws) (hv:vdB r.rw=true):dRv t r=dDy t r.rw.x r.rw.d∧Nf r.rw.x r.rw.d∧(Ad r.rw.x.natAbs).length=r.ws.length:=by
 have hc:Ad r.rw.x.natAbs=r.ws:=by rw [Aln];exact Ago (r:=r.rw) hw hv
 have hP:vdP r.rw:=of_decide_eq_true hv
 have key:r.nb=decide (r.rw.x<0)∧r.den=((r.rw.d:Nat):Int)∧Nf r.rw.x r.rw.d:=by
  by_cases h0:r.ws.length=0
  ·obtain ⟨h1,h2⟩:=(Agn (r:=r.rw) h0).1 hP
   have hx:r.rw.x=0:=by
    have:=Aln r.rw
    rw [show r.rw.ws=[] from bw h0] at this
    have hz:Ay []=0:=rfl
    omega
   have h1':r.nb=false:=h1
   have h2':r.den=0:=h2
   have hd:r.rw.d=0:=by show r.den.toNat=0;rw [h2'];rfl
   rw [hx,hd,h1',h2']
   exact ⟨rfl,rfl,by decide,fun h=>absurd rfl h⟩
  ·obtain ⟨h1,h2,h3,h4⟩:=(AcA (r:=r.rw) h0).1 hP
   have h2':0≤r.den:=h2
   have h3':r.den≤65536:=h3
   have hd:((r.rw.d:Nat):Int)=r.den:=mb h2'
   have hpos:Ay r.ws≠0:=fun hz=>by
    rw [Aln,show r.rw.ws=r.ws from rfl,hz,AK] at hc
    rw [←hc] at h0
    exact h0 rfl
   have hodd:r.rw.d≠0→Ay r.ws % 2=1:=fun hne=>by
    rcases h4 with h|h
    ·have h':r.den=0:=h
     omega
    ·have h':r.ws[0]?.getD 0 % 2=1:=h
     have:=LA hw 0
     simp only [Nat.pow_zero,Nat.div_one,Nat.zero_div,Nat.zero_mod] at this
     omega
   have hx:r.rw.x=sg r.nb (Ay r.ws):=rfl
   refine ⟨?_,hd.symm,by omega,fun hne=>?_⟩
   ·rw [hx]
    unfold sg
    cases r.nb
    ·simp
    ·simp;omega
   ·have:=hodd hne
    rw [hx]
    unfold sg
    split <;> omega
 obtain ⟨k1,k2,k3⟩:=key
 refine ⟨?_,k3,by rw [hc]⟩
 unfold dRv dDy wds
 rw [hc,←k1,←k2,ZB]
theorem AoT {ds:List D}:∀ c∈ds.map C.d,C.bel n c:=fun c hc=>by
 obtain ⟨d,_,rfl⟩:=List.mem_map.1 hc
 trivial
def AoU (a d:Nat):Bool:=decide (4096<max (CS a) d)
theorem Agu (a:Nat) (l1:(Ad a).length≤200000):CV prog An 252 [.one (Hz false a)] [aI (CS a:Nat)]:=by
 refine cvz func252 ntmps252 ?_
 by_cases h0:a=0
 case pos =>
  subst h0
  have l0:((Ad 0).length:Int)=0:=by rw [AK];rfl
  rw [show CS 0=0 from rfl]
  repeat' (with_reducible first|refine qq ?_|(refine Tx 0 ?_;refine gO xA ?_)|(refine Tx 1 ?_;refine gO xM <| gO xN <| gO xEq ?_)|(refine Tx 2 ?_;refine gO xA ?_))
  exact Ax rfl (.cons_ (QX rfl rfl) .nil_)
 obtain ⟨p,L,hL,hp,p0,hp1,hpd⟩:=Rf h0
 have hi:((Ad a).length:Int)=(L:Int)+1:=by omega
 have LN:=Agp p hp1
 have hx2:=Uo hp
 have hb:=ZE hpd p0
 have e1:((Ad a).length:Int) - 1=(L:Int):=by omega
 rw [hb]
 have hq:CS p≤32:=HG.2 (by simpa using hp1)
 repeat' (with_reducible first|refine qq ?_|(refine Tx 0 ?_;refine gO xA ?_)|(refine Tx 1 ?_;refine gO xM <| gO xN <| gO xEq ?_)|(refine Tx 3 ?_;refine gO xM <| gO xN <| gO xSb <| gO (by exact Ht rfl rfl rfl (by omega)) <| gO xM <| gO xM <| gO xN <| gO xSb <| gO (by exact TR (i:=L) rfl rfl rfl (by omega) AH (by omega) (by decide) (hx2)) <| gO xD <| gO (xCl func257 (LN.cv)) <| gO xAd <| gO xA ?_))
 exact Ax rfl (.cons_ (.tmp (.one (by rw [show 32*(((Ad a).length:Int) - 1)+((CS p:Nat):Int)=((32*L+CS p:Nat):Int) by omega];exact CA rfl fun h=>.val _))) .nil_)
theorem Sw (x:Int) (dx:Nat) (hnx:Nf x dx) (lx:(Ad x.natAbs).length≤40000):CV prog An 212 [aDy false x dx] [aI (CS x.natAbs:Nat)]:=by
 refine cvz func212 ntmps212 ?_
 have PX:=Fz (G:=An) x dx hnx (lT lx (by decide))
 have NB:=Agu x.natAbs (by omega)
 repeat' (with_reducible first|refine qq ?_|(refine Tx 0 ?_;refine gN xBo <| gO xA ?_)|(refine Tx 1 ?_;refine gO xL <| gO (xCl func69 (PX)) <| gO xMt <| gO xEx <| gO xEx <| gO xEx <| gO xA <| gO xA <| gO xA ?_)|(refine Tx 2 ?_;refine gO xM <| gO (xCl func252 (NB)) <| gO xA ?_))
 exact Ax rfl (.cons_ (QX rfl rfl) .nil_)
end Go.Proofs.YtmdfjbpggbhgnaaGreatDoor
