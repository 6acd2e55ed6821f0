/- What the proofs of this claim share, part 12. No conditions. -/
import Derived.Test.YtjlkgfeepocjfaaGreatDoorMk11
import Derived.Test.YtjlkgfeepocjfaaGreatDoorMk10
import Derived.Test.YtjlkgfeepocjfaaGreatDoorMk6
set_option maxRecDepth 100000
set_option maxHeartbeats 4000000
set_option linter.all false
open Go.Proofs.Tryz
namespace Go.Proofs.YtjlkgfeepocjfaaGreatDoor
open Go.RowKit
variable {n:Nat} {p p':Prop}
theorem Acx {P:Program} {G:World→Prop} {o:Oper} {F:Frm} {H:List Ob} {t e:TypeId} {x l:Operand} {tg:Bool} {s lo:Nat} {k:IntKind} {z:Int} {cs:List D} (ho:o.op=.slice t x (some l) none none) (hx:F.ev x=.one (.d (.row tg s n cs))) (hl:F.ev l=.one (.d (.val (.int k z)))) (hz:z=(lo:Int)) (ht:TyS P t e s) (h1:lo≤n) :
  AZ P G o F H (.one (.d (.row tg s (n - lo) (cs.drop (lo*s))))) []:=Ce fun b0 m a hp hcx hor=>by
 subst hz
 have hv:=Bc hor (x:=x) (by rw [ho];simp [Op.operands])
 have el:=DK (m:=m) (v:=a.eval l) (by rw [←hl];exact Bc hor (by rw [ho];simp [Op.operands]))
 rw [hx] at hv
 have hv':Bx m.w m.S (.row tg s n cs) (a.eval x):=hv
 generalize hxe:a.eval x=u at hv'
 cases hv' with
 | @row _ _ _ cap _ A xs hc hA hln hxl hm hr =>
  obtain ⟨ie,hi1,hi2⟩:=Option.map_eq_some_iff.1 ht.s
  have hls:lo*s≤n*s:=Nat.mul_le_mul_right _ h1
  have e3:(n:Int)≤(cap:Int):=by omega
  have e4:(lo:Int)≤(n:Int):=by omega
  have e6:(0:Int)≤(lo:Int):=by omega
  refine ⟨.slice (if cap=lo then A else A.map (·.add (lo*s))) (n - lo) (cap - lo),?_,Bx.row (xs.drop (lo*s)) (by omega) (fun h0=>?_) ?_ ?_ (fun hne=>?_) (fun j u x hu hj=>?_)⟩
  ·unfold execOp
   simp [ho,hxe,el,Instr.sliceAt,Instr.slice,run_underlying ht.h,Instr.sliceBounds,Instr.sliceBound,asIntOf,sizeOf,typeInfo,hi1,hi2,h1,hc]
  ·split at h0
   ·omega
   ·cases A with
    | none=>have:=hA rfl;omega
    | some p=>simp at h0
  ·rw [gn,hln,Nat.sub_mul]
  ·simp [hxl]
  ·have hcne:cs≠[]:=fun h0=>hne (by rw [h0];simp)
   obtain ⟨b,off,rfl,hb,hcells⟩:=hm hcne
   have hcl:cap≠lo:=fun h0=>hne (by
    refine bz ?_
    rw [gn,hln,show n=lo by omega,et])
   rw [if_neg hcl]
   refine ⟨b,off+lo*s,by simp [lm],hb,fun j x hj=>?_⟩
   rw [bt] at hj
   rw [gh]
   exact hcells _ x hj
  ·rw [bt] at hu hj
   exact hr _ u x hu hj
theorem LD (G:World→Prop) (t:Bool) (x:Int) (dx:Nat) (hn:Nf x dx) (l1:(Ac x.natAbs).length≤50000):CVF prog G 105 [aDy t x dx] [aDy false (-x) dx]:=fun w S vs hg hlt ha=>by
 obtain ⟨u,hu,h2⟩:=BM ha
 subst hu
 exact (Aog (Hd h2 hlt hn) (aa _) (lT l1 (by decide))).mono fun r w' ⟨v,he,hd,hb⟩=>⟨v,he,FG hd,hb⟩
theorem Wc (G:World→Prop) (t:Bool) (x:Int) (dx:Nat) (hn:Nf x dx) (l1:(Ac x.natAbs).length≤50000):CVF prog G 194 [aDy t x dx] [aDy false (((x.natAbs:Nat):Int)) dx]:=fun w S vs hg hlt ha=>by
 obtain ⟨u,hu,h2⟩:=BM ha
 subst hu
 exact (ArC (Hd h2 hlt hn) (aa _) (lT l1 (by decide))).mono fun r w' ⟨v,he,hd,hb⟩=>⟨v,he,FG hd,hb⟩
theorem Po (G:World→Prop) (t t':Bool) (x:Int) (dx:Nat) (y:Int) (dy:Nat) (hn:Nf x dx) (hm:Nf y dy) (l1:(Ac x.natAbs).length≤50000) (l2:(Ac y.natAbs).length≤50000):CVF prog G 197 [aDy t x dx,aDy t' y dy] [aDy false (CR x dx y dy).1 (CR x dx y dy).2]:=fun w S vs hg hlt ha=>by
 obtain ⟨v,vs',rfl,h1,ha⟩:=ha.uncons
 obtain ⟨u,hu,h2⟩:=BM ha
 subst hu
 exact (Nb (Hd h1 hlt hn) (Hd h2 hlt hm) (aa _) (aa _) l1 l2).mono fun r w' ⟨v,he,hd,hb⟩=>⟨v,he,FG hd,hb⟩
theorem Wd (G:World→Prop) (t t':Bool) (x:Int) (dx:Nat) (y:Int) (dy:Nat) (hn:Nf x dx) (hm:Nf y dy) (l1:(Ac x.natAbs).length≤50000) (l2:(Ac y.natAbs).length≤50000):CVF prog G 214 [aDy t x dx,aDy t' y dy] [aDy false (GW x dx y dy).1 (GW x dx y dy).2]:=fun w S vs hg hlt ha=>by
 obtain ⟨v,vs',rfl,h1,ha⟩:=ha.uncons
 obtain ⟨u,hu,h2⟩:=BM ha
 subst hu
 exact (AkU (Hd h1 hlt hn) (Hd h2 hlt hm) (aa _) l1 l2).mono fun r w' ⟨v,he,hd,hb⟩=>⟨v,he,FG hd,hb⟩
theorem Hq (G:World→Prop) (t t':Bool) (x:Int) (dx:Nat) (y:Int) (dy:Nat) (hn:Nf x dx) (hm:Nf y dy) (l1:(Ac x.natAbs).length≤50000) (l2:(Ac y.natAbs).length≤50000):CVF prog G 117 [aDy t x dx,aDy t' y dy] [aDy false (FX x dx y dy).1 (FX x dx y dy).2]:=fun w S vs hg hlt ha=>by
 obtain ⟨v,vs',rfl,h1,ha⟩:=ha.uncons
 obtain ⟨u,hu,h2⟩:=BM ha
 subst hu
 exact (AkV (Hd h1 hlt hn) (Hd h2 hlt hm) (aa _) l1 l2).mono fun r w' ⟨v,he,hd,hb⟩=>⟨v,he,FG hd,hb⟩
structure Sm (p:Int × Nat) (n d:Nat):Prop where
 ok:Nf p.1 p.2
 n:p.1.natAbs<2 ^ n
 d:p.2≤d
theorem Acy (k:Nat) (h:n≤32*k):2 ^ n≤4294967296 ^ k:=by
 rw [show (4294967296:Nat)=2 ^ 32 from rfl,←dt]
 exact au (by decide) h
theorem Sm.lenN {p:Int × Nat} {d:Nat} (h:Sm p n d) (k:Nat) (hn:n≤32*k):(Ac p.1.natAbs).length≤k:=Aw (al h.n (Acy k hn))
theorem Sm.l4 {p:Int × Nat} {d:Nat} (h:Sm p n d) (hn:n≤32*625:=by decide):(Ac p.1.natAbs).length≤40000:=lT (h.lenN 625 hn) (by decide)
theorem Sm.lz {p:Int × Nat} {d k:Nat} (h:Sm p n d) (hn:n≤32*k:=by decide):(Ac p.1.natAbs).length≤k:=h.lenN k hn
theorem Sm.more {p:Int × Nat} {d n' d':Nat} (h:Sm p n d) (h1:n≤n') (h2:d≤d'):Sm p n' d':=⟨h.ok,al h.n (au (by decide) h1),lT h.d h2⟩
theorem Sm.mk_nf {m:Int} {p d:Nat} (hd:p≤d) (h:p≤65536) (hm:m.natAbs<2 ^ n):Sm (nf m p) n d:=⟨Nf.nf h,gk (He m p) hm,lT (Vv m p) hd⟩
theorem Sm.shift {x k:Int} (h1 : -200≤k) (h2:k≤200) (hx:x.natAbs<2 ^ n):Sm (Af x 0 k) (n+200) 200:=by
 unfold Af
 rw [show max (-65536) (min k 65536)=k by omega]
 split
 ·exact (Sm.mk_nf (by omega) (by omega) hx).more (by omega) (aa _)
 ·refine Sm.mk_nf (by omega) (by omega) ?_
  rw [gl,fx,bi]
  exact gk (gi _ (au (by decide) (show k.toNat≤200 by omega))) (jk hx (Nat.pow_pos (by decide)))
section
variable {p q:Int × Nat} {X Y Z:Int} {n m d:Nat}
theorem Sm.neg (h:Sm p n d):Sm (-p.1,p.2) n d:=⟨⟨h.ok.1,fun h0=>by have:=h.ok.2 h0;show (-p.1) % 2=1;omega⟩,by show (-p.1).natAbs<_;rw [jb];exact h.n,h.d⟩
theorem Sm.abs (h:Sm p n d):Sm (((p.1.natAbs:Nat):Int),p.2) n d:=⟨⟨h.ok.1,fun h0=>by have:=h.ok.2 h0;show ((p.1.natAbs:Nat):Int) % 2=1;omega⟩,h.n,h.d⟩
theorem Sm.sum (h:Sm p n d) (h2:Sm q n d) (hd:d≤65536):Sm (CR p.1 p.2 q.1 q.2) (n+d+1) d:=by
 have e:∀ r:Int × Nat,Sm r n d→(r.1*2 ^ (Max.max p.2 q.2 - r.2)).natAbs<2 ^ (n+d):=fun r hr=>by
  rw [gl,fx,bi]
  have hpd:=h.d
  have hqd:=h2.d
  exact gk (gi _ (au (by decide) (show Max.max p.2 q.2 - r.2≤d by omega))) (jk hr.n (Nat.pow_pos (by decide)))
 have hpd:=h.d
 have hqd:=h2.d
 refine Sm.mk_nf (by omega) (by omega) ?_
 have h3:=e p h
 have h4:=e q h2
 have h5:=Int.natAbs_add_le (p.1*2 ^ (Max.max p.2 q.2 - p.2)) (q.1*2 ^ (Max.max p.2 q.2 - q.2))
 rw [bj]
 omega
theorem Sm.mul (h:Sm p n d) (h2:Sm q n d) (hd:d≤30000):Sm (Pk p.1 p.2 q.1 q.2) (n+n) (d+d):=by
 have hpd:=h.d
 have hqd:=h2.d
 refine Sm.mk_nf (by omega) (by omega) ?_
 rw [gl,bi]
 exact Nat.mul_lt_mul'' h.n h2.n
theorem Sm.min (h:Sm p n d) (h2:Sm q n d):Sm (GW p.1 p.2 q.1 q.2) n d:=by
 unfold GW
 split
 ·exact h2
 ·exact h
theorem Sm.max (h:Sm p n d) (h2:Sm q n d):Sm (FX p.1 p.2 q.1 q.2) n d:=by
 unfold FX
 split
 ·exact h2
 ·exact h
end
theorem Als (h:p:=by first|exact xNt|exact xNg):p:=h
theorem Acz (p:Prt) (z:Int) (h1 : -9223372036854775808≤z) (h2:z<9223372036854775808) (f1 : -100≤p.fr) (f2:p.fr≤100):CV prog Ah 181 [.agg (Ahz p),aI z] [aDy false (Af z 0 (-p.fr)).1 (Af z 0 (-p.fr)).2]:=by
 refine cvz func181 ntmps181 ?_
 have OF:=Nd (G:=Ah) z (by omega) (by omega)
 have SH:=Ee (G:=Ah) false z 0 (-p.fr) ⟨by decide,fun h=>absurd rfl h⟩ (lT (Aw (k:=2) (by omega)) (by decide)) (by omega)
 repeat' (with_reducible first|refine qq ?_|(refine Tx 0 ?_;refine gN xBo <| gN (xAl Aj) ?_)|(refine Ax (id:=1) 6 AC (by kernel_rfl) ?_;dsimp only [List.take,List.drop];refine gP xM <| gP (xCl func34 (OF.cv)) <| gP xF <| gP xD <| gP Als <| gP (xCl func33 (SH.cv)) ?_;refine Ke ?_;refine gZ (xSk Aa) ?_))
 exact Au rfl (.cons_ (rvW Aa rfl) .nil_)
def dyP (p:Int × Nat):List D:=dDy false p.1 p.2
theorem AfX {l:List (Int × Nat)} {k:Nat} {p:Int × Nat} (h:l[k]?=some p):((An dyP l).drop (k*3)).take 3=dyP p:=FE (f:=dyP) (s:=3) (fun _=>rfl) h
theorem Uj {bs:List Bk}:∀ (f:Nat) (out:List Nat),(∀ l1 j l2,out=l1++j::l2→rdy bs l1 j=true)→∀ l1 j l2,Xu bs f out=l1++j::l2→rdy bs l1 j=true
 | 0,out,h,l1,j,l2,e=>h l1 j l2 e
 | f+1,out,h,l1,j,l2,e=>by
  unfold Xu at e
  cases hn:nxt bs out with
  | none=>rw [hn] at e;exact h l1 j l2 e
  | some i =>
   rw [hn] at e
   refine Uj f (out++[i]) (fun m1 q m2 he=>?_) l1 j l2 e
   rcases List.eq_nil_or_concat m2 with rfl|⟨m3,q',rfl⟩
   ·have h1:=List.append_inj' he rfl
    obtain ⟨rfl,h2⟩:=h1
    cases h2
    exact (RL hn).2
   ·have h1:out++[i]=(m1++q::m3)++[q']:=by rw [he];simp
    exact h m1 q m3 (List.append_inj' h1 rfl).1
theorem AfY {bs:List Bk} {l1 l2:List Nat} {j:Nat} (h:Co bs=l1++j::l2) {a:Int} (ha:a∈NI bs j):Dp bs a.toNat=2∨a.toNat∈l1:=by
 have h1:=Uj bs.length [] (fun m1 q m2 he=>by simp at he) l1 j l2 h
 unfold rdy at h1
 rw [ai] at h1
 have h2:=List.all_eq_true.1 h1.2 a ha
 unfold EU at h2
 simpa using h2
theorem Alt {bs:List Bk} (h:Gb bs=0) {j:Nat} (hj:j<bs.length) (hk:Dp bs j≠2):j∈Co bs:=bu fun hn=>by
 have hlen:(Co bs).length=Dw bs:=by
  unfold Gb at h
  exact bu fun hx=>by rw [if_neg hx] at h;cases h
 have ho:=Pa bs.length (GY.nil bs)
 have:=GY.le (bs:=bs) (out:=j::Co bs) ⟨List.nodup_cons.2 ⟨hn,ho.nodup⟩,fun i hi=>by
  rcases List.mem_cons.1 hi with rfl|hi
  ·exact ⟨hj,hk⟩
  ·exact ho.mem i hi⟩
 rw [bw] at this
 omega
theorem Ek {a b:Int} (h:¬ a=b):(a == b)=false:=beq_eq_false_iff_ne.2 h
theorem Aoy {n e:Int} (h:¬ (n=0∧e=0)):(!(n == 0 && e == 0))=true:=by
 by_cases h1:n=0
 ·rw [Ek (fun h2=>h ⟨h1,h2⟩),je];rfl
 ·rw [Ek h1];rfl
theorem AhR {n e:Int} (h:DN n e):Nf (Af n 0 e).1 (Af n 0 e).2∧(Ac (Af n 0 e).1.natAbs).length≤40000:=by
 unfold DN at h
 have sm:=Sm.shift (n:=32) (x:=n) (k:=e) (by omega) (by omega) (by omega)
 exact ⟨sm.ok,lT (sm.lenN 10 (by decide)) (by decide)⟩
theorem Aoz (k:p') (h:Hd9 p'→p:=by with_reducible first|(intro Z9;refine qq ?_;exact Z9.o)|(intro Z9;refine Tx 0 ?_;refine gO xA ?_;exact Z9.o)|(intro Z9;refine Tx 1 ?_;refine gO xM ?_;exact Z9.o)|(intro Z9;refine Tx 2 ?_;refine gO xEq <| gO xA ?_;exact Z9.o)|(intro Z9;refine Tx 3 ?_;refine gO xA ?_;exact Z9.o)|(intro Z9;refine Tx 4 ?_;refine gO xEq <| gO xA ?_;exact Z9.o)|(intro Z9;refine Tx 5 ?_;refine gO xEq <| gO xA ?_;exact Z9.o)|(intro Z9;refine Tx 6 ?_;refine gO xEq <| gO xA ?_;exact Z9.o)|(intro Z9;refine Tx 7 ?_;refine gO xEq <| gO xA ?_;exact Z9.o)|(intro Z9;refine Tx 8 ?_;refine gO xEq <| gO xA ?_;exact Z9.o)|(intro Z9;refine Tx 9 ?_;refine gO xEq <| gO xA ?_;exact Z9.o)|(intro Z9;refine Tx 10 ?_;refine gO xA ?_;exact Z9.o)|(intro Z9;refine Tx 11 ?_;refine gO xEq <| gO xA ?_;exact Z9.o)|(intro Z9;refine Tx 12 ?_;refine gO xEq <| gO xA ?_;exact Z9.o)|(intro Z9;refine Tx 13 ?_;refine gO xEq <| gO xA ?_;exact Z9.o)|(intro Z9;refine Tx 14 ?_;refine gO xEq <| gO xA ?_;exact Z9.o)|(intro Z9;refine Tx 15 ?_;refine gO xEq <| gO xA ?_;exact Z9.o)|(intro Z9;refine Tx 16 ?_;refine gO xA ?_;exact Z9.o)|(intro Z9;refine Tx 17 ?_;refine gO xA ?_;exact Z9.o)|fail):p:=h ⟨k⟩
theorem AcA (k:Int):CV prog Ah 152 [aI k] [aI (Bw k)]:=by
 refine cvz func152 ntmps152 ?_
 have h:k=1∨k=0∨k=2∨k=5∨k=10∨k=6∨k=11∨k=3∨k=4∨k=7∨k=8∨k=9∨(k≠1∧k≠0∧k≠2∧k≠5∧k≠10∧k≠6∧k≠11∧k≠3∧k≠4∧k≠7∧k≠8∧k≠9):=by omega
 rcases h with rfl|rfl|rfl|rfl|rfl|rfl|rfl|rfl|rfl|rfl|rfl|rfl|h
 rotate_left 12
 ·have e:Bw k = -1:=by unfold Bw;rw [if_neg (by omega),if_neg (by omega),if_neg (by omega)]
  rw [e]
  repeat' (with_reducible first|refine Aoz ?_)
  exact Au rfl (.cons_ (Lw rfl rfl) .nil_)
 all_goals repeat' (with_reducible first|refine Aoz ?_)
 all_goals exact Au rfl (.cons_ (Lw rfl (by decide)) .nil_)
theorem We (k:p') (h:Hd9 p'→p:=by with_reducible first|(intro Z9;refine qq ?_;exact Z9.o)|(intro Z9;refine Tx 0 ?_;refine gN xBo <| gO xA ?_;exact Z9.o)|(intro Z9;refine Tx 1 ?_;refine gO xM <| gO Als ?_;exact Z9.o)|fail):p:=h ⟨k⟩
theorem AcB (k:p') (h:Hd9 p'→p:=by with_reducible first|(intro Z9;refine Tx 5 ?_;refine gO xF <| gO xD <| gO xLe <| gO xM ?_;(first|iterate 3 refine Jd ?_|(refine Jy (xFa Es Az) ?_;refine Jy (xLd Az) ?_;refine Jy xGe ?_));refine gO xPk <| gO xM ?_;(first|iterate 3 refine Jd ?_|(refine Jy (xFa Fa Az) ?_;refine Jy (xLd Az) ?_;refine Jy xLt ?_));refine gO xPk <| gO xM ?_;(first|iterate 3 refine Jd ?_|(refine Jy (xFa Fa Az) ?_;refine Jy (xLd Az) ?_;refine Jy xGt ?_));refine gO xPk ?_;exact Z9.o)|fail):p:=h ⟨k⟩
theorem Fw (h:p:=by
 exact Au rfl (.cons_ (ZB rfl (by decide) (rfl)) .nil_)):p:=h
theorem QQ (n e:Int) (used:Bool):CV prog Ah 153 [.agg [dI n,dI e],aB used] [aE (CD n e used)]:=by
 refine cvz func153 ntmps153 ?_
 cases used
 case false =>
  unfold CD
  rw [if_neg (by decide)]
  by_cases h1:n=0∧e=0
  case pos =>
   rw [if_pos h1]
   obtain ⟨rfl,rfl⟩:=h1
   repeat' (with_reducible first|refine We ?_|(refine Tx 2 ?_;refine gO xL <| gO (by exact AF rfl Hj rfl rfl) <| gO (by first|exact RT rfl rfl rfl (rfl)|exact xNe) ?_)|(refine Tx 4 ?_;refine gO xA ?_))
   exact Au rfl (.cons_ (Hc rfl (rfl)) .nil_)
  case neg =>
   rw [if_neg h1]
   repeat' (with_reducible first|refine We ?_|(refine Tx 2 ?_;refine gO xL <| gO (by exact AF rfl Hj rfl rfl) <| gO (by first|exact RT rfl rfl rfl (Aoy h1)|exact xNe) ?_)|(refine Tx 3 ?_;refine gO (xMi underlying85) <| gO xA ?_))
   exact Fw
 case true =>
  unfold CD
  rw [if_pos rfl]
  by_cases c1 : -2147483648<n
  case neg =>
   rw [if_neg (fun h:DN n e=>c1 h.1)]
   repeat' (with_reducible first|refine We ?_|refine AcB ?_|(refine Tx 6 ?_;refine gO (xMi underlying85) <| gO xA ?_))
   exact Fw
  by_cases c2:n<2147483648
  case neg =>
   rw [if_neg (fun h:DN n e=>c2 h.2.1)]
   repeat' (with_reducible first|refine We ?_|refine AcB ?_|(refine Tx 6 ?_;refine gO (xMi underlying85) <| gO xA ?_))
   exact Fw
  by_cases c3 : -62≤e
  case neg =>
   rw [if_neg (fun h:DN n e=>c3 h.2.2.1)]
   repeat' (with_reducible first|refine We ?_|refine AcB ?_|(refine Tx 6 ?_;refine gO (xMi underlying85) <| gO xA ?_))
   exact Fw
  by_cases c4:e≤30
  case neg =>
   rw [if_neg (fun h:DN n e=>c4 h.2.2.2)]
   repeat' (with_reducible first|refine We ?_|refine AcB ?_|(refine Tx 6 ?_;refine gO (xMi underlying85) <| gO xA ?_))
   exact Fw
  rw [if_pos (show DN n e from ⟨c1,c2,c3,c4⟩)]
  repeat' (with_reducible first|refine We ?_|refine AcB ?_|(refine Tx 7 ?_;refine gO xA ?_))
  exact Au rfl (.cons_ (Hc rfl (rfl)) .nil_)
theorem QR (n e:Int) (h:DN n e):CV prog Ah 154 [.agg [dI n,dI e]] [aDy false (Af n 0 e).1 (Af n 0 e).2]:=by
 refine cvz func154 ntmps154 ?_
 have OF:=FS n (by unfold DN at h;omega) (by unfold DN at h;omega)
 have SH:=BW n 0 e ⟨by decide,fun h=>absurd rfl h⟩ (lT (Aw (k:=2) (by unfold DN at h;omega)) (by decide)) (by unfold DN at h;omega)
 repeat' (with_reducible first|refine qq ?_|(refine Tx 0 ?_;refine gN xBo <| gN (xAl Aj) ?_)|(refine Ax (id:=1) 6 AC (by kernel_rfl) ?_;dsimp only [List.take,List.drop];refine gP xF <| gP xD <| gP (xCl func123 (OF)) <| gP xF <| gP xD <| gP (xCl func27 (SH)) ?_;refine Ke ?_;refine gZ (xSk Aa) ?_))
 exact Au rfl (.cons_ (rvW Aa rfl) .nil_)
theorem AfZ (k:p') (h:Hd9 p'→p:=by with_reducible first|(intro Z9;refine Tx 0 ?_;refine gN xBo <| gN xBo <| gO xA ?_;exact Z9.o)|(intro Z9;refine Tx 1 ?_;refine gO xF <| gO xD <| gO (xCl func152 (AR)) <| gO xA ?_;exact Z9.o)|(intro Z9;refine Tx 2 ?_;refine gO xM <| gO xLt ?_;exact Z9.o)|fail):p:=h ⟨k⟩
theorem AoA (k:p') (h:Hd9 p'→p:=by with_reducible first|(intro Z9;refine Tx 6 ?_;refine gO xF <| gO xD <| gO xN <| gO xA ?_;exact Z9.o)|(intro Z9;refine Tx 7 ?_;refine gO xF <| gO xD <| gO xEq ?_;exact Z9.o)|(intro Z9;refine Tx 9 ?_;refine gO xF <| gO xD <| gO xN <| gO xM ?_;exact Z9.o)|fail):p:=h ⟨k⟩
theorem Pp (k:p') (h:Hd9 p'→p:=by with_reducible first|(intro Z9;refine Tx 10 ?_;refine gO xLt ?_;exact Z9.o)|fail):p:=h ⟨k⟩
theorem AcC (k:p') (h:Hd9 p'→p:=by with_reducible first|(intro Z9;refine Tx 11 ?_;refine gO (xIr Ae (Ay hz)) <| gO xD <| gO xA ?_;exact Z9.o)|(intro Z9;refine Tx 12 ?_;refine gO xM <| gO xLt <| gO xM ?_;(first|iterate 3 refine Jd ?_|(refine Jy xM1 ?_;refine Jy xM1 ?_;refine Jy xGe ?_));refine gO xPk ?_;exact Z9.o)|fail):p:=h ⟨k⟩
theorem AoB (h:p:=by first|exact xCl func153 (SV)|exact xCl func153 (SU)):p:=h
theorem ZI (k:p') (h:Hd9 p'→p:=by with_reducible first|(intro Z9;refine Tx 15 ?_;refine gO xF <| gO xD <| gO xEq <| gO xA ?_;exact Z9.o)|(intro Z9;refine Tx 16 ?_;refine gO xF <| gO xL <| gO xM <| gO xM ?_;(first|iterate 3 refine Jd ?_|(refine Jy (xFa EB Az) ?_;refine Jy (xLd Az) ?_;refine Jy xEq ?_));refine gO xPk <| gO xM ?_;(first|iterate 3 refine Jd ?_|(refine Jy (xFa EB Az) ?_;refine Jy (xLd Az) ?_;refine Jy xEq ?_));refine gO xPk <| gO xM ?_;(first|iterate 3 refine Jd ?_|(refine Jy (xFa EB Az) ?_;refine Jy (xLd Az) ?_;refine Jy xEq ?_));refine gO xPk <| gO AoB <| gO xA ?_;exact Z9.o)|fail):p:=h ⟨k⟩
theorem AoC (h:p:=by first|assumption|omega):p:=h
theorem AoD (h:p:=by first|rfl|omega):p:=h
theorem ArH (k:p') (h:Hd9 p'→p:=by with_reducible first|(intro Z9;refine Tx 17 ?_;refine gO xM <| gO (by first|exact BN rfl Am rfl (Hl h4)|exact BN rfl Am rfl (OX AoD)|exact BN rfl Am rfl (Hl AoC)|exact BN rfl Am rfl rfl) ?_;exact Z9.o)|(intro Z9;refine Tx 18 ?_;refine gO xM <| gO xA ?_;exact Z9.o)|fail):p:=h ⟨k⟩
theorem AcD (k:p') (h:Hd9 p'→p:=by with_reducible first|(intro Z9;refine Tx 17 ?_;refine gO xM <| gO (xNE Am) ?_;exact Z9.o)|(intro Z9;refine Tx 19 ?_;refine gO xF <| gO xL <| gO xM <| gO AoB <| gO xA ?_;exact Z9.o)|fail):p:=h ⟨k⟩
theorem AoE (k:p') (h:Hd9 p'→p:=by with_reducible first|(intro Z9;refine Tx 20 ?_;refine gO xM <| gO (by first|exact BN rfl Am rfl (Hl h5)|exact BN rfl Am rfl (OX AoD)|exact BN rfl Am rfl (Hl AoC)|exact BN rfl Am rfl rfl) ?_;exact Z9.o)|(intro Z9;refine Tx 21 ?_;refine gO xM <| gO xA ?_;exact Z9.o)|fail):p:=h ⟨k⟩
theorem ArI (k:p') (h:Hd9 p'→p:=by with_reducible first|(intro Z9;refine Bl (id:=22) AC (by kernel_rfl) ?_;refine gP xM <| gP xM ?_;(first|iterate 2 refine Kd ?_|(refine Ky (xFa Ea AM) ?_;refine Ky (xLa AM) ?_));refine Kd ?_;(first|iterate 2 refine Kd ?_|(refine Ky (xFa Eb AM) ?_;refine Ky (xLa AM) ?_));refine Kd ?_;refine Kd ?_;(first|refine Kd ?_|refine Ky xGt ?_);refine gP xPk ?_;refine Ke ?_;exact Z9.o)|fail):p:=h ⟨k⟩
theorem AoF (h:p:=by first|exact xCl func154 (V1)|exact xCl func154 (V2)):p:=h
theorem AoG (k:p') (h:Hd9 p'→p:=by with_reducible first|(intro Z9;refine Bl (id:=22) AC (by kernel_rfl) ?_;refine gP xM <| gP xM ?_;(first|iterate 8 refine Kd ?_|(refine Ky (xFa Ea AM) ?_;refine Ky (xLa AM) ?_;refine Ky AoF ?_;refine Ky (xFa Eb AM) ?_;refine Ky (xLa AM) ?_;refine Ky AoF ?_;refine Ky (xCl func9 (CM)) ?_;refine Ky xGt ?_));refine gP xPk ?_;refine Ke ?_;exact Z9.o)|fail):p:=h ⟨k⟩
theorem AcE (h:p:=by
 rw [h4] at SV
 by_cases h5:CD y.un y.ue false=0
 case neg =>
  rw [be5 h1 h2 hM hf hv h4 hc h5]
  repeat' (with_reducible first|refine qq ?_|refine Pp ?_|refine ZI ?_|refine AcD ?_|refine AoE ?_)
  exact Au rfl (.cons_ (AbN rfl rfl) .nil_)
 rw [h5] at SU
 rw [be7 h1 h2 hM hf hv h4 hc h5 (fun h=>by cases h.1)]
 repeat' (with_reducible first|refine qq ?_|refine Pp ?_|refine ZI ?_|refine AcD ?_|(refine Tx 20 ?_;refine gO xM <| gO (xNE Am) ?_)|refine ArI ?_|(refine Tx 24 ?_;refine gO xA ?_))
 exact Au rfl (.cons_ (Hc rfl (rfl)) .nil_)):p:=h
theorem ZJ (h:p:=by
 rw [be4 h1 h2 hM hf hv h4]
 repeat' (with_reducible first|refine qq ?_|refine Pp ?_|refine ZI ?_|refine ArH ?_)
 exact Au rfl (.cons_ (AbN rfl rfl) .nil_)):p:=h
theorem AoH (h:p:=by
 obtain ⟨z0,z1⟩:=hb
 repeat' (with_reducible first|refine qq ?_|refine Pp ?_|refine AcC ?_|(refine Tx 14 ?_;refine gO xAd <| gO xM ?_))
 refine ⟨_,_,Gw _ 2 ?_ ?_ ?_,_,by omega,k+1,by omega,rfl,XG hz ⟨z0,z1⟩ hf,rfl,rfl⟩
 ·rfl
 ·exact mB rfl rfl
 ·exact ⟨BS rfl,BS rfl,trivial⟩):p:=h
theorem ZK (t:Bool) {ps:List Prt} {bs:List Bk} {os:List Int} (hl:Dx ps bs os) (y:Bk) (hyl:y.args.length≤1000000):CV prog Ah 64 [aDg t ps bs os,.agg (dBk t y)] [aE (Cd ps.length bs.length y)]:=by
 refine cvz func64 ntmps64 ?_
 have AR:=AcA y.kind
 have SV:=QQ y.vn y.ve (Pd y.kind)
 have SU:=QQ y.un y.ue (Lz y.kind)
 have hl1:=hl.l1
 have hl2:=hl.l2
 by_cases h1:Bw y.kind<0
 case pos =>
  rw [be1 h1]
  repeat' (with_reducible first|refine qq ?_|refine AfZ ?_|(refine Tx 3 ?_;refine gO (xMi underlying85) <| gO xA ?_))
  exact Fw
 by_cases h2:((y.args.length:Nat):Int)=Bw y.kind
 case neg =>
  rw [be2 h1 h2]
  repeat' (with_reducible first|refine qq ?_|refine AfZ ?_|(refine Tx 4 ?_;refine gO xF <| gO xD <| gO xN <| gO xM <| gO xNe ?_)|(refine Tx 5 ?_;refine gO (xMi underlying85) <| gO xA ?_))
  exact Fw
 have hA2:y.args.length≤2:=by unfold Bw at h2;(repeat' split at h2) <;> omega
 by_cases k0:y.kind=0
 case pos =>
  have hM:EE ps.length bs.length y.kind=ps.length:=if_pos k0
  repeat' (with_reducible first|refine qq ?_|refine AfZ ?_|(refine Tx 4 ?_;refine gO xF <| gO xD <| gO xN <| gO xM <| gO xNe ?_)|refine AoA ?_|(refine Tx 8 ?_;refine gO xF <| gO xD <| gO xN <| gO xA ?_))
  refine AJ (Be 2) (Al (fun n Fr H=>∃ k:Nat,k≤y.args.length∧n=y.args.length - k∧Ar ((y.args.map (NK ps.length)).take k)=0∧Fr=ofL [(2,vr 0),(3,vr 1),(6,vi ps.length),(34,vd (AU t y.args)),(35,vi y.args.length),(36,vi ((k:Nat)))]∧H=[.box 26 [.d (CY t ps),.d (Cw t bs),.d (AU t os)],.box 65 [.d (.val (.int .i64 y.kind)),.d (AU t y.args),.d (.val (.int .i64 y.vn)),.d (.val (.int .i64 y.ve)),.d (.val (.int .i64 y.un)),.d (.val (.int .i64 y.ue))]]) (n0:=y.args.length) ⟨0,ad _,rfl,rfl,rfl,rfl⟩ ?_)
  rintro n Fr H ⟨k,hk,rfl,hf,rfl,rfl⟩
  by_cases hlt:k<y.args.length
  case pos =>
   obtain ⟨z,hz⟩:∃ z,y.args[k]?=some z:=⟨_,gE hlt⟩
   by_cases hb:0≤z∧z<((ps.length:Nat):Int)
   case neg =>
    rw [be3 h1 h2 hM (RQ hz hb hf)]
    by_cases hz0:z<0
    case pos =>
     repeat' (with_reducible first|refine qq ?_|refine Pp ?_|refine AcC ?_|(refine Tx 13 ?_;refine gO (xMi underlying85) <| gO xA ?_))
     exact Fw
    repeat' (with_reducible first|refine qq ?_|refine Pp ?_|refine AcC ?_|(refine Tx 13 ?_;refine gO (xMi underlying85) <| gO xA ?_))
    exact Fw
   exact AoH
  obtain rfl:k=y.args.length:=by omega
  rw [aj (by rw [af];exact aa _)] at hf
  clear hlt hk
  generalize hv:Pd y.kind=vu at SV
  generalize hc:Lz y.kind=cu at SU
  have hv1:vu=false:=by rw [←hv,k0];rfl
  have hc1:cu=false:=by rw [←hc,k0];rfl
  subst hv1 hc1
  by_cases h4:CD y.vn y.ve false=0
  case neg =>
   exact ZJ
  exact AcE
 case neg =>
  have hM:EE ps.length bs.length y.kind=bs.length:=if_neg k0
  repeat' (with_reducible first|refine qq ?_|refine AfZ ?_|(refine Tx 4 ?_;refine gO xF <| gO xD <| gO xN <| gO xM <| gO xNe ?_)|refine AoA ?_)
  refine AJ (Be 2) (Al (fun n Fr H=>∃ k:Nat,k≤y.args.length∧n=y.args.length - k∧Ar ((y.args.map (NK bs.length)).take k)=0∧Fr=ofL [(2,vr 0),(3,vr 1),(6,vi bs.length),(34,vd (AU t y.args)),(35,vi y.args.length),(36,vi ((k:Nat)))]∧H=[.box 26 [.d (CY t ps),.d (Cw t bs),.d (AU t os)],.box 65 [.d (.val (.int .i64 y.kind)),.d (AU t y.args),.d (.val (.int .i64 y.vn)),.d (.val (.int .i64 y.ve)),.d (.val (.int .i64 y.un)),.d (.val (.int .i64 y.ue))]]) (n0:=y.args.length) ⟨0,ad _,rfl,rfl,rfl,rfl⟩ ?_)
  rintro n Fr H ⟨k,hk,rfl,hf,rfl,rfl⟩
  by_cases hlt:k<y.args.length
  case pos =>
   obtain ⟨z,hz⟩:∃ z,y.args[k]?=some z:=⟨_,gE hlt⟩
   by_cases hb:0≤z∧z<((bs.length:Nat):Int)
   case neg =>
    rw [be3 h1 h2 hM (RQ hz hb hf)]
    by_cases hz0:z<0
    case pos =>
     repeat' (with_reducible first|refine qq ?_|refine Pp ?_|refine AcC ?_|(refine Tx 13 ?_;refine gO (xMi underlying85) <| gO xA ?_))
     exact Fw
    repeat' (with_reducible first|refine qq ?_|refine Pp ?_|refine AcC ?_|(refine Tx 13 ?_;refine gO (xMi underlying85) <| gO xA ?_))
    exact Fw
   exact AoH
  obtain rfl:k=y.args.length:=by omega
  rw [aj (by rw [af];exact aa _)] at hf
  clear hlt hk
  generalize hv:Pd y.kind=vu at SV
  generalize hc:Lz y.kind=cu at SU
  by_cases k11:y.kind=11
  case pos =>
   have hv1:vu=true:=by rw [←hv,k11];rfl
   have hc1:cu=true:=by rw [←hc,k11];rfl
   subst hv1 hc1
   by_cases h4:CD y.vn y.ve true=0
   case neg =>
    exact ZJ
   rw [h4] at SV
   by_cases h5:CD y.un y.ue true=0
   case neg =>
    rw [be5 h1 h2 hM hf hv h4 hc h5]
    repeat' (with_reducible first|refine qq ?_|refine Pp ?_|refine ZI ?_|refine AcD ?_|refine AoE ?_)
    exact Au rfl (.cons_ (AbN rfl rfl) .nil_)
   rw [h5] at SU
   have o1:=Pe h4
   have o2:=Pe h5
   have V1:=QR y.vn y.ve o1
   have V2:=QR y.un y.ue o2
   have s1:=AhR o1
   have s2:=AhR o2
   have CM:=Ck (Af y.vn 0 y.ve).1 (Af y.vn 0 y.ve).2 (Af y.un 0 y.ue).1 (Af y.un 0 y.ue).2 s1.1 s2.1 s1.2 s2.2
   have hpc:=AkE o1 o2
   have hpc:Bm (Af y.vn 0 y.ve).1 (Af y.vn 0 y.ve).2 (Af y.un 0 y.ue).1 (Af y.un 0 y.ue).2=NJ y.vn y.ve y.un y.ue:=(Acw _ _ _ _).trans hpc
   rw [hpc] at CM
   generalize hq:NJ y.vn y.ve y.un y.ue=q at CM
   by_cases h6:0<q
   case pos =>
    rw [be6 h1 h2 hM hf hv h4 hc h5 ⟨rfl,by rw [hq];exact h6⟩]
    repeat' (with_reducible first|refine qq ?_|refine Pp ?_|refine ZI ?_|refine AcD ?_|(refine Tx 20 ?_;refine gO xM <| gO (xNE Am) ?_)|refine AoG ?_|(refine Tx 23 ?_;refine gO (xMi underlying85) <| gO xA ?_))
    exact Fw
   rw [be7 h1 h2 hM hf hv h4 hc h5 (fun h=>h6 (by rw [←hq];exact h.2))]
   repeat' (with_reducible first|refine qq ?_|refine Pp ?_|refine ZI ?_|refine AcD ?_|(refine Tx 20 ?_;refine gO xM <| gO (xNE Am) ?_)|refine AoG ?_|(refine Tx 24 ?_;refine gO xA ?_))
   exact Au rfl (.cons_ (Hc rfl (rfl)) .nil_)
  have hc1:cu=false:=by rw [←hc];exact Ek k11
  subst hc1
  by_cases kv:y.kind=1∨y.kind=2∨y.kind=6
  case pos =>
   have hv1:vu=true:=by rw [←hv];rcases kv with h|h|h <;> (rw [h];rfl)
   subst hv1
   rcases kv with kv|kv|kv
   ·
    by_cases h4:CD y.vn y.ve true=0
    case neg =>
     exact ZJ
    exact AcE
   ·
    by_cases h4:CD y.vn y.ve true=0
    case neg =>
     exact ZJ
    exact AcE
   ·
    by_cases h4:CD y.vn y.ve true=0
    case neg =>
     exact ZJ
    exact AcE
  have hv1:vu=false:=by rw [←hv];unfold Pd;rw [Ek k11,Ek (by omega),Ek (by omega),Ek (by omega)];rfl
  subst hv1
  by_cases h4:CD y.vn y.ve false=0
  case neg =>
   exact ZJ
  exact AcE
theorem Alu (k:p') (h:Hd9 p'→p:=by with_reducible first|(intro Z9;refine qq ?_;exact Z9.o)|(intro Z9;refine Tx 0 ?_;refine gN xBo <| gO xA ?_;exact Z9.o)|(intro Z9;refine Tx 1 ?_;refine gO xF <| gO xD <| gO xM <| gO (xIr Ak (Dq hy)) <| gO xF <| gO xD ?_;exact Z9.o)|(intro Z9;refine Tx 2 ?_;refine gO xEq <| gO xA ?_;exact Z9.o)|(intro Z9;refine Tx 3 ?_;refine gO xEq <| gO xA ?_;exact Z9.o)|(intro Z9;refine Tx 4 ?_;refine gO xA ?_;exact Z9.o)|(intro Z9;refine Tx 5 ?_;refine gO xF <| gO xD <| gO xM <| gO (xIr Ak (Dq hy)) <| gO xF <| gO xD <| gO xA ?_;exact Z9.o)|fail):p:=h ⟨k⟩
theorem Wf (t:Bool) {ps:List Prt} {bs:List Bk} {os:List Int} (hl:Dx ps bs os) {i:Nat} {y:Bk} (hy:bs[i]?=some y):CVB prog Ah 66 [aDg t ps bs os,aI (i:Int)] (AU t (TZ bs false i)):=by
 refine AhB NL func66 ntmps66 (ax rfl) rfl ?_
 have hl2:=hl.l2
 have hil:=(gS.1 hy).1
 rw [Xz hy]
 by_cases k2:y.kind=2
 case pos =>
  rw [if_pos ⟨k2,rfl⟩]
  repeat' (with_reducible first|refine Alu ?_)
  exact ⟨.inl rfl,_,_,results66,rfl,RR⟩
 rw [if_neg (fun h=>k2 h.1)]
 by_cases k0:y.kind=0
 case pos =>
  rw [if_pos k0]
  repeat' (with_reducible first|refine Alu ?_)
  exact ⟨.inl rfl,_,_,results66,rfl,RR⟩
 rw [if_neg k0]
 repeat' (with_reducible first|refine Alu ?_)
 exact ⟨.inl rfl,_,_,results66,rfl,fun _ _ _ h=>h⟩
theorem Alv (k:p') (h:Hd9 p'→p:=by with_reducible first|(intro Z9;refine Tx 16 ?_;refine gO xM <| gO xA ?_;exact Z9.o)|(intro Z9;refine Tx 17 ?_;refine gO xM <| gO xM <| gO (xIo (i:=k) Fi) <| gO (by first|exact AbQ rfl rfl rfl hg FQ|exact xLd FQ) <| gO Als <| gO xM ?_;(first|iterate 2 refine Jd ?_|(refine Jy xM1 ?_;refine Jy xLt ?_));refine gO xPk <| gO xA ?_;exact Z9.o)|(intro Z9;refine Tx 18 ?_;refine gO xL <| gO xM <| gO (xCb func66 BF) <| gO xN <| gO xM ?_;exact Z9.o)|fail):p:=h ⟨k⟩
theorem AoI (k:p') (h:Hd9 p'→p:=by with_reducible first|(intro Z9;refine Tx 20 ?_;refine gO (xIr Ae (Ay hz)) <| gO xD <| gO xA ?_;exact Z9.o)|(intro Z9;refine Tx 21 ?_;refine gO xM <| gO xM ?_;(first|iterate 4 refine Jd ?_|(refine Jy xM1 ?_;refine Jy xM1 ?_;refine Jy (by exact IU (i:=z.toNat) rfl rfl rfl rfl (by omega) Fi (by omega) (by decide)) ?_;refine Jy (by first|exact AbQ rfl rfl rfl hgz FQ|exact xLd FQ) ?_));refine gO xPk <| gO xA ?_;exact Z9.o)|(intro Z9;refine Tx 22 ?_;refine gO xAd <| gO xM ?_;exact Z9.o)|fail):p:=h ⟨k⟩
theorem AoJ (k:p') (h:Hd9 p'→p:=by with_reducible first|(intro Z9;refine Tx 23 ?_;refine gO xM ?_;exact Z9.o)|(intro Z9;refine Tx 25 ?_;refine gO xAd <| gO xM ?_;exact Z9.o)|fail):p:=h ⟨k⟩
theorem Alw (h:p:=by
 clear hd
 refine AJ (F':=ofL [(1,vr 0),(4,vo 1 ((BU out).length)),(5,vo 2 bs.length),(6,vi lf),(9,vi pk),(10,vi ((k:Nat))),(11,vd (.val (.bool b0))),(40,vd (Cw t bs)),(41,vi bs.length),(42,vi ((k:Nat))),(56,vd (AU t xs)),(57,vi xs.length),(58,vi ((0:Nat)))]) (H':=[.box 26 [.d (CY t ps),.d (Cw t bs),.d (AU t os)],.row 3 1 (BU out).length (cI (BU out)),.row 4 1 bs.length (cBl (Gc bs out))]) (Be 3 (h:=by rw [←hb0];exact mB rfl rfl)) ?_
 clear hb0
 refine Al (fun n Fr H=>∃ (u:Nat) (b:Bool),u≤xs.length∧n=xs.length - u∧b=(b0 && AkJ bs out xs u)∧Fr=ofL [(1,vr 0),(4,vo 1 ((BU out).length)),(5,vo 2 bs.length),(6,vi lf),(9,vi pk),(10,vi ((k:Nat))),(11,vd (.val (.bool b))),(40,vd (Cw t bs)),(41,vi bs.length),(42,vi ((k:Nat))),(56,vd (AU t xs)),(57,vi xs.length),(58,vi ((u:Nat)))]∧H=[.box 26 [.d (CY t ps),.d (Cw t bs),.d (AU t os)],.row 3 1 (BU out).length (cI (BU out)),.row 4 1 bs.length (cBl (Gc bs out))]) (n0:=xs.length) ⟨0,b0,ad _,rfl,(Bool.and_true _).symm,rfl,rfl⟩ ?_
 rintro n Fr H ⟨u,b,hu,rfl,hb,rfl,rfl⟩
 by_cases hlu:u<xs.length
 case pos =>
  obtain ⟨z,hz⟩:∃ z,xs[u]?=some z:=⟨_,gE hlu⟩
  obtain ⟨z0,z1⟩:=hbd z (gM hz)
  have hgz:(Gc bs out)[z.toNat]?=some (EU bs out z.toNat):=(by unfold Gc;rw [ag,jf (by omega)];rfl)
  have hst:=Ub (bs:=bs) (out:=out) hz
  cases b
  case false =>
   repeat' (with_reducible first|refine qq ?_|(refine Tx 19 ?_;refine gO xLt ?_)|refine AoI ?_)
   refine ⟨_,_,Be 3,_,by omega,u+1,_,by omega,rfl,by rw [hst,←Bool.and_assoc,←hb];try rfl,rfl,rfl⟩
  repeat' (with_reducible first|refine qq ?_|(refine Tx 19 ?_;refine gO xLt ?_)|refine AoI ?_)
  refine ⟨_,_,Be 3,_,by omega,u+1,_,by omega,rfl,by rw [hst,←Bool.and_assoc,←hb];try rfl,rfl,rfl⟩
 obtain rfl:u=xs.length:=by omega
 rw [XE (aa _)] at hb
 have hf2:=hfin b hb
 cases b
 case false =>
  repeat' (with_reducible first|refine qq ?_|(refine Tx 19 ?_;refine gO xLt ?_)|refine AoJ ?_)
  refine ⟨_,_,Be 3,_,by omega,k+1,pk,by omega,rfl,hf2.symm,rfl,rfl⟩
 repeat' (with_reducible first|refine qq ?_|(refine Tx 19 ?_;refine gO xLt ?_)|refine AoJ ?_|(refine Tx 24 ?_;refine gO xM <| gO xA ?_))
 refine ⟨_,_,Gw _ 3 ?_ ?_ ?_,_,by omega,k+1,(k:Int),by omega,rfl,hf2.symm,rfl,rfl⟩
 ·rfl
 ·exact mB rfl rfl
 ·exact ⟨BS rfl,OY,AbO,trivial⟩):p:=h
theorem AoK (h:p:=by first|exact AkL rfl rfl rfl rfl FQ tl stV|exact xS1 FQ|exact xSk FQ):p:=h
theorem QS (t:Bool) {ps:List Prt} {bs:List Bk} {os:List Int} (hl:Dx ps bs os) (hS:Xv bs):CV prog Ah 65 [aDg t ps bs os] [.one (AU false (AmH bs)),aE (Gb bs)]:=by
 refine cvz func65 ntmps65 ?_
 have hl2:=hl.l2
 repeat' (with_reducible first|refine qq ?_|(refine Tx 0 ?_;refine gN xBo <| gO xA <| gO xA ?_)|(refine Tx 1 ?_;refine gO xA ?_))
 refine AJ (Fh 4 3 1 rfl) ?_
 repeat' (with_reducible first|refine qq ?_|(refine Tx 2 ?_;refine gO xF <| gO xD <| gO xN <| gN (by first|exact AbP (n:=bs.length) rfl rfl rfl Fi Abv (by omega) (by decide)|exact BG rfl rfl rfl Fi Abv (by omega) (by decide)) <| gO xA ?_)|(refine Tx 3 ?_;refine gO xA ?_)|(refine Tx 4 ?_;refine gO xF <| gO xD <| gO xN <| gO xM ?_))
 rw [←Zw]
 refine AJ (Be 3) (Al (fun n Fr H=>∃ (k:Nat) (lf:Int),k≤bs.length∧n=bs.length - k∧lf=((fl (Pc bs) k).length:Nat)∧Fr=ofL [(1,vr 0),(4,vo 1 ((BU []).length)),(5,vo 2 bs.length),(6,vi lf),(19,vd (Cw t bs)),(20,vi bs.length),(21,vi ((k:Nat)))]∧H=[.box 26 [.d (CY t ps),.d (Cw t bs),.d (AU t os)],.row 3 1 (BU []).length (cI (BU [])),.row 4 1 bs.length (cBl (GZ bs k))]) (n0:=bs.length) ⟨0,0,ad _,rfl,rfl,rfl,rfl⟩ ?_)
 rintro n Fr H ⟨k,lf,hk,rfl,hlf,rfl,rfl⟩
 by_cases hlt:k<bs.length
 case pos =>
  obtain ⟨y,hy⟩:∃ y,bs[k]?=some y:=⟨_,gE hlt⟩
  have tl:k<(GZ bs k).length:=by rw [Uc];exact hlt
  have hfl:=AkI (Pc bs) k
  by_cases k2:y.kind=2
  case pos =>
   have hd:CL bs k=true:=by unfold CL;rw [Fk hy,k2];rfl
   have hn:Pc bs k=false:=by unfold Pc;rw [Fk hy,k2];rfl
   have stV:=AbF hd
   repeat' (with_reducible first|refine qq ?_|(refine Tx 5 ?_;refine gO xLt ?_)|(refine Tx 6 ?_;refine gO xM <| gO (by first|exact xIr Ak (Dq hy)|exact xIo (i:=k) Ak) <| gO xL <| gN (xAl Bu) <| gO xA <| gZ (xSk Bh) ?_)|(refine Tx 7 ?_;refine gO xF <| gO xD <| gO xEq ?_)|(refine Tx 8 ?_;refine gO xM <| gO xM <| gO (xIo (i:=k) Fi) <| gZ AoK ?_)|(refine Tx 10 ?_;refine gO xAd <| gO xM ?_))
   refine ⟨_,_,Be 3,_,by omega,k+1,lf,by omega,rfl,by rw [AkH hn];exact hlf,rfl,rfl⟩
  have hd:CL bs k=false:=by unfold CL;rw [Fk hy];exact Ek k2
  have hn:Pc bs k=true:=by unfold Pc;rw [Fk hy,bne,Ek k2];rfl
  have hdn:=Afw hd
  repeat' (with_reducible first|refine qq ?_|(refine Tx 5 ?_;refine gO xLt ?_)|(refine Tx 6 ?_;refine gO xM <| gO (xIr Ak (Dq hy)) <| gO xL <| gN (xAl Bu) <| gO xA <| gZ (xSk Bh) ?_)|(refine Tx 7 ?_;refine gO xF <| gO xD <| gO xEq ?_)|(refine Tx 9 ?_;refine gO xM <| gO xAd <| gO xA ?_)|(refine Tx 10 ?_;refine gO xAd <| gO xM ?_))
  rw [←hdn]
  refine ⟨_,_,Be 3,_,by omega,k+1,lf+1,by omega,rfl,by rw [AbB hn,ao,hlf];try rfl,rfl,rfl⟩
 obtain rfl:k=bs.length:=by omega
 rw [Zy] at hlf
 rw [AbE]
 clear hlt hk
 repeat' (with_reducible first|refine qq ?_|(refine Tx 5 ?_;refine gO xLt ?_))
 have hnd:=Hm bs
 refine AJ (Be 3) (Al (fun n Fr H=>∃ (out:List Nat) (lf:Int),Ly bs out∧n=Dw bs - out.length∧lf=(Dw bs:Int) - (out.length:Int)∧Fr=ofL [(1,vr 0),(4,vo 1 ((BU out).length)),(5,vo 2 bs.length),(6,vi lf)]∧H=[.box 26 [.d (CY t ps),.d (Cw t bs),.d (AU t os)],.row 3 1 (BU out).length (cI (BU out)),.row 4 1 bs.length (cBl (Gc bs out))]) (n0:=Dw bs) ⟨[],lf,Ly.nil bs,rfl,by rw [hlf];simp,rfl,rfl⟩ ?_)
 clear hlf lf
 rintro n Fr H ⟨out,lf,hO,rfl,hlf,rfl,rfl⟩
 have hle:=hO.ok.le
 have hnl:=BP out
 by_cases hpos:0<lf
 case neg =>
  have hfull:=hO.full (by omega)
  have he:Gb bs=0:=by unfold Gb;rw [hfull,if_pos (by omega)]
  have hL:AmH bs=BU out:=by unfold AmH;rw [if_pos he,hfull]
  rw [he,hL]
  repeat' (with_reducible first|refine qq ?_|(refine Tx 11 ?_;refine gO xM <| gO xGt ?_)|(refine Tx 30 ?_;refine gO xM <| gO xA <| gO xA ?_))
  exact Au rfl (.cons_ (XK rfl rfl rfl) (.cons_ (Hc rfl rfl) .nil_))
 repeat' (with_reducible first|refine qq ?_|(refine Tx 11 ?_;refine gO xM <| gO xGt ?_)|(refine Tx 13 ?_;refine gO xA ?_)|(refine Tx 14 ?_;refine gO xF <| gO xD <| gO xN <| gO xM ?_))
 refine AJ (Be 3) (Al (fun n Fr H=>∃ (k:Nat) (pk:Int),k≤bs.length∧n=bs.length - k∧pk=Ml bs out k∧Fr=ofL [(1,vr 0),(4,vo 1 ((BU out).length)),(5,vo 2 bs.length),(6,vi lf),(9,vi pk),(40,vd (Cw t bs)),(41,vi bs.length),(42,vi ((k:Nat)))]∧H=[.box 26 [.d (CY t ps),.d (Cw t bs),.d (AU t os)],.row 3 1 (BU out).length (cI (BU out)),.row 4 1 bs.length (cBl (Gc bs out))]) (n0:=bs.length) ⟨0,-1,ad _,rfl,(Zz bs out).symm,rfl,rfl⟩ ?_)
 rintro n Fr H ⟨k,pk,hk,rfl,hpk,rfl,rfl⟩
 by_cases hlt:k<bs.length
 case pos =>
  obtain ⟨y,hy⟩:∃ y,bs[k]?=some y:=⟨_,gE hlt⟩
  have BF:=Wf t hl hy
  have hg:(Gc bs out)[k]?=some (EU bs out k):=(by unfold Gc;rw [ag,jf (by omega)];rfl)
  obtain ⟨xs,hxs⟩:∃ xs,TZ bs false k=xs:=⟨_,rfl⟩
  rw [hxs] at BF
  have hxl:xs.length≤1000000:=by rw [←hxs,Xz hy];have:=hl.la y (gM hy);split <;> (try split) <;> first|exact this|exact ad _
  have hbd:∀ z∈xs,0≤z∧z<(bs.length:Int):=fun z hz=>hS k hlt z (VQ (over:=false) (by rw [hxs];exact hz))
  obtain ⟨b0,hb0⟩:∃ b0:Bool,(!EU bs out k && decide (pk<0))=b0:=⟨_,rfl⟩
  have hfin:∀ b:Bool,b=(b0 && xs.all fun z=>EU bs out z.toNat)→Ml bs out (k+1)=if b=true then (k:Int) else pk:=fun b hb=>by
   cases hd:EU bs out k with
   | true =>
    have hr:rdy bs out k=false:=by rw [Pb,hd];rfl
    rw [hd] at hb0
    rw [hb,←hb0,RP (.inr hr),if_neg (by simp),hpk]
   | false =>
    have hr:=AbJ (out:=out) hd
    rw [hxs] at hr
    by_cases hp:pk<0
    ·rw [hd,decide_eq_true hp] at hb0
     rw [←hb0,←hr] at hb
     cases hq:rdy bs out k with
     | true=>rw [hq] at hb;rw [AbG (by rw [←hpk];exact hp) hq,hb];rfl
     | false=>rw [hq] at hb;rw [RP (.inr hq),hb,←hpk];rfl
    ·rw [hd,decide_eq_false hp] at hb0
     rw [hb,←hb0,RP (.inl (by omega)),if_neg (by simp),hpk]
  skip
  cases hd:EU bs out k
  case true =>
   rw [hd] at hg hb0
   rw [df,eg] at hb0
   repeat' (with_reducible first|refine qq ?_|(refine Tx 15 ?_;refine gO xLt ?_)|refine Alv ?_)
   exact Alw
  rw [hd] at hg hb0
  by_cases hp:pk<0
  case pos =>
   rw [decide_eq_true hp] at hb0
   rw [dg,Bool.and_true] at hb0
   repeat' (with_reducible first|refine qq ?_|(refine Tx 15 ?_;refine gO xLt ?_)|refine Alv ?_)
   exact Alw
  rw [decide_eq_false hp] at hb0
  rw [je] at hb0
  repeat' (with_reducible first|refine qq ?_|(refine Tx 15 ?_;refine gO xLt ?_)|refine Alv ?_)
  exact Alw
 obtain rfl:k=bs.length:=by omega
 clear hlt hk
 cases hnx:nxt bs out
 case none =>
  rw [AbH hnx] at hpk
  subst hpk
  have hod:=hO.done hnx
  have he:Gb bs=24:=by unfold Gb;rw [hod,if_neg (by omega)]
  have hL:AmH bs=[]:=by unfold AmH;rw [if_neg (by rw [he];decide)]
  rw [he,hL]
  repeat' (with_reducible first|refine qq ?_|(refine Tx 15 ?_;refine gO xLt ?_)|(refine Tx 26 ?_;refine gO xM <| gO xLt ?_)|(refine Tx 27 ?_;refine gO (xMi underlying85) <| gO xA <| gO xA ?_))
  exact Au rfl (.cons_ (.tmp (.one (GL rfl rfl))) (.cons_ (ZB rfl (by decide) rfl) .nil_))
 case some p =>
  rw [AbI hnx] at hpk
  subst hpk
  have hO2:=hO.push hnx
  have hpl:=(RL hnx).1
  have hlt2:=hO.lt hnx
  have tl:p<(Gc bs out).length:=by rw [AbD];exact hpl
  have stV:(Gc bs out).set p true=Gc bs (out++[p]):=(Zx bs out p).symm
  have hap:BU out++[(p:Int)]=BU (out++[p]):=(Oh out p).symm
  have hap2:(BU out).length+1=(BU (out++[p])).length:=by rw [BP,BP,ao];rfl
  repeat' (with_reducible first|refine qq ?_|(refine Tx 15 ?_;refine gO xLt ?_)|(refine Tx 26 ?_;refine gO xM <| gO xLt ?_)|(refine Tx 28 ?_;refine gO xM <| gO xM <| gO (xIo (i:=p) Fi) <| gZ AoK ?_)|(refine Tx 29 ?_;refine gO xM <| gO xM <| gN (by exact BH rfl Ae CC rfl rfl (by decide) (by decide)) <| gT (by exact QJ rfl rfl rfl rfl rfl rfl Ae CC (by omega) (by decide) hap hap2) <| gO xA ?_)|(refine Tx 12 ?_;refine gO xM <| gO xSb <| gO xA ?_))
  refine ⟨_,_,Be 3,_,(by rw [ao];show Dw bs - (out.length+1)<_;omega),out++[p],lf - 1,hO2,rfl,by rw [ao,hlf];show _=(Dw bs:Int) - ((out.length+1:Nat):Int);omega,rfl,rfl⟩
theorem Aga (k:p') (h:Hd9 p'→p:=by with_reducible first|(intro Z9;refine Tx 0 ?_;refine gN xBo <| gO xA ?_;exact Z9.o)|(intro Z9;refine Tx 1 ?_;refine gO xF <| gO xD <| gO xN <| gO xGt <| gO xM ?_;(first|iterate 4 refine Jd ?_|(refine Jy (xFa CU Bt) ?_;refine Jy (xLd Bt) ?_;refine Jy (xLn Ak) ?_;refine Jy xGt ?_));refine gO xPk <| gO xM ?_;(first|iterate 4 refine Jd ?_|(refine Jy (xFa Gv BJ) ?_;refine Jy (xLd BJ) ?_;refine Jy (xLn Ae) ?_;refine Jy xGt ?_));refine gO xPk ?_;exact Z9.o)|fail):p:=h ⟨k⟩
theorem ZL (k:p') (h:Hd9 p'→p:=by with_reducible first|(intro Z9;refine Tx 5 ?_;refine gO (xIr Ci (IV hp)) <| gO xL <| gN (xAl OV) <| gZ (xSk Lv) ?_;exact Z9.o)|(intro Z9;refine Tx 6 ?_;refine gO xF <| gO xD <| gO xLt <| gO xM ?_;(first|iterate 5 refine Jd ?_|(refine Jy (xFa Mh Az) ?_;refine Jy (xLd Az) ?_;refine Jy (xFa RK Az) ?_;refine Jy (xLd Az) ?_;refine Jy xLt ?_));refine gO xPk <| gO xM ?_;(first|iterate 3 refine Jd ?_|(refine Jy (xFa Mh Az) ?_;refine Jy (xLd Az) ?_;refine Jy xGe ?_));refine gO xPk <| gO xM ?_;(first|iterate 3 refine Jd ?_|(refine Jy (xFa Oe Az) ?_;refine Jy (xLd Az) ?_;refine Jy xLt ?_));refine gO xPk <| gO xM ?_;(first|iterate 3 refine Jd ?_|(refine Jy (xFa Oe Az) ?_;refine Jy (xLd Az) ?_;refine Jy xGt ?_));refine gO xPk ?_;exact Z9.o)|fail):p:=h ⟨k⟩
theorem Alx (k:p') (h:Hd9 p'→p:=by with_reducible first|(intro Z9;refine Tx 18 ?_;refine gO (xIr Ae (Ay hz)) <| gO xD <| gO xA ?_;exact Z9.o)|(intro Z9;refine Tx 19 ?_;refine gO xM <| gO xLt <| gO xM ?_;(first|iterate 5 refine Jd ?_|(refine Jy xM1 ?_;refine Jy (xFa CU Bt) ?_;refine Jy (xLd Bt) ?_;refine Jy (xLn Ak) ?_;refine Jy xGe ?_));refine gO xPk ?_;exact Z9.o)|fail):p:=h ⟨k⟩
theorem AoL (h:p:=by first|exact BN rfl Am rfl (Hl h0)|exact BN rfl Am rfl (OX (by first|rfl|omega))|exact BN rfl Am rfl (Hl (by first|assumption|omega))|exact BN rfl Am rfl rfl):p:=h
theorem Mp (t:Bool) {ps:List Prt} {bs:List Bk} {os:List Int} (hl:Dx ps bs os):CV prog Ah 22 [aDg t ps bs os] [aE (AY ps bs os)]:=by
 refine cvz func22 ntmps22 ?_
 have hl1:=hl.l1
 have hl2:=hl.l2
 have hl3:=hl.l3
 by_cases hs:FF ps bs os
 case neg =>
  rw [de0 hs]
  unfold FF at hs
  by_cases c1:ps.length≤16
  case neg =>
   repeat' (with_reducible first|refine qq ?_|refine Aga ?_|(refine Tx 2 ?_;refine gO (xMi underlying85) <| gO xA ?_))
   exact Fw
  by_cases c2:bs.length≤64
  case neg =>
   repeat' (with_reducible first|refine qq ?_|refine Aga ?_|(refine Tx 2 ?_;refine gO (xMi underlying85) <| gO xA ?_))
   exact Fw
  have c3:¬ os.length≤16:=fun h=>hs ⟨c1,c2,h⟩
  repeat' (with_reducible first|refine qq ?_|refine Aga ?_|(refine Tx 2 ?_;refine gO (xMi underlying85) <| gO xA ?_))
  exact Fw
 have hs2:=hs
 unfold FF at hs2
 obtain ⟨c1,c2,c3⟩:=hs2
 repeat' (with_reducible first|refine qq ?_|refine Aga ?_|(refine Tx 3 ?_;refine gO xF <| gO xD <| gO xN <| gO xM ?_))
 refine AJ (Be 1) (Al (fun n Fr H=>∃ k:Nat,k≤ps.length∧n=ps.length - k∧Ar ((ps.map Fv).take k)=0∧Fr=ofL [(1,vr 0),(30,vd (CY t ps)),(31,vi ps.length),(32,vi ((k:Nat)))]∧H=[.box 26 [.d (CY t ps),.d (Cw t bs),.d (AU t os)]]) (n0:=ps.length) ⟨0,ad _,rfl,rfl,rfl,rfl⟩ ?_)
 rintro n Fr H ⟨k,hk,rfl,hf,rfl,rfl⟩
 by_cases hlt:k<ps.length
 case pos =>
  obtain ⟨p,hp⟩:∃ p,ps[k]?=some p:=⟨_,gE hlt⟩
  by_cases he:Fv p=0
  case neg =>
   have h3:Fv p=3:=by unfold Fv at he ⊢;split at he;exact absurd rfl he;rename_i hn;rw [if_neg hn]
   rw [de1 hs (pe1 hp h3 (by decide) hf) (by decide)]
   unfold Fv at he
   by_cases q1 : -2147483648≤p.lo
   case neg =>
    repeat' (with_reducible first|refine qq ?_|(refine Tx 4 ?_;refine gO xLt ?_)|refine ZL ?_|(refine Tx 7 ?_;refine gO (xMi underlying85) <| gO xA ?_))
    exact Fw
   by_cases q2:p.lo≤p.hi
   case neg =>
    repeat' (with_reducible first|refine qq ?_|(refine Tx 4 ?_;refine gO xLt ?_)|refine ZL ?_|(refine Tx 7 ?_;refine gO (xMi underlying85) <| gO xA ?_))
    exact Fw
   by_cases q3:p.hi<2147483648
   case neg =>
    repeat' (with_reducible first|refine qq ?_|(refine Tx 4 ?_;refine gO xLt ?_)|refine ZL ?_|(refine Tx 7 ?_;refine gO (xMi underlying85) <| gO xA ?_))
    exact Fw
   by_cases q4:0≤p.fr
   case neg =>
    repeat' (with_reducible first|refine qq ?_|(refine Tx 4 ?_;refine gO xLt ?_)|refine ZL ?_|(refine Tx 7 ?_;refine gO (xMi underlying85) <| gO xA ?_))
    exact Fw
   have q5:¬ p.fr≤30:=fun h=>he (if_pos ⟨q1,q2,q3,q4,h⟩)
   repeat' (with_reducible first|refine qq ?_|(refine Tx 4 ?_;refine gO xLt ?_)|refine ZL ?_|(refine Tx 7 ?_;refine gO (xMi underlying85) <| gO xA ?_))
   exact Fw
  have hq:=he
  unfold Fv at hq
  by_cases hn : -2147483648≤p.lo∧p.lo≤p.hi∧p.hi<2147483648∧0≤p.fr∧p.fr≤30
  case neg =>
   rw [if_neg hn] at hq
   cases hq
  obtain ⟨q1,q2,q3,q4,q5⟩:=hn
  repeat' (with_reducible first|refine qq ?_|(refine Tx 4 ?_;refine gO xLt ?_)|refine ZL ?_|(refine Tx 8 ?_;refine gO xAd <| gO xM ?_))
  refine ⟨_,_,Be 1,_,by omega,k+1,by omega,rfl,fs1 hp he hf,rfl,rfl⟩
 obtain rfl:k=ps.length:=by omega
 have hP:=hf
 rw [aj (by rw [af];exact aa _)] at hP
 clear hlt hk hf
 repeat' (with_reducible first|refine qq ?_|(refine Tx 4 ?_;refine gO xLt ?_)|(refine Tx 9 ?_;refine gO xF <| gO xD <| gO xN <| gO xM ?_))
 refine AJ (Be 1) (Al (fun n Fr H=>∃ k:Nat,k≤bs.length∧n=bs.length - k∧Ar ((bs.map (Cd ps.length bs.length)).take k)=0∧Fr=ofL [(1,vr 0),(64,vd (Cw t bs)),(65,vi bs.length),(66,vi ((k:Nat)))]∧H=[.box 26 [.d (CY t ps),.d (Cw t bs),.d (AU t os)]]) (n0:=bs.length) ⟨0,ad _,rfl,rfl,rfl,rfl⟩ ?_)
 rintro n Fr H ⟨k,hk,rfl,hf,rfl,rfl⟩
 by_cases hlt:k<bs.length
 case pos =>
  obtain ⟨y,hy⟩:∃ y,bs[k]?=some y:=⟨_,gE hlt⟩
  have BC:=ZK t hl y (hl.la y (gM hy))
  generalize he:Cd ps.length bs.length y=e at BC
  by_cases h0:e=0
  case neg =>
   rw [de1 hs (pe2 hP hy he h0 hf) h0]
   repeat' (with_reducible first|refine qq ?_|(refine Tx 10 ?_;refine gO xLt ?_)|(refine Tx 11 ?_;refine gO (xIr Ak (Dq hy)) <| gO xL <| gN (xAl Bu) <| gZ (xSk Bh) ?_)|(refine Tx 12 ?_;refine gO xL <| gO xL <| gO (xCl func64 (BC)) <| gO xA ?_)|(refine Tx 13 ?_;refine gO xM <| gO AoL ?_)|(refine Tx 14 ?_;refine gO xM <| gO xA ?_))
   exact Au rfl (.cons_ (AbN rfl rfl) .nil_)
  subst h0
  repeat' (with_reducible first|refine qq ?_|(refine Tx 10 ?_;refine gO xLt ?_)|(refine Tx 11 ?_;refine gO (xIr Ak (Dq hy)) <| gO xL <| gN (xAl Bu) <| gZ (xSk Bh) ?_)|(refine Tx 12 ?_;refine gO xL <| gO xL <| gO (xCl func64 (BC)) <| gO xA ?_)|(refine Tx 13 ?_;refine gO xM <| gO (xNE Am) ?_)|(refine Tx 15 ?_;refine gO xAd <| gO xM ?_))
  refine ⟨_,_,Be 1,_,by omega,k+1,by omega,rfl,fs1 hy he hf,rfl,rfl⟩
 obtain rfl:k=bs.length:=by omega
 have hB:=hf
 rw [aj (by rw [af];exact aa _)] at hB
 clear hlt hk hf
 repeat' (with_reducible first|refine qq ?_|(refine Tx 10 ?_;refine gO xLt ?_)|(refine Tx 16 ?_;refine gO xF <| gO xD <| gO xN <| gO xM ?_))
 refine AJ (Be 1) (Al (fun n Fr H=>∃ k:Nat,k≤os.length∧n=os.length - k∧Ar ((os.map (NK bs.length)).take k)=0∧Fr=ofL [(1,vr 0),(78,vd (AU t os)),(79,vi os.length),(80,vi ((k:Nat)))]∧H=[.box 26 [.d (CY t ps),.d (Cw t bs),.d (AU t os)]]) (n0:=os.length) ⟨0,ad _,rfl,rfl,rfl,rfl⟩ ?_)
 rintro n Fr H ⟨k,hk,rfl,hf,rfl,rfl⟩
 by_cases hlt:k<os.length
 case pos =>
  obtain ⟨z,hz⟩:∃ z,os[k]?=some z:=⟨_,gE hlt⟩
  by_cases hb:0≤z∧z<(bs.length:Int)
  case neg =>
   rw [de1 hs (pe3 hP hB hz (if_neg hb) (by decide) hf) (by decide)]
   by_cases hz0:z<0
   case pos =>
    repeat' (with_reducible first|refine qq ?_|(refine Tx 17 ?_;refine gO xLt ?_)|refine Alx ?_|(refine Tx 20 ?_;refine gO (xMi underlying85) <| gO xA ?_))
    exact Fw
   repeat' (with_reducible first|refine qq ?_|(refine Tx 17 ?_;refine gO xLt ?_)|refine Alx ?_|(refine Tx 20 ?_;refine gO (xMi underlying85) <| gO xA ?_))
   exact Fw
  have hb2:=hb
  obtain ⟨z0,z1⟩:=hb2
  repeat' (with_reducible first|refine qq ?_|(refine Tx 17 ?_;refine gO xLt ?_)|refine Alx ?_|(refine Tx 21 ?_;refine gO xAd <| gO xM ?_))
  refine ⟨_,_,Be 1,_,by omega,k+1,by omega,rfl,fs1 hz (if_pos hb) hf,rfl,rfl⟩
 obtain rfl:k=os.length:=by omega
 have hO:=hf
 rw [aj (by rw [af];exact aa _)] at hO
 clear hlt hk hf
 have hpe:=pe4 hP hB hO
 rw [de2 hs hpe]
 have OR:=QS t hl (VT hB)
 repeat' (with_reducible first|refine qq ?_|(refine Tx 17 ?_;refine gO xLt ?_)|(refine Tx 22 ?_;refine gO xL <| gO (xCl func65 (OR)) <| gO xMt <| gO xEx <| gO xEx <| gO xA <| gO xA ?_)|(refine Tx 23 ?_;refine gO xM <| gO xA ?_))
 exact Au rfl (.cons_ (AbN rfl rfl) .nil_)
theorem AoM (h:p:=by
 rw [if_neg h0]
 repeat' (with_reducible first|refine qq ?_|(refine Tx 0 ?_;refine gN xBo <| gO xA <| gO xA ?_)|(refine Tx 1 ?_;refine gO xL <| gO (xCl func22 (CK)) <| gO xA ?_)|(refine Tx 2 ?_;refine gO xM <| gO AoL ?_)|(refine Tx 3 ?_;refine gO xM <| gO xA <| gO xA ?_))
 exact Au rfl (.cons_ (.tmp (.one (GL rfl rfl))) (.cons_ (AbN rfl rfl) .nil_))):p:=h
theorem Sj (t:Bool) {ps:List Prt} {bs:List Bk} {os:List Int} (hl:Dx ps bs os):CV prog Ah 35 [aDg t ps bs os] [.one (AU false (if AY ps bs os=0 then BU (Co bs) else [])),aE (AY ps bs os)]:=by
 refine cvz func35 ntmps35 ?_
 have CK:=Mp t hl
 by_cases h0:AY ps bs os=0
 case neg =>
  exact AoM
 have OR:=QS t hl (AbL h0)
 have ho:Gb bs=0:=(Ud h0).2.2
 unfold AmH at OR
 rw [ho,if_pos rfl] at OR
 rw [if_pos h0]
 rw [h0] at CK
 rw [h0]
 repeat' (with_reducible first|refine qq ?_|(refine Tx 0 ?_;refine gN xBo <| gO xA <| gO xA ?_)|(refine Tx 1 ?_;refine gO xL <| gO (xCl func22 (CK)) <| gO xA ?_)|(refine Tx 2 ?_;refine gO xM <| gO (xNE Am) ?_)|(refine Tx 4 ?_;refine gO xL <| gO (xCl func65 (OR)) <| gO xEx <| gO xEx <| gO xA <| gO xA ?_))
 exact Au rfl (.cons_ (.tmp (.one (Bi rfl fun _=>AnV _))) (.cons_ (Hc rfl rfl) .nil_))
theorem AoN (h:p:=by
 refine ⟨_,_,Gw _ 2 ?_ ?_ ?_,_,by omega,k+1,by omega,rfl,rfl,rfl⟩
 ·rfl
 ·exact mB rfl rfl
 ·exact ⟨BS rfl,OY,trivial⟩):p:=h
theorem Hr (t:Bool) {ps:List Prt} {bs:List Bk} {os:List Int} (hl:Dx ps bs os):CV prog Ah 36 [aDg t ps bs os] [.one (AU false (if AY ps bs os=0 then BU (AX bs) else [])),aE (AY ps bs os)]:=by
 refine cvz func36 ntmps36 ?_
 have hl2:=hl.l2
 have hall:AX bs=fl (CL bs) bs.length:=rfl
 have CK:=Mp t hl
 by_cases h0:AY ps bs os=0
 case neg =>
  exact AoM
 rw [if_pos h0]
 rw [h0] at CK
 rw [h0]
 repeat' (with_reducible first|refine qq ?_|(refine Tx 0 ?_;refine gN xBo <| gO xA <| gO xA ?_)|(refine Tx 1 ?_;refine gO xL <| gO (xCl func22 (CK)) <| gO xA ?_)|(refine Tx 2 ?_;refine gO xM <| gO (xNE Am) ?_)|(refine Tx 4 ?_;refine gO xA ?_))
 refine AJ (Fh 5 3 1 rfl) ?_
 repeat' (with_reducible first|refine qq ?_|(refine Tx 5 ?_;refine gO xF <| gO xD <| gO xN <| gO xM ?_))
 refine AJ (Be 2) (Al (fun n Fr H=>∃ k:Nat,k≤bs.length∧n=bs.length - k∧Fr=ofL [(1,vr 0),(5,vo 1 ((BU (fl (CL bs) k)).length)),(14,vd (Cw t bs)),(15,vi bs.length),(16,vi ((k:Nat)))]∧H=[.box 26 [.d (CY t ps),.d (Cw t bs),.d (AU t os)],.row 3 1 (BU (fl (CL bs) (k))).length (cI (BU (fl (CL bs) (k))))]) (n0:=bs.length) ⟨0,ad _,rfl,rfl,rfl⟩ ?_)
 rintro n Fr H ⟨k,hk,rfl,rfl,rfl⟩
 by_cases hlt:k<bs.length
 case pos =>
  obtain ⟨y,hy⟩:∃ y,bs[k]?=some y:=⟨_,gE hlt⟩
  have hfl:=AkI (CL bs) k
  have hnl:=BP (fl (CL bs) k)
  by_cases k2:y.kind=2
  case pos =>
   have hd:CL bs k=true:=by unfold CL;rw [Fk hy,k2];rfl
   have hap:(BU (fl (CL bs) (k)))++[(k:Int)]=(BU (fl (CL bs) (k+1))):=by rw [AbB hd,Oh]
   have hap2:(BU (fl (CL bs) (k))).length+1=(BU (fl (CL bs) (k+1))).length:=by rw [←hap,ao];rfl
   repeat' (with_reducible first|refine qq ?_|(refine Tx 6 ?_;refine gO xLt ?_)|(refine Tx 7 ?_;refine gO xM <| gO (xIr Ak (Dq hy)) <| gO xL <| gN (xAl Bu) <| gO xA <| gZ (xSk Bh) ?_)|(refine Tx 8 ?_;refine gO xF <| gO xD <| gO xEq ?_)|(refine Tx 9 ?_;refine gO xM <| gO xM <| gN (by exact BH rfl Ae CC rfl rfl (by decide) (by decide)) <| gT (by exact QJ rfl rfl rfl rfl rfl rfl Ae CC (by omega) (by decide) hap hap2) <| gO xA ?_)|(refine Tx 10 ?_;refine gO xAd <| gO xM ?_))
   exact AoN
  have hd:CL bs k=false:=by unfold CL;rw [Fk hy];exact Ek k2
  have hno:(BU (fl (CL bs) (k+1)))=(BU (fl (CL bs) (k))):=by rw [AkH hd]
  repeat' (with_reducible first|refine qq ?_|(refine Tx 6 ?_;refine gO xLt ?_)|(refine Tx 7 ?_;refine gO xM <| gO (xIr Ak (Dq hy)) <| gO xL <| gN (xAl Bu) <| gO xA <| gZ (xSk Bh) ?_)|(refine Tx 8 ?_;refine gO xF <| gO xD <| gO xEq ?_)|(refine Tx 10 ?_;refine gO xAd <| gO xM ?_))
  rw [←hno]
  exact AoN
 obtain rfl:k=bs.length:=by omega
 rw [hall]
 repeat' (with_reducible first|refine qq ?_|(refine Tx 6 ?_;refine gO xLt ?_)|(refine Tx 11 ?_;refine gO xM <| gO xA <| gO xA ?_))
 exact Au rfl (.cons_ (XK rfl rfl rfl) (.cons_ (Hc rfl rfl) .nil_))
open Go.ChangeShapes Go.WideShapes Go.ChangeAt Go.Joins Go.Deep
structure Rw where
 nb:Bool
 A:Option Addr
 ws:List Nat
 cap:Nat
 den:Int
def Rw.val (r:Rw):Value:=.agg #[.bool r.nb,.slice r.A r.ws.length r.cap,.int .i64 r.den]
def rw0:Rw:=⟨false,none,[],0,0⟩
instance:Inhabited Rw:=⟨rw0⟩
structure ArJ (w:World) (m:Nat) (r:Rw):Prop where
 nul:r.A=none→r.cap=0
 fit:r.ws.length≤r.cap
 at_:Aq w m r.A (w32 r.ws)
 ok:Av r.ws
def vdP (r:Rw):Prop:=if r.ws.length=0 then r.nb=false∧r.den=0 else r.ws[r.ws.length - 1]?.getD 0≠0∧0≤r.den∧r.den≤65536∧(r.den=0∨r.ws[0]?.getD 0 % 2=1)
instance (r:Rw):Decidable (vdP r):=by unfold vdP;infer_instance
def vdB (r:Rw):Bool:=decide (vdP r)
def Rw.x (r:Rw):Int:=sg r.nb (AH r.ws)
def Rw.d (r:Rw):Nat:=r.den.toNat
theorem Agb {r:Rw} (h:r.ws.length=0):vdP r ↔ r.nb=false∧r.den=0:=by unfold vdP;rw [if_pos h]
theorem AcF {r:Rw} (h:¬ r.ws.length=0):vdP r ↔ r.ws[r.ws.length - 1]?.getD 0≠0∧0≤r.den∧r.den≤65536∧(r.den=0∨r.ws[0]?.getD 0 % 2=1):=by unfold vdP;rw [if_neg h]
theorem QT {r:Rw} (h:vdP r):vdB r=true:=decide_eq_true h
theorem IJ {r:Rw} (h:¬ vdP r):vdB r=false:=decide_eq_false h
theorem Agc {r:Rw} (hok:Av r.ws) (h:vdB r=true):Ac (AH r.ws)=r.ws:=by
 have h:=of_decide_eq_true h
 refine Qs hok fun hne=>?_
 have hl:¬ r.ws.length=0:=fun h0=>hne (bz h0)
 exact ((AcF hl).1 h).1
theorem Aly (r:Rw):r.x.natAbs=AH r.ws:=IP _ _
structure Iv where
 lo:Rw
 hi:Rw
def iv0:Iv:=⟨rw0,rw0⟩
instance:Inhabited Iv:=⟨iv0⟩
def ivP (a:Iv):Prop:=vdB a.lo=true∧vdB a.hi=true∧Aat a.lo.x a.lo.d a.hi.x a.hi.d≤0
instance (a:Iv):Decidable (ivP a):=by unfold ivP;infer_instance
/- What came in. -/
set_option maxRecDepth 100000
theorem Fx (h:p:=by
  go_wp2_with fail
  all_goals first
    | (exfalso;omega)
    | (go_ret
       exact ⟨by rw [HV.out];rfl,al_ _ _⟩)):p:=h
theorem ZM (r:Rw) (m:Nat) (w:World) (hm:m≤w.heap.size) (h:ArJ w m r) (hl:r.ws.length≤1000000) :
  Calls prog 58 #[r.val] w fun e w'=>e=.returned (.bool (vdB r))∧Below w.heap.size w w':=by
 have hat:=h.at_
 have hok:=h.ok
 obtain ⟨nb,A,ws,cap,den⟩:=r
 dsimp only at hat hok hl
 simp only [Rw.val]
 have key:den<0∨den=0∨(0<den∧den≤65536)∨65536<den:=by omega
 by_cases h0:ws.length=0
 ·have hp:=Agb (r:=⟨nb,A,ws,cap,den⟩) h0
  dsimp only at hp
  have hz:(ws.length:Int)=0:=by omega
  have hzb:((ws.length:Int) == 0)=true:=by rw [hz];rfl
  rw [h0] at hzb ⊢
  clear hat hok hl h hz h0
  cases nb with
  | true =>
   rcases key with k1|k1|k1|k1
   all_goals
    have HV:=ll (show vdB ⟨true,A,ws,cap,den⟩=false from IJ (fun hv=>by have:=(hp.1 hv).1;cases this))
    clear hp
    go_enter func58,ntmps58
    exact Fx
  | false =>
   rcases key with k1|k1|k1|k1
   ·have d0:(den == 0)=false:=by rw [beq_eq_false_iff_ne];omega
    have HV:=ll (show vdB ⟨false,A,ws,cap,den⟩=false from IJ (fun hv=>by have:=(hp.1 hv).2;omega))
    clear hp
    go_enter func58,ntmps58
    exact Fx
   ·have d0:(den == 0)=true:=by simp;omega
    have HV:=ll (show vdB ⟨false,A,ws,cap,den⟩=true from QT (hp.2 ⟨rfl,k1⟩))
    clear hp
    go_enter func58,ntmps58
    exact Fx
   ·have d0:(den == 0)=false:=by rw [beq_eq_false_iff_ne];omega
    have HV:=ll (show vdB ⟨false,A,ws,cap,den⟩=false from IJ (fun hv=>by have:=(hp.1 hv).2;omega))
    clear hp
    go_enter func58,ntmps58
    exact Fx
   ·have d0:(den == 0)=false:=by rw [beq_eq_false_iff_ne];omega
    have HV:=ll (show vdB ⟨false,A,ws,cap,den⟩=false from IJ (fun hv=>by have:=(hp.1 hv).2;omega))
    clear hp
    go_enter func58,ntmps58
    exact Fx
 ·have hp:=AcF (r:=⟨nb,A,ws,cap,den⟩) h0
  dsimp only at hp
  obtain ⟨b,off,z,hA,q1,q2,hz,g1⟩:=hat.w32_ (k:=ws.length - 1) (by omega)
  subst hA
  obtain ⟨b',off',y,hA',_,_,hy,g0⟩:=hat.w32_ (k:=0) (by omega)
  cases hA'
  rw [ce] at g0
  obtain ⟨L,hL⟩:∃ L,L=ws.length - 1:=⟨_,rfl⟩
  have hlen:ws.length=L+1:=by omega
  have hl':L≤1000000:=by omega
  have e0:((L:Int)+1 == 0)=false:=by simp;omega
  rw [←hL] at g1
  rw [hz,hy] at hp
  simp only [bf] at hp
  rw [hlen]
  clear hat hok hl h hz hy hL q1 q2 h0 hlen
  by_cases hz0:z=0
  ·subst hz0
   have hzb:(((0:Nat):Int) != 0)=false:=by rfl
   rcases key with k1|k1|k1|k1
   all_goals
    have HV:=ll (show vdB ⟨nb,some ⟨b,off,none⟩,ws,cap,den⟩=false from IJ (fun hv=>(hp.1 hv).1 rfl))
    clear hp
    go_enter func58,ntmps58
    exact Fx
  ·have hzb:((z:Int) != 0)=true:=by simp;omega
   rcases key with k1|k1|k1|k1
   ·have HV:=ll (show vdB ⟨nb,some ⟨b,off,none⟩,ws,cap,den⟩=false from IJ (fun hv=>by have:=(hp.1 hv).2.1;omega))
    clear hp
    go_enter func58,ntmps58
    exact Fx
   ·have d0:(den == 0)=true:=by simp;omega
    have HV:=ll (show vdB ⟨nb,some ⟨b,off,none⟩,ws,cap,den⟩=true from QT (hp.2 ⟨hz0,by omega,by omega,.inl k1⟩))
    clear hp
    go_enter func58,ntmps58
    exact Fx
   ·have d0:(den == 0)=false:=by rw [beq_eq_false_iff_ne];omega
    have d1:decide (den≤65536)=true:=decide_eq_true k1.2
    have d2:decide (0≤den)=true:=decide_eq_true (by omega)
    by_cases ho:y % 2=1
    ·have hoi:(y:Int) % 2=1:=by omega
     have HV:=ll (show vdB ⟨nb,some ⟨b,off,none⟩,ws,cap,den⟩=true from QT (hp.2 ⟨hz0,by omega,k1.2,.inr ho⟩))
     clear hp
     go_enter func58,ntmps58
     exact Fx
    ·have hoi:(y:Int) % 2=0:=by omega
     have HV:=ll (show vdB ⟨nb,some ⟨b,off,none⟩,ws,cap,den⟩=false from IJ (fun hv=>by have:=(hp.1 hv).2.2.2;omega))
     clear hp
     go_enter func58,ntmps58
     exact Fx
   ·have HV:=ll (show vdB ⟨nb,some ⟨b,off,none⟩,ws,cap,den⟩=false from IJ (fun hv=>by have:=(hp.1 hv).2.2.1;omega))
    clear hp
    go_enter func58,ntmps58
    exact Fx
theorem ZN (r:Rw) (m:Nat) (w:World) (hm:m≤w.heap.size) (h:ArJ w m r) (hl:r.ws.length≤1000000) :
  Calls prog 163 #[r.val] w fun e w'=>e=.returned (.bool (vdB r))∧Below w.heap.size w w':=by
 have hat:=h.at_
 have hok:=h.ok
 obtain ⟨nb,A,ws,cap,den⟩:=r
 dsimp only at hat hok hl
 simp only [Rw.val]
 have key:den<0∨den=0∨(0<den∧den≤65536)∨65536<den:=by omega
 by_cases h0:ws.length=0
 ·have hp:=Agb (r:=⟨nb,A,ws,cap,den⟩) h0
  dsimp only at hp
  have hz:(ws.length:Int)=0:=by omega
  have hzb:((ws.length:Int) == 0)=true:=by rw [hz];rfl
  rw [h0] at hzb ⊢
  clear hat hok hl h hz h0
  cases nb with
  | true =>
   rcases key with k1|k1|k1|k1
   all_goals
    have HV:=ll (show vdB ⟨true,A,ws,cap,den⟩=false from IJ (fun hv=>by have:=(hp.1 hv).1;cases this))
    clear hp
    go_enter func163,ntmps163
    exact Fx
  | false =>
   rcases key with k1|k1|k1|k1
   ·have d0:(den == 0)=false:=by rw [beq_eq_false_iff_ne];omega
    have HV:=ll (show vdB ⟨false,A,ws,cap,den⟩=false from IJ (fun hv=>by have:=(hp.1 hv).2;omega))
    clear hp
    go_enter func163,ntmps163
    exact Fx
   ·have d0:(den == 0)=true:=by simp;omega
    have HV:=ll (show vdB ⟨false,A,ws,cap,den⟩=true from QT (hp.2 ⟨rfl,k1⟩))
    clear hp
    go_enter func163,ntmps163
    exact Fx
   ·have d0:(den == 0)=false:=by rw [beq_eq_false_iff_ne];omega
    have HV:=ll (show vdB ⟨false,A,ws,cap,den⟩=false from IJ (fun hv=>by have:=(hp.1 hv).2;omega))
    clear hp
    go_enter func163,ntmps163
    exact Fx
   ·have d0:(den == 0)=false:=by rw [beq_eq_false_iff_ne];omega
    have HV:=ll (show vdB ⟨false,A,ws,cap,den⟩=false from IJ (fun hv=>by have:=(hp.1 hv).2;omega))
    clear hp
    go_enter func163,ntmps163
    exact Fx
 ·have hp:=AcF (r:=⟨nb,A,ws,cap,den⟩) h0
  dsimp only at hp
  obtain ⟨b,off,z,hA,q1,q2,hz,g1⟩:=hat.w32_ (k:=ws.length - 1) (by omega)
  subst hA
  obtain ⟨b',off',y,hA',_,_,hy,g0⟩:=hat.w32_ (k:=0) (by omega)
  cases hA'
  rw [ce] at g0
  obtain ⟨L,hL⟩:∃ L,L=ws.length - 1:=⟨_,rfl⟩
  have hlen:ws.length=L+1:=by omega
  have hl':L≤1000000:=by omega
  have e0:((L:Int)+1 == 0)=false:=by simp;omega
  rw [←hL] at g1
  rw [hz,hy] at hp
  simp only [bf] at hp
  rw [hlen]
  clear hat hok hl h hz hy hL q1 q2 h0 hlen
  by_cases hz0:z=0
  ·subst hz0
   have hzb:(((0:Nat):Int) != 0)=false:=by rfl
   rcases key with k1|k1|k1|k1
   all_goals
    have HV:=ll (show vdB ⟨nb,some ⟨b,off,none⟩,ws,cap,den⟩=false from IJ (fun hv=>(hp.1 hv).1 rfl))
    clear hp
    go_enter func163,ntmps163
    exact Fx
  ·have hzb:((z:Int) != 0)=true:=by simp;omega
   rcases key with k1|k1|k1|k1
   ·have HV:=ll (show vdB ⟨nb,some ⟨b,off,none⟩,ws,cap,den⟩=false from IJ (fun hv=>by have:=(hp.1 hv).2.1;omega))
    clear hp
    go_enter func163,ntmps163
    exact Fx
   ·have d0:(den == 0)=true:=by simp;omega
    have HV:=ll (show vdB ⟨nb,some ⟨b,off,none⟩,ws,cap,den⟩=true from QT (hp.2 ⟨hz0,by omega,by omega,.inl k1⟩))
    clear hp
    go_enter func163,ntmps163
    exact Fx
   ·have d0:(den == 0)=false:=by rw [beq_eq_false_iff_ne];omega
    have d1:decide (den≤65536)=true:=decide_eq_true k1.2
    have d2:decide (0≤den)=true:=decide_eq_true (by omega)
    by_cases ho:y % 2=1
    ·have hoi:(y:Int) % 2=1:=by omega
     have HV:=ll (show vdB ⟨nb,some ⟨b,off,none⟩,ws,cap,den⟩=true from QT (hp.2 ⟨hz0,by omega,k1.2,.inr ho⟩))
     clear hp
     go_enter func163,ntmps163
     exact Fx
    ·have hoi:(y:Int) % 2=0:=by omega
     have HV:=ll (show vdB ⟨nb,some ⟨b,off,none⟩,ws,cap,den⟩=false from IJ (fun hv=>by have:=(hp.1 hv).2.2.2;omega))
     clear hp
     go_enter func163,ntmps163
     exact Fx
   ·have HV:=ll (show vdB ⟨nb,some ⟨b,off,none⟩,ws,cap,den⟩=false from IJ (fun hv=>by have:=(hp.1 hv).2.2.1;omega))
    clear hp
    go_enter func163,ntmps163
    exact Fx
end Go.Proofs.YtjlkgfeepocjfaaGreatDoor
