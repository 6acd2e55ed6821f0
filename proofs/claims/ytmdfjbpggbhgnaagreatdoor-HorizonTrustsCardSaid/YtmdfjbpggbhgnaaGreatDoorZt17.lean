/- What the proofs of this claim share, part 17. No conditions. -/
import Derived.Test.YtmdfjbpggbhgnaaGreatDoorZt16
import Derived.Test.YtmdfjbpggbhgnaaGreatDoorZt6
import Derived.Test.YtmdfjbpggbhgnaaGreatDoorZt11
import Derived.Test.YtmdfjbpggbhgnaaGreatDoorZt12
import Derived.Test.YtmdfjbpggbhgnaaGreatDoorZt9
set_option maxRecDepth 100000
set_option maxHeartbeats 4000000
set_option linter.unusedVariables false
set_option linter.unusedSimpArgs false
set_option linter.unusedSectionVars false
namespace Go.Proofs.YtmdfjbpggbhgnaaGreatDoor
open Go.RowKit
theorem MH (x:Int) (dx:Nat) (hnx:Nf x dx) (lx:(Ad x.natAbs).length≤40000):CV Tryz.prog Ax 55 [aDy false x dx] [aI (sgI x)]:=by
 refine cvz Tryz.func55 Tryz.ntmps55 ?_
 have PX:=EE (G:=Ax) x dx hnx (Nat.le_trans lx (by decide))
 by_cases c0:x=0
 case pos =>
  have l0:((Ad x.natAbs).length:Int)=0:=by rw [show x.natAbs=0 by omega,AP];rfl
  rw [show decide (x<0)=false by rw [decide_eq_false (by omega)]] at PX
  rw [show sgI x=0 by unfold sgI;(repeat' split) <;> omega]
  repeat' (with_reducible first|refine qq ?_|(refine Tx 0 ?_;refine Jn xBo ?_;refine Ja ?_)|(refine Tx 1 ?_;refine jA ?_;refine Jo (xCl Tryz.func69 (PX)) ?_;refine Jo xMt ?_;refine Jo xEx ?_;refine Jo xEx ?_;refine Jo xEx ?_;refine Ja ?_;refine Ja ?_;refine Ja ?_)|(refine Tx 2 ?_;refine Jm ?_;refine jN ?_;refine Jo xEq ?_;refine Ja ?_)|(refine Tx 3 ?_;refine Ja ?_))
  exact Ap rfl (.cons_ (MT rfl rfl) .nil_)
 by_cases cm1:x<0
 case pos =>
  have l0:¬ ((Ad x.natAbs).length:Int)=0:=fun hc=>by have:=Co (n:=x.natAbs) (by omega);omega
  rw [show decide (x<0)=true by rw [decide_eq_true (by omega)]] at PX
  rw [show sgI x = -1 by unfold sgI;(repeat' split) <;> omega]
  repeat' (with_reducible first|refine qq ?_|(refine Tx 0 ?_;refine Jn xBo ?_;refine Ja ?_)|(refine Tx 1 ?_;refine jA ?_;refine Jo (xCl Tryz.func69 (PX)) ?_;refine Jo xMt ?_;refine Jo xEx ?_;refine Jo xEx ?_;refine Jo xEx ?_;refine Ja ?_;refine Ja ?_;refine Ja ?_)|(refine Tx 2 ?_;refine Jm ?_;refine jN ?_;refine Jo xEq ?_;refine Ja ?_)|(refine Tx 4 ?_;refine Jm ?_;refine Ja ?_)|(refine Tx 5 ?_;refine Ja ?_))
  exact Ap rfl (.cons_ (MT rfl rfl) .nil_)
 have l0:¬ ((Ad x.natAbs).length:Int)=0:=fun hc=>by have:=Co (n:=x.natAbs) (by omega);omega
 rw [show decide (x<0)=false by rw [decide_eq_false (by omega)]] at PX
 rw [show sgI x=1 by unfold sgI;(repeat' split) <;> omega]
 repeat' (with_reducible first|refine qq ?_|(refine Tx 0 ?_;refine Jn xBo ?_;refine Ja ?_)|(refine Tx 1 ?_;refine jA ?_;refine Jo (xCl Tryz.func69 (PX)) ?_;refine Jo xMt ?_;refine Jo xEx ?_;refine Jo xEx ?_;refine Jo xEx ?_;refine Ja ?_;refine Ja ?_;refine Ja ?_)|(refine Tx 2 ?_;refine Jm ?_;refine jN ?_;refine Jo xEq ?_;refine Ja ?_)|(refine Tx 4 ?_;refine Jm ?_;refine Ja ?_)|(refine Tx 6 ?_;refine Ja ?_))
 exact Ap rfl (.cons_ (MT rfl rfl) .nil_)
theorem Uu (x:Int) (d den:Nat) (hn:Nf x d) (hl:(Ad x.natAbs).length≤40000) (hd:den≤65536):CVF Tryz.prog Ax 22 [aDy false x d,aI (den:Int)] [aDy false (BO x d den).1 (BO x d den).2,aE 0]:=fun w S vs hg hlt ha=>by
 obtain ⟨v,vs',rfl,h1,ha⟩:=ha.uncons
 obtain ⟨u,hu,h2⟩:=BW ha
 subst hu
 cases h2
 exact (Nh (GS h1 hlt hn) (Nat.le_refl _) (Nat.le_trans hl (by decide)) hd hg).mono fun r w' ⟨v,he,hd,hb⟩=>⟨_,he,GR (GC hd) (BE.val rfl),hb⟩
theorem Tw {x:Int} {d den:Nat} (hn:Nf x d) (hd:den≤65536):Nf (BO x d den).1 (BO x d den).2:=by
 unfold BO
 split
 ·exact hn
 ·exact Nf.nf hd
theorem Qw {x:Int} {k:Nat}:(x / 2 ^ k).natAbs≤x.natAbs:=by
 have h1:=Int.mul_ediv_add_emod x (2 ^ k)
 have h2:=Int.emod_nonneg x (Xf k)
 have h3:=Int.emod_lt_of_pos x (BR k)
 have hp:=BR k
 generalize (2:Int) ^ k=P at *
 generalize hq:x / P=q at *
 rcases Int.lt_or_le q 0 with hlt|hge
 ·have:P*q≤q:=by
   have:=Int.mul_le_mul_of_nonpos_right (show (1:Int)≤P by omega) (Int.le_of_lt hlt)
   omega
  rcases Int.lt_or_le x 0 with hx|hx
  ·by_cases hP:P=1
   ·subst hP;omega
   ·have h4:2*(-q)≤P*(-q):=Int.mul_le_mul_of_nonneg_right (by omega) (by omega)
    rw [Int.mul_neg] at h4
    by_cases hq1:q = -1
    ·subst hq1;omega
    ·have h5:P*(-q - 1) ≥ 1*(-q - 1):=Int.mul_le_mul_of_nonneg_right (by omega) (by omega)
     rw [Int.mul_sub,Int.mul_neg] at h5
     omega
  ·exfalso
   have:0≤q:=by rw [←hq];exact Int.ediv_nonneg hx (by omega)
   omega
 ·have:1*q≤P*q:=Int.mul_le_mul_of_nonneg_right (by omega) hge
  omega
theorem Qx {x:Int} {d den k:Nat} (hl:(Ad x.natAbs).length≤k):(Ad (BO x d den).1.natAbs).length≤k:=by
 unfold BO
 split
 ·exact hl
 ·exact Nat.le_trans (AX (Nat.le_trans (Er _ _) Qw)) hl
theorem Xu (x:Int) (d den:Nat) (hn:Nf x d) (hl:(Ad x.natAbs).length≤40000) (hd:den≤65536):CV Tryz.prog Ax 153 [aDy false x d,aI (den:Int)] [aDy false (Us (x,d) den).1 (Us (x,d) den).2,aE 0]:=by
 refine cvz Tryz.func153 Tryz.ntmps153 ?_
 have NG:=LD x d hn hl
 have hnn:Nf (-x) d:=⟨hn.1,fun h=>by have:=hn.2 h;omega⟩
 have FL:=(Uu (-x) d den hnn (by rw [Int.natAbs_neg];exact hl) hd).cv
 have NH:=LD (BO (-x) d den).1 (BO (-x) d den).2 (Tw hnn hd) (Qx (by rw [Int.natAbs_neg];exact hl))
 repeat' (with_reducible first|refine qq ?_|(refine Tx 0 ?_;refine Jn xBo ?_;refine Jn (xAl Aj) ?_;refine Ja ?_)|(refine Tx 1 ?_;refine jA ?_;refine Jo (by first|exact xCl Tryz.func176 (NG)|exact xCl Tryz.func176 (NH)) ?_;refine Jm ?_;refine Jo (xCl Tryz.func22 (FL)) ?_;refine Jo xMt ?_;refine Jo (by exact FN rfl rfl rfl) ?_;refine Jo xEx ?_;refine Jn (xAl Aj) ?_;refine Js (xSk Aa) ?_;refine Ja ?_)|(refine Tx 2 ?_;refine jA ?_;refine Jo (by first|exact xCl Tryz.func176 (NG)|exact xCl Tryz.func176 (NH)) ?_;refine Jm ?_;refine Js (xSk Aa) ?_;refine Ja ?_))
 exact Ap rfl (.cons_ (rvW Aa rfl) (.cons_ (Qh rfl rfl) .nil_))
def ivR (r s:Rv):Bool:=vdB r.rw && vdB s.rw && decide (Cl r.rw.x r.rw.d s.rw.x s.rw.d≤0)
def RvL (r:Rv):Prop:=Az r.ws∧r.ws.length≤40000
def dIr (t:Bool) (a:Rv × Rv):List D:=dRv t a.1++dRv t a.2
theorem NP (r s:Rv) (hr:RvL r) (hs:RvL s):CV Tryz.prog Ax 122 [.agg (dIr false (r,s))] [aB (ivR r s)]:=by
 refine cvz Tryz.func122 Tryz.ntmps122 ?_
 have V1:=(Mv (G:=Ax) false r hr.1 (Nat.le_trans hr.2 (by decide))).cv
 have V2:=(Mv (G:=Ax) false s hs.1 (Nat.le_trans hs.2 (by decide))).cv
 by_cases c1:vdB r.rw=true
 case neg =>
  rw [Bool.not_eq_true] at c1
  rw [c1] at V1
  repeat' (with_reducible first|refine qq ?_|(refine Tx 0 ?_;refine Jn xBo ?_;refine Ja ?_)|(refine Tx 1 ?_;refine jF ?_;refine jA ?_;refine Jo (xCl Tryz.func123 (V1)) ?_;refine Jm ?_;(first|iterate 3 refine Jd ?_|(refine Jy (xFa Av Aa) ?_;refine Jy (xLa Aa) ?_;refine Jy (xCl Tryz.func123 (V1)) ?_));refine Jo xPk ?_;refine Jm ?_;(first|iterate 4 refine Jd ?_|(refine Jy (xFa Bg Aa) ?_;refine Jy (xLa Aa) ?_;refine Jy (xFa Av Aa) ?_;refine Jy (xLa Aa) ?_));refine Jd ?_;(first|refine Jd ?_|refine Jy xLe ?_);refine Jo xPk ?_;refine Ja ?_))
  exact Ap rfl (.cons_ (BL rfl (by unfold ivR;rw [c1];rfl)) .nil_)
 by_cases c2:vdB s.rw=true
 case neg =>
  rw [Bool.not_eq_true] at c2
  rw [c1] at V1
  rw [c2] at V2
  repeat' (with_reducible first|refine qq ?_|(refine Tx 0 ?_;refine Jn xBo ?_;refine Ja ?_)|(refine Tx 1 ?_;refine jF ?_;refine jA ?_;refine Jo (xCl Tryz.func123 (V1)) ?_;refine Jm ?_;(first|iterate 3 refine Jd ?_|(refine Jy (xFa Av Aa) ?_;refine Jy (xLa Aa) ?_;refine Jy (xCl Tryz.func123 (V2)) ?_));refine Jo xPk ?_;refine Jm ?_;(first|iterate 4 refine Jd ?_|(refine Jy (xFa Bg Aa) ?_;refine Jy (xLa Aa) ?_;refine Jy (xFa Av Aa) ?_;refine Jy (xLa Aa) ?_));refine Jd ?_;(first|refine Jd ?_|refine Jy xLe ?_);refine Jo xPk ?_;refine Ja ?_))
  exact Ap rfl (.cons_ (BL rfl (by unfold ivR;rw [c1,c2];rfl)) .nil_)
 rw [c1] at V1
 rw [c2] at V2
 obtain ⟨e1,n1,k1⟩:=RI (t:=false) hr.1 c1
 obtain ⟨e2,n2,k2⟩:=RI (t:=false) hs.1 c2
 have CM:=CY r.rw.x r.rw.d s.rw.x s.rw.d n1 n2 (Nat.le_trans (Nat.le_of_eq k1) hr.2) (Nat.le_trans (Nat.le_of_eq k2) hs.2)
 unfold aDy at CM
 rw [←e1,←e2] at CM
 by_cases c3:Cl r.rw.x r.rw.d s.rw.x s.rw.d≤0
 case pos =>
  repeat' (with_reducible first|refine qq ?_|(refine Tx 0 ?_;refine Jn xBo ?_;refine Ja ?_)|(refine Tx 1 ?_;refine jF ?_;refine jA ?_;refine Jo (xCl Tryz.func123 (V1)) ?_;refine Jm ?_;(first|iterate 3 refine Jd ?_|(refine Jy (xFa Av Aa) ?_;refine Jy (xLa Aa) ?_;refine Jy (xCl Tryz.func123 (V2)) ?_));refine Jo xPk ?_;refine Jm ?_;(first|iterate 6 refine Jd ?_|(refine Jy (xFa Bg Aa) ?_;refine Jy (xLa Aa) ?_;refine Jy (xFa Av Aa) ?_;refine Jy (xLa Aa) ?_;refine Jy (xCl Tryz.func15 (CM)) ?_;refine Jy xLe ?_));refine Jo xPk ?_;refine Ja ?_))
  exact Ap rfl (.cons_ (BL rfl (by unfold ivR;rw [c1,c2,decide_eq_true c3];rfl)) .nil_)
 case neg =>
  repeat' (with_reducible first|refine qq ?_|(refine Tx 0 ?_;refine Jn xBo ?_;refine Ja ?_)|(refine Tx 1 ?_;refine jF ?_;refine jA ?_;refine Jo (xCl Tryz.func123 (V1)) ?_;refine Jm ?_;(first|iterate 3 refine Jd ?_|(refine Jy (xFa Av Aa) ?_;refine Jy (xLa Aa) ?_;refine Jy (xCl Tryz.func123 (V2)) ?_));refine Jo xPk ?_;refine Jm ?_;(first|iterate 6 refine Jd ?_|(refine Jy (xFa Bg Aa) ?_;refine Jy (xLa Aa) ?_;refine Jy (xFa Av Aa) ?_;refine Jy (xLa Aa) ?_;refine Jy (xCl Tryz.func15 (CM)) ?_;refine Jy xLe ?_));refine Jo xPk ?_;refine Ja ?_))
  exact Ap rfl (.cons_ (BL rfl (by unfold ivR;rw [c1,c2,decide_eq_false c3];rfl)) .nil_)
theorem Aav {p:Pq} {n d:Nat} (h:Sm p n d) (hn:n≤1280000):RvL (Gb p):=⟨AV _,h.lenN 40000 (by omega)⟩
theorem Ags {a:Iq} {n d:Nat} (h:IwS a n d):ivR (Gb a.1) (Gb a.2)=true:=by
 unfold ivR
 rw [Xl h.s1.ok,Xl h.s2.ok]
 have:Cl (Gb a.1).rw.x (Gb a.1).rw.d (Gb a.2).rw.x (Gb a.2).rw.d=Qs (rvP (Gb a.1)) (rvP (Gb a.2)):=rfl
 rw [MD,MD] at this
 rw [this,decide_eq_true ((My h.s1.le h.s2.le).2 h.le)]
 rfl
theorem Uv (a:Iq) {n d:Nat} (h:IwS a n d) (hn:n≤1280000):CV Tryz.prog Ax 122 [aIw false a] [aB true]:=by
 have:=NP (Gb a.1) (Gb a.2) (Aav h.s1 hn) (Aav h.s2 hn)
 rw [Ags h] at this
 unfold dIr at this
 rwa [ME,ME] at this
theorem MI (x:Int) (d:Nat) (hn:Nf x d) (hl:(Ad x.natAbs).length≤40000):CV Tryz.prog Ax 227 [aDy false x d] [aDy false x d]:=by
 refine cvz Tryz.func227 Tryz.ntmps227 ?_
 have SH:=Ca x d 0 hn (Nat.le_trans hl (by decide)) (by have:=hn.1;omega)
 rw [EZ hn] at SH
 repeat' (with_reducible first|refine qq ?_|(refine Tx 0 ?_;refine Jn xBo ?_;refine Jn (xAl Aj) ?_)|(refine Tx 1 ?_;refine jA ?_;refine Jo (xCl Tryz.func21 (SH)) ?_;refine Js (xSk Aa) ?_))
 exact Ap rfl (.cons_ (rvW Aa rfl) .nil_)
theorem Zz (a:Iq) {n d:Nat} (h:IwS a n d) (hn:n≤1280000) (l1:(Ad a.1.1.natAbs).length≤40000) (l2:(Ad a.2.1.natAbs).length≤40000):CV Tryz.prog Ax 228 [aIw false a] [aIw false a]:=by
 refine cvz Tryz.func228 Tryz.ntmps228 ?_
 have V:=Uv a h hn
 have S1:=MI a.1.1 a.1.2 h.s1.ok l1
 have S2:=MI a.2.1 a.2.2 h.s2.ok l2
 repeat' (with_reducible first|refine qq ?_|(refine Tx 0 ?_;refine Jn xBo ?_;refine Jn (xAl Ao) ?_)|(refine Tx 1 ?_;refine jA ?_;refine Jo (xCl Tryz.func122 (V)) ?_;refine Jo (by first|exact xNt|exact xNg) ?_)|(refine Ba (id:=3) 7 AK (by kernel_rfl) ?_;dsimp only [List.take,List.drop];refine kF ?_;refine kA ?_;refine Ko (by first|exact xCl Tryz.func227 (S1)|exact xCl Tryz.func227 (S2)) ?_;refine kF ?_;refine kA ?_;refine Ko (by first|exact xCl Tryz.func227 (S1)|exact xCl Tryz.func227 (S2)) ?_;refine Ko (by exact BI rfl Di rfl rfl) ?_;refine Ke ?_;refine Js (xSk Ag) ?_))
 exact Ap rfl (.cons_ (rvJ Ag rfl) .nil_)
theorem DE (a:Iq) (h:IwS a 20000 20000):CV Tryz.prog Ax 228 [aIw false a] [aIw false a]:=Zz a h (by decide) (Nat.le_trans (h.s1.lenN 625 (by decide)) (by decide)) (Nat.le_trans (h.s2.lenN 625 (by decide)) (by decide))
theorem Dn (p:Pq) (hn:Nf p.1 p.2) (hl:(Ad p.1.natAbs).length≤40000):CV Tryz.prog Ax 140 [aDy false p.1 p.2] [aIw false (p,p)]:=by
 refine cvz Tryz.func140 Tryz.ntmps140 ?_
 have S1:=MI p.1 p.2 hn hl
 repeat' (with_reducible first|refine qq ?_|(refine Tx 0 ?_;refine Jn xBo ?_;refine Jn (xAl Ao) ?_)|(refine Ba (id:=1) 5 AK (by kernel_rfl) ?_;dsimp only [List.take,List.drop];refine kA ?_;refine Ko (xCl Tryz.func227 (S1)) ?_;refine kA ?_;refine Ko (xCl Tryz.func227 (S1)) ?_;refine Ko (by exact BI rfl Di rfl rfl) ?_;refine Ke ?_;refine Js (xSk Ag) ?_))
 exact Ap rfl (.cons_ (rvJ Ag rfl) .nil_)
theorem Ty {l:List Pq} {k:Nat} {p:Pq} (h:l[k]?=some p):((AN dyP l).drop (k*3)).take 3=dyP p:=MV h
theorem Qy {P:Program} {G:World→Prop} {o:Oper} {F:Frm} {H:List Ob} {t e:TypeId} {x l:Operand} {tg:Bool} {n s lo:Nat} {k:IntKind} {z:Int} {cs:List D} (ho:o.op=.slice t x (some l) none none) (hx:F.ev x=.one (.d (.row tg s n cs))) (hl:F.ev l=.one (.d (.val (.int k z)))) (hz:z=(lo:Int)) (ht:TyS P t e s) (h1:lo≤n):Bs P G o F H (.one (.d (.row tg s (n - lo) (cs.drop (lo*s))))) []:=WK ho hx hl hz ht h1
theorem Hy (t:Bool) (L:List Pq) (hne:L≠[]) (hs:∀ p∈L,Sm p 40064 40000) (hL:L.length≤100):CV Tryz.prog Ax 226 [.one (.row t 3 L.length (AN dyP L))] [aIw false (De L)]:=by
 refine cvz Tryz.func226 Tryz.ntmps226 ?_
 obtain ⟨p,l,rfl⟩:∃ p l,L=p::l:=by cases L with|nil=>exact absurd rfl hne|cons p l=>exact ⟨p,l,rfl⟩
 have hp:=hs p (List.mem_cons_self ..)
 have hpl:=Nat.le_trans (hp.lenN 1252 (by decide)) (show 1252≤40000 by decide)
 have PT:=Dn p hp.ok hpl
 have hlen:(p::l).length=l.length+1:=List.length_cons
 repeat' (with_reducible first|refine qq ?_|(refine Tx 0 ?_;refine Jn (xAl Ao) ?_)|(refine Tx 1 ?_;refine Jm ?_;refine Jo (by exact GB (i:=0) rfl rfl rfl rfl Ac (by omega) (by decide) (Ty (l:=p::l) (k:=0) rfl)) ?_;refine jA ?_;refine Jo (xCl Tryz.func140 (PT)) ?_;refine Jn (xAl Ao) ?_;refine Js (xSk Ag) ?_)|(refine Tx 2 ?_;refine Jm ?_;refine Jo (by exact Qy (lo:=1) rfl rfl rfl rfl Ac (by omega)) ?_;refine jN ?_;refine Jm ?_))
 refine CF (F':=ofL [(2,vr 0),(3,vr 1),(11,vd (.row t 3 ((p::l).length - 1) ((AN dyP (p::l)).drop (1*3)))),(12,vi (((p::l).length - 1:Nat))),(13,vi ((0:Nat)))]) (H':=[.box 45 [.d (.val (.bool false)),.d (.val (.slice none 0 0)),.d (.val (.int .i64 0)),.d (.val (.bool false)),.d (.val (.slice none 0 0)),.d (.val (.int .i64 0))],.box 45 ((dIw false ((l.take (0)).foldl Fq (p,p))).map C.d)]) (BM _ 2 ?_ ?_ ?_) ?_
 ·rfl
 ·exact mB rfl rfl
 ·exact ⟨AF rfl,Eb,trivial⟩
 refine Bp (fun n Fr H=>∃ k:Nat,k≤l.length∧n=l.length - k∧IwS ((l.take (k)).foldl Fq (p,p)) 40064 40000∧Fr=ofL [(2,vr 0),(3,vr 1),(11,vd (.row t 3 ((p::l).length - 1) ((AN dyP (p::l)).drop (1*3)))),(12,vi (((p::l).length - 1:Nat))),(13,vi ((k:Nat)))]∧H=[.box 45 [.d (.val (.bool false)),.d (.val (.slice none 0 0)),.d (.val (.int .i64 0)),.d (.val (.bool false)),.d (.val (.slice none 0 0)),.d (.val (.int .i64 0))],.box 45 ((dIw false ((l.take (k)).foldl Fq (p,p))).map C.d)]) (n0:=l.length) ⟨0,Nat.zero_le _,rfl,.pt hp,rfl,rfl⟩ ?_
 rintro n Fr H ⟨k,hk,rfl,hS,rfl,rfl⟩
 by_cases hlt:k<l.length
 case pos =>
  obtain ⟨x,hx⟩:∃ x,l[k]?=some x:=⟨_,List.getElem?_eq_getElem hlt⟩
  have hxs:=hs x (List.mem_cons_of_mem _ (List.mem_of_getElem? hx))
  have hxl:=Nat.le_trans (hxs.lenN 1252 (by decide)) (show 1252≤40000 by decide)
  have a1:=hS.s1
  have a2:=hS.s2
  have a1l:=Nat.le_trans (a1.lenN 1252 (by decide)) (show 1252≤40000 by decide)
  have a2l:=Nat.le_trans (a2.lenN 1252 (by decide)) (show 1252≤40000 by decide)
  have hnx:Fq ((l.take (k)).foldl Fq (p,p)) x=((l.take (k+1)).foldl Fq (p,p)):=by rw [List.take_add_one,hx,Option.toList_some,List.foldl_append];rfl
  have hIS:IwS (Fq ((l.take (k)).foldl Fq (p,p)) x) 40064 40000:=⟨Sm.min a1 hxs,Sm.max a2 hxs,by show gv (Pn _ x)≤gv (FY _ x);rw [IT a1.le hxs.le,Fa a2.le hxs.le];have:=hS.le;omega⟩
  rw [hnx] at hIS
  have hxd:(((AN dyP (p::l)).drop (1*3)).drop (k*3)).take 3=dyP x:=by rw [List.drop_drop,show 1*3+k*3=(k+1)*3 by omega];exact Ty (l:=p::l) (k:=k+1) (by rw [List.getElem?_cons_succ];exact hx)
  generalize hT:((l.take (k)).foldl Fq (p,p))=T at *
  have MN:=OI T.1.1 T.1.2 x.1 x.2 a1.ok hxs.ok a1l hxl
  have MX:=DB T.2.1 T.2.2 x.1 x.2 a2.ok hxs.ok a2l hxl
  repeat' (with_reducible first|refine qq ?_|(refine Tx 3 ?_;refine Jo xLt ?_)|(refine Tx 4 ?_;refine Jo (xIr Ac (hxd)) ?_;refine jA ?_;refine Jn (xAl Aj) ?_;refine Js (xSk Aa) ?_)|(refine Ba (id:=5) 9 AK (by kernel_rfl) ?_;dsimp only [List.take,List.drop];refine kF ?_;refine kA ?_;refine kA ?_;refine Ko (xCl Tryz.func225 (MN)) ?_;refine kF ?_;refine kA ?_;refine kA ?_;refine Ko (xCl Tryz.func156 (MX)) ?_;refine kF ?_;refine Ke ?_;refine Js (xSk Aa) ?_;refine jF ?_;refine Js (xSk Aa) ?_)|(refine Tx 6 ?_;refine Jo xAd ?_;refine Jm ?_))
  refine ⟨_,_,BM _ 2 ?_ ?_ ?_,_,?_,k+1,by omega,rfl,hIS,rfl,rfl⟩
  ·rw [←hnx];rfl
  ·exact mB rfl rfl
  ·exact ⟨AF rfl,Eb,trivial⟩
  ·omega
 obtain rfl:k=l.length:=by omega
 clear hlt hk
 rw [List.take_length]
 repeat' (with_reducible first|refine qq ?_|(refine Tx 3 ?_;refine Jo xLt ?_)|(refine Tx 7 ?_;refine jA ?_;refine Js (xSk Ag) ?_))
 exact Ap rfl (.cons_ (rvJ Ag rfl) .nil_)
theorem GV (x:Int) {n d:Nat} (h:x.natAbs<2 ^ 63) (hn:63≤n):Sm (x,0) n d:=⟨⟨Nat.zero_le _,fun h=>absurd rfl h⟩,Nat.lt_of_lt_of_le h (Nat.pow_le_pow_right (by decide) hn),Nat.zero_le _⟩
theorem Tz (x:Int) (h:x.natAbs<2 ^ 63):Sm (x,0) 40064 40000:=GV x h (by decide)
theorem Qz (x y:Int) (hx : -9223372036854775807≤x∧x<9223372036854775808) (hy : -9223372036854775807≤y∧y<9223372036854775808):CV Tryz.prog Ax 139 [aI x,aI y] [aIw false (De [(x,0),(y,0)])]:=by
 refine cvz Tryz.func139 Tryz.ntmps139 ?_
 have O1:=FV x (by omega) (by omega)
 have O2:=FV y (by omega) (by omega)
 have s1:Sm (x,0) 40064 40000:=Tz x (by omega)
 have s2:Sm (y,0) 40064 40000:=Tz y (by omega)
 have SP:=Hy true [(x,0),(y,0)] (by simp) (fun p hp=>by simp only [List.mem_cons,List.not_mem_nil,or_false] at hp;rcases hp with rfl|rfl <;> assumption) (Nat.le_of_ble_eq_true rfl)
 repeat' (with_reducible first|refine qq ?_|(refine Tx 0 ?_;refine Jn (xAl Ao) ?_)|(refine Tx 1 ?_;refine Jm ?_;refine Jo (by first|exact xCl Tryz.func68 (O1)|exact xCl Tryz.func68 (O2)) ?_;refine Jm ?_;refine Jo (by first|exact xCl Tryz.func68 (O1)|exact xCl Tryz.func68 (O2)) ?_;refine Jn (by exact EU rfl Ac Aj rfl rfl rfl rfl (by decide) (by decide)) ?_;refine Jo (xCl Tryz.func226 (SP)) ?_;refine Js (xSk Ag) ?_))
 exact Ap rfl (.cons_ (rvJ Ag rfl) .nil_)
theorem OT (a:Iq) (h:IwS a 20000 20000):CV Tryz.prog Ax 146 [aIw false a] [aIw false (Xi a)]:=by
 refine cvz Tryz.func146 Tryz.ntmps146 ?_
 have h1:=h.s1
 have h2:=h.s2
 have hl:=h1.l4
 have hm:=h2.l4
 have AR:=DE a h
 have N1:=LD a.1.1 a.1.2 h1.ok hl
 have N2:=LD a.2.1 a.2.2 h2.ok hm
 repeat' (with_reducible first|refine qq ?_|(refine Tx 0 ?_;refine Jn xBo ?_;refine Jn (xAl Ao) ?_)|(refine Tx 1 ?_;refine jA ?_;refine Jo (xCl Tryz.func228 (AR)) ?_;refine Js (xSk Ag) ?_)|(refine Ba (id:=2) 7 AK (by kernel_rfl) ?_;dsimp only [List.take,List.drop];refine kF ?_;refine kA ?_;refine Ko (by first|exact xCl Tryz.func176 (N2)|exact xCl Tryz.func176 (N1)) ?_;refine kF ?_;refine kA ?_;refine Ko (by first|exact xCl Tryz.func176 (N2)|exact xCl Tryz.func176 (N1)) ?_;refine Ko (by exact BI rfl Di rfl rfl) ?_;refine Ke ?_;refine Js (xSk Ag) ?_))
 exact Ap rfl (.cons_ (rvJ Ag rfl) .nil_)
theorem OU (a b:Iq) (h:IwS a 20000 20000) (k:IwS b 20000 20000):CV Tryz.prog Ax 143 [aIw false a,aIw false b] [aIw false (Ya a b)]:=by
 refine cvz Tryz.func143 Tryz.ntmps143 ?_
 have h1:=h.s1
 have h2:=h.s2
 have hl:=h1.l4
 have hm:=h2.l4
 have k1:=k.s1
 have k2:=k.s2
 have kl:=k1.l4
 have km:=k2.l4
 have AA:=DE a h
 have AB:=DE b k
 have C1:=BZ a.1.1 a.1.2 b.1.1 b.1.2 h1.ok k1.ok hl kl
 have C2:=BZ a.2.1 a.2.2 b.2.1 b.2.2 h2.ok k2.ok hm km
 repeat' (with_reducible first|refine qq ?_|(refine Tx 0 ?_;refine Jn xBo ?_;refine Jn xBo ?_;refine Jn (xAl Ao) ?_)|(refine Ba (id:=1) 4 AK (by kernel_rfl) ?_;dsimp only [List.take,List.drop];refine kA ?_;refine Ko (by first|exact xCl Tryz.func228 (AA)|exact xCl Tryz.func228 (AB)) ?_;refine kA ?_;refine Ko (by first|exact xCl Tryz.func228 (AA)|exact xCl Tryz.func228 (AB)) ?_;refine Ke ?_;refine Js (xSk Ag) ?_;refine Js (xSk Ag) ?_)|(refine Ba (id:=2) 11 AK (by kernel_rfl) ?_;dsimp only [List.take,List.drop];refine kF ?_;refine kA ?_;refine kF ?_;refine kA ?_;refine Ko (by first|exact xCl Tryz.func152 (C1)|exact xCl Tryz.func152 (C2)) ?_;refine kF ?_;refine kA ?_;refine kF ?_;refine kA ?_;refine Ko (by first|exact xCl Tryz.func152 (C1)|exact xCl Tryz.func152 (C2)) ?_;refine Ko (by exact BI rfl Di rfl rfl) ?_;refine Ke ?_;refine Js (xSk Ag) ?_))
 exact Ap rfl (.cons_ (rvJ Ag rfl) .nil_)
theorem OV (a b:Iq) (h:IwS a 20000 20000) (k:IwS b 20000 20000):CV Tryz.prog Ax 148 [aIw false a,aIw false b] [aIw false (Yc a b)]:=by
 refine cvz Tryz.func148 Tryz.ntmps148 ?_
 have h1:=h.s1
 have h2:=h.s2
 have hl:=h1.l4
 have hm:=h2.l4
 have k1:=k.s1
 have k2:=k.s2
 have kl:=k1.l4
 have km:=k2.l4
 have AA:=DE a h
 have AB:=DE b k
 have C1:=OI a.1.1 a.1.2 b.1.1 b.1.2 h1.ok k1.ok hl kl
 have C2:=OI a.2.1 a.2.2 b.2.1 b.2.2 h2.ok k2.ok hm km
 repeat' (with_reducible first|refine qq ?_|(refine Tx 0 ?_;refine Jn xBo ?_;refine Jn xBo ?_;refine Jn (xAl Ao) ?_)|(refine Ba (id:=1) 4 AK (by kernel_rfl) ?_;dsimp only [List.take,List.drop];refine kA ?_;refine Ko (by first|exact xCl Tryz.func228 (AA)|exact xCl Tryz.func228 (AB)) ?_;refine kA ?_;refine Ko (by first|exact xCl Tryz.func228 (AA)|exact xCl Tryz.func228 (AB)) ?_;refine Ke ?_;refine Js (xSk Ag) ?_;refine Js (xSk Ag) ?_)|(refine Ba (id:=2) 11 AK (by kernel_rfl) ?_;dsimp only [List.take,List.drop];refine kF ?_;refine kA ?_;refine kF ?_;refine kA ?_;refine Ko (by first|exact xCl Tryz.func225 (C1)|exact xCl Tryz.func225 (C2)) ?_;refine kF ?_;refine kA ?_;refine kF ?_;refine kA ?_;refine Ko (by first|exact xCl Tryz.func225 (C1)|exact xCl Tryz.func225 (C2)) ?_;refine Ko (by exact BI rfl Di rfl rfl) ?_;refine Ke ?_;refine Js (xSk Ag) ?_))
 exact Ap rfl (.cons_ (rvJ Ag rfl) .nil_)
theorem OW (a b:Iq) (h:IwS a 20000 20000) (k:IwS b 20000 20000):CV Tryz.prog Ax 149 [aIw false a,aIw false b] [aIw false (Xj a b)]:=by
 refine cvz Tryz.func149 Tryz.ntmps149 ?_
 have h1:=h.s1
 have h2:=h.s2
 have hl:=h1.l4
 have hm:=h2.l4
 have k1:=k.s1
 have k2:=k.s2
 have kl:=k1.l4
 have km:=k2.l4
 have AA:=DE a h
 have AB:=DE b k
 have C1:=DB a.1.1 a.1.2 b.1.1 b.1.2 h1.ok k1.ok hl kl
 have C2:=DB a.2.1 a.2.2 b.2.1 b.2.2 h2.ok k2.ok hm km
 repeat' (with_reducible first|refine qq ?_|(refine Tx 0 ?_;refine Jn xBo ?_;refine Jn xBo ?_;refine Jn (xAl Ao) ?_)|(refine Ba (id:=1) 4 AK (by kernel_rfl) ?_;dsimp only [List.take,List.drop];refine kA ?_;refine Ko (by first|exact xCl Tryz.func228 (AA)|exact xCl Tryz.func228 (AB)) ?_;refine kA ?_;refine Ko (by first|exact xCl Tryz.func228 (AA)|exact xCl Tryz.func228 (AB)) ?_;refine Ke ?_;refine Js (xSk Ag) ?_;refine Js (xSk Ag) ?_)|(refine Ba (id:=2) 11 AK (by kernel_rfl) ?_;dsimp only [List.take,List.drop];refine kF ?_;refine kA ?_;refine kF ?_;refine kA ?_;refine Ko (by first|exact xCl Tryz.func156 (C1)|exact xCl Tryz.func156 (C2)) ?_;refine kF ?_;refine kA ?_;refine kF ?_;refine kA ?_;refine Ko (by first|exact xCl Tryz.func156 (C1)|exact xCl Tryz.func156 (C2)) ?_;refine Ko (by exact BI rfl Di rfl rfl) ?_;refine Ke ?_;refine Js (xSk Ag) ?_))
 exact Ap rfl (.cons_ (rvJ Ag rfl) .nil_)
theorem OX (a b:Iq) (h:IwS a 20000 20000) (k:IwS b 20000 20000):CV Tryz.prog Ax 145 [aIw false a,aIw false b] [aIw false (Yb a b)]:=by
 refine cvz Tryz.func145 Tryz.ntmps145 ?_
 have h1:=h.s1
 have h2:=h.s2
 have hl:=h1.l4
 have hm:=h2.l4
 have k1:=k.s1
 have k2:=k.s2
 have kl:=k1.l4
 have km:=k2.l4
 have AA:=DE a h
 have AB:=DE b k
 have C0:=Ec a.1.1 a.1.2 b.1.1 b.1.2 h1.ok k1.ok hl kl (by have:=h1.d;have:=k1.d;omega)
 have s0:Sm (CT a.1 b.1) 40064 40000:=(Sm.mul h1 k1 (by decide)).more (by decide) (by decide)
 have C1:=Ec a.1.1 a.1.2 b.2.1 b.2.2 h1.ok k2.ok hl km (by have:=h1.d;have:=k2.d;omega)
 have s1:Sm (CT a.1 b.2) 40064 40000:=(Sm.mul h1 k2 (by decide)).more (by decide) (by decide)
 have C2:=Ec a.2.1 a.2.2 b.1.1 b.1.2 h2.ok k1.ok hm kl (by have:=h2.d;have:=k1.d;omega)
 have s2:Sm (CT a.2 b.1) 40064 40000:=(Sm.mul h2 k1 (by decide)).more (by decide) (by decide)
 have C3:=Ec a.2.1 a.2.2 b.2.1 b.2.2 h2.ok k2.ok hm km (by have:=h2.d;have:=k2.d;omega)
 have s3:Sm (CT a.2 b.2) 40064 40000:=(Sm.mul h2 k2 (by decide)).more (by decide) (by decide)
 have SP:=Hy true [CT a.1 b.1,CT a.1 b.2,CT a.2 b.1,CT a.2 b.2] (by simp) (fun p hp=>by simp only [List.mem_cons,List.not_mem_nil,or_false] at hp;rcases hp with rfl|rfl|rfl|rfl <;> assumption) (Nat.le_of_ble_eq_true rfl)
 repeat' (with_reducible first|refine qq ?_|(refine Tx 0 ?_;refine Jn xBo ?_;refine Jn xBo ?_;refine Jn (xAl Ao) ?_)|(refine Ba (id:=1) 4 AK (by kernel_rfl) ?_;dsimp only [List.take,List.drop];refine kA ?_;refine Ko (by first|exact xCl Tryz.func228 (AA)|exact xCl Tryz.func228 (AB)) ?_;refine kA ?_;refine Ko (by first|exact xCl Tryz.func228 (AA)|exact xCl Tryz.func228 (AB)) ?_;refine Ke ?_;refine Js (xSk Ag) ?_;refine Js (xSk Ag) ?_)|(refine Ba (id:=2) 22 AK (by kernel_rfl) ?_;dsimp only [List.take,List.drop];refine kF ?_;refine kA ?_;refine kF ?_;refine kA ?_;refine Ko (by first|exact xCl Tryz.func157 (C0)|exact xCl Tryz.func157 (C1)|exact xCl Tryz.func157 (C2)|exact xCl Tryz.func157 (C3)) ?_;refine kF ?_;refine kA ?_;refine kF ?_;refine kA ?_;refine Ko (by first|exact xCl Tryz.func157 (C0)|exact xCl Tryz.func157 (C1)|exact xCl Tryz.func157 (C2)|exact xCl Tryz.func157 (C3)) ?_;refine kF ?_;refine kA ?_;refine kF ?_;refine kA ?_;refine Ko (by first|exact xCl Tryz.func157 (C0)|exact xCl Tryz.func157 (C1)|exact xCl Tryz.func157 (C2)|exact xCl Tryz.func157 (C3)) ?_;refine kF ?_;refine kA ?_;refine kF ?_;refine kA ?_;refine Ko (by first|exact xCl Tryz.func157 (C0)|exact xCl Tryz.func157 (C1)|exact xCl Tryz.func157 (C2)|exact xCl Tryz.func157 (C3)) ?_;refine Kn (by exact EV rfl rfl Ac Aj (by decide) (by decide) (by decide) rfl rfl rfl) ?_;refine Ko (xCl Tryz.func226 (SP)) ?_;refine Ke ?_;refine Js (xSk Ag) ?_))
 exact Ap rfl (.cons_ (rvJ Ag rfl) .nil_)
theorem QA (a b:Iq) (h:IwS a 20000 20000) (k:IwS b 20000 20000):CV Tryz.prog Ax 142 [aIw false a,aIw false b] [aIw false (Qt a b)]:=by
 refine cvz Tryz.func142 Tryz.ntmps142 ?_
 have h1:=h.s1
 have h2:=h.s2
 have hl:=h1.l4
 have hm:=h2.l4
 have k1:=k.s1
 have k2:=k.s2
 have kl:=k1.l4
 have km:=k2.l4
 have AA:=DE a h
 have AB:=DE b k
 have s0:=Sm.more (n':=40064) (d':=40000) h1 (by decide) (by decide)
 have s1:=Sm.more (n':=40064) (d':=40000) h2 (by decide) (by decide)
 have s2:=Sm.more (n':=40064) (d':=40000) k1 (by decide) (by decide)
 have s3:=Sm.more (n':=40064) (d':=40000) k2 (by decide) (by decide)
 have SP:=Hy true [a.1,a.2,b.1,b.2] (by simp) (fun p hp=>by simp only [List.mem_cons,List.not_mem_nil,or_false] at hp;rcases hp with rfl|rfl|rfl|rfl <;> assumption) (Nat.le_of_ble_eq_true rfl)
 repeat' (with_reducible first|refine qq ?_|(refine Tx 0 ?_;refine Jn xBo ?_;refine Jn xBo ?_;refine Jn (xAl Ao) ?_)|(refine Ba (id:=1) 4 AK (by kernel_rfl) ?_;dsimp only [List.take,List.drop];refine kA ?_;refine Ko (by first|exact xCl Tryz.func228 (AA)|exact xCl Tryz.func228 (AB)) ?_;refine kA ?_;refine Ko (by first|exact xCl Tryz.func228 (AA)|exact xCl Tryz.func228 (AB)) ?_;refine Ke ?_;refine Js (xSk Ag) ?_;refine Js (xSk Ag) ?_)|(refine Tx 2 ?_;refine jF ?_;refine jA ?_;refine jF ?_;refine jA ?_;refine jF ?_;refine jA ?_;refine jF ?_;refine jA ?_;refine Jn (by exact EV rfl rfl Ac Aj (by decide) (by decide) (by decide) rfl rfl rfl) ?_;refine Jo (xCl Tryz.func226 (SP)) ?_;refine Js (xSk Ag) ?_))
 exact Ap rfl (.cons_ (rvJ Ag rfl) .nil_)
theorem Gm (a:Iq) (f:Pq) (h:IwS a 20000 20000) (hf:Sm f 20000 20000):CV Tryz.prog Ax 138 [aIw false a,aDy false f.1 f.2] [aIw false (FZ a f)]:=by
 refine cvz Tryz.func138 Tryz.ntmps138 ?_
 have PT:=Dn f hf.ok (Nat.le_trans (hf.lenN 625 (by decide)) (by decide))
 have ML:=OX a (f,f) h (.pt hf)
 repeat' (with_reducible first|refine qq ?_|(refine Tx 0 ?_;refine Jn xBo ?_;refine Jn xBo ?_;refine Jn (xAl Ao) ?_)|(refine Ba (id:=1) 4 AK (by kernel_rfl) ?_;dsimp only [List.take,List.drop];refine kA ?_;refine kA ?_;refine Ko (xCl Tryz.func140 (PT)) ?_;refine Ko (xCl Tryz.func145 (ML)) ?_;refine Ke ?_;refine Js (xSk Ag) ?_))
 exact Ap rfl (.cons_ (rvJ Ag rfl) .nil_)
theorem TA (a b:Iq) (h:IwS a 20000 20000) (k:IwS b 20000 20000):CV Tryz.prog Ax 144 [aIw false a,aIw false b] [aIw false (Zt a b)]:=by
 refine cvz Tryz.func144 Tryz.ntmps144 ?_
 have NG:=OT b k
 have AD:=OU a (Xi b) h k.neg
 repeat' (with_reducible first|refine qq ?_|(refine Tx 0 ?_;refine Jn xBo ?_;refine Jn xBo ?_;refine Jn (xAl Ao) ?_)|(refine Ba (id:=1) 4 AK (by kernel_rfl) ?_;dsimp only [List.take,List.drop];refine kA ?_;refine kA ?_;refine Ko (xCl Tryz.func146 (NG)) ?_;refine Ko (xCl Tryz.func143 (AD)) ?_;refine Ke ?_;refine Js (xSk Ag) ?_))
 exact Ap rfl (.cons_ (rvJ Ag rfl) .nil_)
theorem rvJ0 {P:Program} {F:Frm} {H:List Ob} {t:Tmp} {ty ty' id k:Nat} {q:Pq} (hk:TyK P ty true k) (hi:6=k) (hF:F t=.one (.ref id 0 none):=by with_unfolding_all exact rfl) (hH:H[id]?=some (.box ty' ([.d (.val (.bool false)),.d (.val (.slice none 0 0)),.d (.val (.int .i64 0))]++(dDy false q.1 q.2).map C.d)):=by with_unfolding_all exact rfl):RV P F H (.cell t ty) (aIw false ((0,0),q)):=by
 obtain ⟨⟨dd,hu,hd⟩,hz⟩:=hk
 have e:dDy false 0 0=[.val (.bool false),.row false 1 0 [],.val (.int .i64 0)]:=A.agg.inj Iy
 refine .cellA hF hH hu hd (by rw [hz,←hi];rfl) ?_
 show Bv _ _ (dDy false 0 0++dDy false q.1 q.2)
 rw [e]
 refine .app (.cons_ (.d fun _=>.val _) (.cons_ .nil (.cons_ (.d fun _=>.val _) .nil_))) (Bv.map_l.2 ⟨rfl,fun j x y hx hy=>?_⟩)
 rw [hx] at hy
 cases hy
 exact .d fun _=>Mx _ _ x (List.mem_of_getElem? hx)
theorem OY (a:Iq) (h:IwS a 20000 20000):CV Tryz.prog Ax 147 [aIw false a] [aIw false (Qu a)]:=by
 refine cvz Tryz.func147 Tryz.ntmps147 ?_
 have h1:=h.s1
 have h2:=h.s2
 have hl:=h1.l4
 have hm:=h2.l4
 have AR:=DE a h
 have A1:=LF a.1.1 a.1.2 h1.ok hl
 have A2:=LF a.2.1 a.2.2 h2.ok hm
 have s1:Sm (Gv a.1) 40064 40000:=h1.abs.more (by decide) (by decide)
 have s2:Sm (Gv a.2) 40064 40000:=h2.abs.more (by decide) (by decide)
 have SP:=Hy true [Gv a.1,Gv a.2] (by simp) (fun p hp=>by simp only [List.mem_cons,List.not_mem_nil,or_false] at hp;rcases hp with rfl|rfl <;> assumption) (Nat.le_of_ble_eq_true rfl)
 have G1:=MH a.1.1 a.1.2 h1.ok hl
 have G2:=MH a.2.1 a.2.2 h2.ok hm
 by_cases c1:a.1.1<0
 case pos =>
  by_cases c2:0<a.2.1
  case pos =>
   rw [show sgI a.1.1 = -1 by unfold sgI;(repeat' split) <;> omega] at G1
   rw [show sgI a.2.1=1 by unfold sgI;(repeat' split) <;> omega] at G2
   have e:Qu a=((0,0),(De [Gv a.1,Gv a.2]).2):=if_pos ⟨c1,c2⟩
   rw [e]
   repeat' (with_reducible first|refine qq ?_|(refine Tx 0 ?_;refine Jn xBo ?_;refine Jn (xAl Ao) ?_)|(refine Tx 1 ?_;refine jA ?_;refine Jo (xCl Tryz.func228 (AR)) ?_;refine Js (xSk Ag) ?_)|(refine Ba (id:=2) 9 AK (by kernel_rfl) ?_;dsimp only [List.take,List.drop];refine kF ?_;refine kA ?_;refine Ko (by first|exact xCl Tryz.func158 (A1)|exact xCl Tryz.func158 (A2)) ?_;refine kF ?_;refine kA ?_;refine Ko (by first|exact xCl Tryz.func158 (A1)|exact xCl Tryz.func158 (A2)) ?_;refine Kn (by exact EU rfl Ac Aj rfl rfl rfl rfl (by decide) (by decide)) ?_;refine Ko (xCl Tryz.func226 (SP)) ?_;refine Kn (xAl Ao) ?_;refine Ke ?_;refine Js (xSk Ag) ?_)|(refine Tx 3 ?_;refine jF ?_;refine jA ?_;refine Jo (by first|exact xCl Tryz.func55 (G1)|exact xCl Tryz.func55 (G2)) ?_;refine Jo xLt ?_;refine Jm ?_;(first|iterate 4 refine Jd ?_|(refine Jy (xFa Av Aa) ?_;refine Jy (xLa Aa) ?_;refine Jy (by first|exact xCl Tryz.func55 (G1)|exact xCl Tryz.func55 (G2)) ?_;refine Jy xGt ?_));refine Jo xPk ?_)|(refine Tx 4 ?_;refine Jo (by exact BI rfl Ev rfl rfl) ?_;refine jF ?_;refine Js (xSk Aa) ?_)|(refine Tx 5 ?_;refine jA ?_;refine Js (xSk Ag) ?_))
   exact Ap rfl (.cons_ (rvJ0 Ag rfl) .nil_)
  rw [show sgI a.1.1 = -1 by unfold sgI;(repeat' split) <;> omega] at G1
  have g2:sgI a.2.1≤0:=by unfold sgI;(repeat' split) <;> omega
  generalize sgI a.2.1=g at *
  rw [show Qu a=De [Gv a.1,Gv a.2] from if_neg (fun h=>c2 h.2)]
  repeat' (with_reducible first|refine qq ?_|(refine Tx 0 ?_;refine Jn xBo ?_;refine Jn (xAl Ao) ?_)|(refine Tx 1 ?_;refine jA ?_;refine Jo (xCl Tryz.func228 (AR)) ?_;refine Js (xSk Ag) ?_)|(refine Ba (id:=2) 9 AK (by kernel_rfl) ?_;dsimp only [List.take,List.drop];refine kF ?_;refine kA ?_;refine Ko (by first|exact xCl Tryz.func158 (A1)|exact xCl Tryz.func158 (A2)) ?_;refine kF ?_;refine kA ?_;refine Ko (by first|exact xCl Tryz.func158 (A1)|exact xCl Tryz.func158 (A2)) ?_;refine Kn (by exact EU rfl Ac Aj rfl rfl rfl rfl (by decide) (by decide)) ?_;refine Ko (xCl Tryz.func226 (SP)) ?_;refine Kn (xAl Ao) ?_;refine Ke ?_;refine Js (xSk Ag) ?_)|(refine Tx 3 ?_;refine jF ?_;refine jA ?_;refine Jo (by first|exact xCl Tryz.func55 (G1)|exact xCl Tryz.func55 (G2)) ?_;refine Jo xLt ?_;refine Jm ?_;(first|iterate 4 refine Jd ?_|(refine Jy (xFa Av Aa) ?_;refine Jy (xLa Aa) ?_;refine Jy (by first|exact xCl Tryz.func55 (G1)|exact xCl Tryz.func55 (G2)) ?_;refine Jy xGt ?_));refine Jo xPk ?_)|(refine Tx 5 ?_;refine jA ?_;refine Js (xSk Ag) ?_))
  exact Ap rfl (.cons_ (rvJ Ag rfl) .nil_)
 have g1:0≤sgI a.1.1:=by unfold sgI;(repeat' split) <;> omega
 generalize sgI a.1.1=g at *
 rw [show Qu a=De [Gv a.1,Gv a.2] from if_neg (fun h=>c1 h.1)]
 repeat' (with_reducible first|refine qq ?_|(refine Tx 0 ?_;refine Jn xBo ?_;refine Jn (xAl Ao) ?_)|(refine Tx 1 ?_;refine jA ?_;refine Jo (xCl Tryz.func228 (AR)) ?_;refine Js (xSk Ag) ?_)|(refine Ba (id:=2) 9 AK (by kernel_rfl) ?_;dsimp only [List.take,List.drop];refine kF ?_;refine kA ?_;refine Ko (by first|exact xCl Tryz.func158 (A1)|exact xCl Tryz.func158 (A2)) ?_;refine kF ?_;refine kA ?_;refine Ko (by first|exact xCl Tryz.func158 (A1)|exact xCl Tryz.func158 (A2)) ?_;refine Kn (by exact EU rfl Ac Aj rfl rfl rfl rfl (by decide) (by decide)) ?_;refine Ko (xCl Tryz.func226 (SP)) ?_;refine Kn (xAl Ao) ?_;refine Ke ?_;refine Js (xSk Ag) ?_)|(refine Tx 3 ?_;refine jF ?_;refine jA ?_;refine Jo (by first|exact xCl Tryz.func55 (G1)|exact xCl Tryz.func55 (G2)) ?_;refine Jo xLt ?_;refine Jm ?_;(first|iterate 4 refine Jd ?_|(refine Jy (xFa Av Aa) ?_;refine Jy (xLa Aa) ?_;refine Jy (by first|exact xCl Tryz.func55 (G1)|exact xCl Tryz.func55 (G2)) ?_;refine Jy xGt ?_));refine Jo xPk ?_)|(refine Tx 5 ?_;refine jA ?_;refine Js (xSk Ag) ?_))
 exact Ap rfl (.cons_ (rvJ Ag rfl) .nil_)
theorem QB (a:Iq) (v u:Pq) (h:IwS a 20000 20000) (hv:Sm v 20000 20000) (hu:Sm u 20000 20000) (hvu:Qs v u≤0):CV Tryz.prog Ax 150 [aIw false a,aDy false v.1 v.2,aDy false u.1 u.2] [aIw false (OQ a v u),aE 0]:=by
 refine cvz Tryz.func150 Tryz.ntmps150 ?_
 have CM:=CY v.1 v.2 u.1 u.2 hv.ok hu.ok (Nat.le_trans (hv.lenN 625 (by decide)) (by decide)) (Nat.le_trans (hu.lenN 625 (by decide)) (by decide))
 have PV:=Dn v hv.ok (Nat.le_trans (hv.lenN 625 (by decide)) (by decide))
 have PU:=Dn u hu.ok (Nat.le_trans (hu.lenN 625 (by decide)) (by decide))
 have MX:=OW a (v,v) h (.pt hv)
 have MN:=OV (Xj a (v,v)) (u,u) (h.max (.pt hv)) (.pt hu)
 have hle:Qs v u≤0:=hvu
 unfold Qs at hle
 repeat' (with_reducible first|refine qq ?_|(refine Tx 0 ?_;refine Jn xBo ?_;refine Jn xBo ?_;refine Jn xBo ?_;refine Jn (xAl Ao) ?_;refine Ja ?_)|(refine Tx 1 ?_;refine jA ?_;refine jA ?_;refine Jo (xCl Tryz.func15 (CM)) ?_;refine Jo xGt ?_)|(refine Ba (id:=3) 7 AK (by kernel_rfl) ?_;dsimp only [List.take,List.drop];refine kA ?_;refine kA ?_;refine Ko (by first|exact xCl Tryz.func140 (PV)|exact xCl Tryz.func140 (PU)) ?_;refine Ko (xCl Tryz.func149 (MX)) ?_;refine kA ?_;refine Ko (by first|exact xCl Tryz.func140 (PV)|exact xCl Tryz.func140 (PU)) ?_;refine Ko (xCl Tryz.func148 (MN)) ?_;refine Ke ?_;refine Js (xSk Ag) ?_;refine Ja ?_))
 exact Ap rfl (.cons_ (rvJ Ag rfl) (.cons_ (Qh rfl rfl) .nil_))
theorem Be (a b:Iq) (h:IwS a 20000 20000) (k:IwS b 20000 20000):CV Tryz.prog Ax 151 [aIw false a,aIw false b] [aB (iIn a b)]:=by
 refine cvz Tryz.func151 Tryz.ntmps151 ?_
 have h1:=h.s1
 have h2:=h.s2
 have hl:=h1.l4
 have hm:=h2.l4
 have k1:=k.s1
 have k2:=k.s2
 have kl:=k1.l4
 have km:=k2.l4
 have AA:=DE a h
 have AB:=DE b k
 have C1:=CY b.1.1 b.1.2 a.1.1 a.1.2 k1.ok h1.ok kl hl
 have C2:=CY a.2.1 a.2.2 b.2.1 b.2.2 h2.ok k2.ok hm km
 by_cases c1:Cl b.1.1 b.1.2 a.1.1 a.1.2≤0
 case neg =>
  repeat' (with_reducible first|refine qq ?_|(refine Tx 0 ?_;refine Jn xBo ?_;refine Jn xBo ?_;refine Ja ?_)|(refine Ba (id:=1) 4 AK (by kernel_rfl) ?_;dsimp only [List.take,List.drop];refine kA ?_;refine Ko (by first|exact xCl Tryz.func228 (AA)|exact xCl Tryz.func228 (AB)) ?_;refine kA ?_;refine Ko (by first|exact xCl Tryz.func228 (AA)|exact xCl Tryz.func228 (AB)) ?_;refine Ke ?_;refine Js (xSk Ag) ?_;refine Js (xSk Ag) ?_)|(refine Tx 2 ?_;refine jF ?_;refine jA ?_;refine jF ?_;refine jA ?_;refine Jo (by first|exact xCl Tryz.func15 (C1)|exact xCl Tryz.func15 (C2)) ?_;refine Jo xLe ?_;refine Jm ?_;(first|iterate 6 refine Jd ?_|(refine Jy (xFa Av Aa) ?_;refine Jy (xLa Aa) ?_;refine Jy (xFa Av Aa) ?_;refine Jy (xLa Aa) ?_;refine Jy (by first|exact xCl Tryz.func15 (C1)|exact xCl Tryz.func15 (C2)) ?_;refine Jy xLe ?_));refine Jo xPk ?_;refine Ja ?_))
  exact Ap rfl (.cons_ (BL rfl (by unfold iIn;rw [decide_eq_false c1];rfl)) .nil_)
 by_cases c2:Cl a.2.1 a.2.2 b.2.1 b.2.2≤0
 case pos =>
  repeat' (with_reducible first|refine qq ?_|(refine Tx 0 ?_;refine Jn xBo ?_;refine Jn xBo ?_;refine Ja ?_)|(refine Ba (id:=1) 4 AK (by kernel_rfl) ?_;dsimp only [List.take,List.drop];refine kA ?_;refine Ko (by first|exact xCl Tryz.func228 (AA)|exact xCl Tryz.func228 (AB)) ?_;refine kA ?_;refine Ko (by first|exact xCl Tryz.func228 (AA)|exact xCl Tryz.func228 (AB)) ?_;refine Ke ?_;refine Js (xSk Ag) ?_;refine Js (xSk Ag) ?_)|(refine Tx 2 ?_;refine jF ?_;refine jA ?_;refine jF ?_;refine jA ?_;refine Jo (by first|exact xCl Tryz.func15 (C1)|exact xCl Tryz.func15 (C2)) ?_;refine Jo xLe ?_;refine Jm ?_;(first|iterate 6 refine Jd ?_|(refine Jy (xFa Av Aa) ?_;refine Jy (xLa Aa) ?_;refine Jy (xFa Av Aa) ?_;refine Jy (xLa Aa) ?_;refine Jy (by first|exact xCl Tryz.func15 (C1)|exact xCl Tryz.func15 (C2)) ?_;refine Jy xLe ?_));refine Jo xPk ?_;refine Ja ?_))
  exact Ap rfl (.cons_ (BL rfl (by unfold iIn;rw [decide_eq_true c1,decide_eq_true c2];rfl)) .nil_)
 case neg =>
  repeat' (with_reducible first|refine qq ?_|(refine Tx 0 ?_;refine Jn xBo ?_;refine Jn xBo ?_;refine Ja ?_)|(refine Ba (id:=1) 4 AK (by kernel_rfl) ?_;dsimp only [List.take,List.drop];refine kA ?_;refine Ko (by first|exact xCl Tryz.func228 (AA)|exact xCl Tryz.func228 (AB)) ?_;refine kA ?_;refine Ko (by first|exact xCl Tryz.func228 (AA)|exact xCl Tryz.func228 (AB)) ?_;refine Ke ?_;refine Js (xSk Ag) ?_;refine Js (xSk Ag) ?_)|(refine Tx 2 ?_;refine jF ?_;refine jA ?_;refine jF ?_;refine jA ?_;refine Jo (by first|exact xCl Tryz.func15 (C1)|exact xCl Tryz.func15 (C2)) ?_;refine Jo xLe ?_;refine Jm ?_;(first|iterate 6 refine Jd ?_|(refine Jy (xFa Av Aa) ?_;refine Jy (xLa Aa) ?_;refine Jy (xFa Av Aa) ?_;refine Jy (xLa Aa) ?_;refine Jy (by first|exact xCl Tryz.func15 (C1)|exact xCl Tryz.func15 (C2)) ?_;refine Jy xLe ?_));refine Jo xPk ?_;refine Ja ?_))
  exact Ap rfl (.cons_ (BL rfl (by unfold iIn;rw [decide_eq_true c1,decide_eq_false c2];rfl)) .nil_)
theorem Gn (a:Iq) (h:IwS a 20000 20000):CV Tryz.prog Ax 159 [aIw false a] [aDy false (Gw a).1 (Gw a).2]:=by
 refine cvz Tryz.func159 Tryz.ntmps159 ?_
 have AB:=OY a h
 repeat' (with_reducible first|refine qq ?_|(refine Tx 0 ?_;refine Jn xBo ?_;refine Jn (xAl Aj) ?_)|(refine Tx 1 ?_;refine jA ?_;refine Jo (xCl Tryz.func147 (AB)) ?_;refine Jo (by exact VL rfl rfl Av Aa rfl) ?_;refine Js (xSk Aa) ?_))
 exact Ap rfl (.cons_ (rvW Aa rfl) .nil_)
def nrmR (r s:Rv):Iq:=if ivR r s=true then (rvP r,rvP s) else ((0,0),(0,0))
theorem AeN {a b:Iq} {n d n' d':Nat} (h:IwS a n d) (k:IwS b n' d') (e1:gv a.1=gv b.1) (e2:gv a.2=gv b.2):a=b:=Prod.ext (Aas h.s1.ok k.s1.ok e1) (Aas h.s2.ok k.s2.ok e2)
theorem AeO {r s:Rv} (hr:RvL r) (hs:RvL s) (h:ivR r s=true):dIr false (r,s)=dIw false (rvP r,rvP s)∧Nf (rvP r).1 (rvP r).2∧Nf (rvP s).1 (rvP s).2∧gv (rvP r)≤gv (rvP s)∧(Ad (rvP r).1.natAbs).length=r.ws.length∧(Ad (rvP s).1.natAbs).length=s.ws.length:=by
 unfold ivR at h
 rw [Bool.and_eq_true,Bool.and_eq_true] at h
 obtain ⟨⟨h1,h2⟩,h3⟩:=h
 obtain ⟨e1,n1,k1⟩:=RI (t:=false) hr.1 h1
 obtain ⟨e2,n2,k2⟩:=RI (t:=false) hs.1 h2
 refine ⟨?_,n1,n2,(My (p:=rvP r) (q:=rvP s) n1.le n2.le).1 (of_decide_eq_true h3),k1,k2⟩
 show dRv false r++dRv false s=_
 rw [e1,e2]
 rfl
theorem ZA (x:Int) (dx:Nat) (hnx:Nf x dx) (lx:(Ad x.natAbs).length≤40000):CV Tryz.prog Ax 41 [aDy false x dx] [aI (sgI x)]:=by
 refine cvz Tryz.func41 Tryz.ntmps41 ?_
 have PX:=Rx Ax x dx hnx (Nat.le_trans lx (by decide))
 by_cases c0:x=0
 case pos =>
  have l0:((Ad x.natAbs).length:Int)=0:=by rw [show x.natAbs=0 by omega,AP];rfl
  have hdx:decide (x<0)=false:=decide_eq_false (by omega)
  unfold aDy dDy at PX ⊢
  rw [hdx] at PX ⊢
  rw [show sgI x=0 by unfold sgI;(repeat' split) <;> omega]
  repeat' (with_reducible first|refine qq ?_|(refine Tx 0 ?_;refine Jn xBo ?_;refine Ja ?_)|(refine Tx 1 ?_;refine jA ?_;refine Jo (xCl Tryz.func105 (PX)) ?_;refine Js (xSk Aa) ?_)|(refine Tx 2 ?_;refine jF ?_;refine jD ?_;refine jN ?_;refine Jo xEq ?_)|(refine Tx 3 ?_;refine Ja ?_))
  exact Ap rfl (.cons_ (MT rfl rfl) .nil_)
 by_cases cm1:x<0
 case pos =>
  have l0:¬ ((Ad x.natAbs).length:Int)=0:=fun hc=>by have:=Co (n:=x.natAbs) (by omega);omega
  have hdx:decide (x<0)=true:=decide_eq_true (by omega)
  unfold aDy dDy at PX ⊢
  rw [hdx] at PX ⊢
  rw [show sgI x = -1 by unfold sgI;(repeat' split) <;> omega]
  repeat' (with_reducible first|refine qq ?_|(refine Tx 0 ?_;refine Jn xBo ?_;refine Ja ?_)|(refine Tx 1 ?_;refine jA ?_;refine Jo (xCl Tryz.func105 (PX)) ?_;refine Js (xSk Aa) ?_)|(refine Tx 2 ?_;refine jF ?_;refine jD ?_;refine jN ?_;refine Jo xEq ?_)|(refine Tx 4 ?_;refine jF ?_;refine jD ?_)|(refine Tx 5 ?_;refine Ja ?_))
  exact Ap rfl (.cons_ (MT rfl rfl) .nil_)
 have l0:¬ ((Ad x.natAbs).length:Int)=0:=fun hc=>by have:=Co (n:=x.natAbs) (by omega);omega
 have hdx:decide (x<0)=false:=decide_eq_false (by omega)
 unfold aDy dDy at PX ⊢
 rw [hdx] at PX ⊢
 rw [show sgI x=1 by unfold sgI;(repeat' split) <;> omega]
 repeat' (with_reducible first|refine qq ?_|(refine Tx 0 ?_;refine Jn xBo ?_;refine Ja ?_)|(refine Tx 1 ?_;refine jA ?_;refine Jo (xCl Tryz.func105 (PX)) ?_;refine Js (xSk Aa) ?_)|(refine Tx 2 ?_;refine jF ?_;refine jD ?_;refine jN ?_;refine Jo xEq ?_)|(refine Tx 4 ?_;refine jF ?_;refine jD ?_)|(refine Tx 6 ?_;refine Ja ?_))
 exact Ap rfl (.cons_ (MT rfl rfl) .nil_)
theorem Uw (r s:Rv) (hr:RvL r) (hs:RvL s):CV Tryz.prog Ax 80 [.agg (dIr false (r,s))] [aB (ivR r s)]:=by
 refine cvz Tryz.func80 Tryz.ntmps80 ?_
 have V1:=(Mw (G:=Ax) false r hr.1 (Nat.le_trans hr.2 (by decide))).cv
 have V2:=(Mw (G:=Ax) false s hs.1 (Nat.le_trans hs.2 (by decide))).cv
 by_cases c1:vdB r.rw=true
 case neg =>
  rw [Bool.not_eq_true] at c1
  rw [c1] at V1
  repeat' (with_reducible first|refine qq ?_|(refine Tx 0 ?_;refine Jn xBo ?_;refine Ja ?_)|(refine Tx 1 ?_;refine jF ?_;refine jA ?_;refine Jo (xCl Tryz.func81 (V1)) ?_;refine Jm ?_;(first|iterate 3 refine Jd ?_|(refine Jy (xFa Av Aa) ?_;refine Jy (xLa Aa) ?_;refine Jy (xCl Tryz.func81 (V1)) ?_));refine Jo xPk ?_;refine Jm ?_;(first|iterate 4 refine Jd ?_|(refine Jy (xFa Bg Aa) ?_;refine Jy (xLa Aa) ?_;refine Jy (xFa Av Aa) ?_;refine Jy (xLa Aa) ?_));refine Jd ?_;(first|refine Jd ?_|refine Jy xLe ?_);refine Jo xPk ?_;refine Ja ?_))
  exact Ap rfl (.cons_ (BL rfl (by unfold ivR;rw [c1];rfl)) .nil_)
 by_cases c2:vdB s.rw=true
 case neg =>
  rw [Bool.not_eq_true] at c2
  rw [c1] at V1
  rw [c2] at V2
  repeat' (with_reducible first|refine qq ?_|(refine Tx 0 ?_;refine Jn xBo ?_;refine Ja ?_)|(refine Tx 1 ?_;refine jF ?_;refine jA ?_;refine Jo (xCl Tryz.func81 (V1)) ?_;refine Jm ?_;(first|iterate 3 refine Jd ?_|(refine Jy (xFa Av Aa) ?_;refine Jy (xLa Aa) ?_;refine Jy (xCl Tryz.func81 (V2)) ?_));refine Jo xPk ?_;refine Jm ?_;(first|iterate 4 refine Jd ?_|(refine Jy (xFa Bg Aa) ?_;refine Jy (xLa Aa) ?_;refine Jy (xFa Av Aa) ?_;refine Jy (xLa Aa) ?_));refine Jd ?_;(first|refine Jd ?_|refine Jy xLe ?_);refine Jo xPk ?_;refine Ja ?_))
  exact Ap rfl (.cons_ (BL rfl (by unfold ivR;rw [c1,c2];rfl)) .nil_)
 rw [c1] at V1
 rw [c2] at V2
 obtain ⟨e1,n1,k1⟩:=RI (t:=false) hr.1 c1
 obtain ⟨e2,n2,k2⟩:=RI (t:=false) hs.1 c2
 have CM:=(WG (G:=Ax) false false r.rw.x r.rw.d s.rw.x s.rw.d n1 n2 (Nat.le_trans (Nat.le_of_eq k1) (Nat.le_trans hr.2 (by decide))) (Nat.le_trans (Nat.le_of_eq k2) (Nat.le_trans hs.2 (by decide)))).cv
 unfold aDy at CM
 rw [←e1,←e2] at CM
 by_cases c3:Cl r.rw.x r.rw.d s.rw.x s.rw.d≤0
 case pos =>
  repeat' (with_reducible first|refine qq ?_|(refine Tx 0 ?_;refine Jn xBo ?_;refine Ja ?_)|(refine Tx 1 ?_;refine jF ?_;refine jA ?_;refine Jo (xCl Tryz.func81 (V1)) ?_;refine Jm ?_;(first|iterate 3 refine Jd ?_|(refine Jy (xFa Av Aa) ?_;refine Jy (xLa Aa) ?_;refine Jy (xCl Tryz.func81 (V2)) ?_));refine Jo xPk ?_;refine Jm ?_;(first|iterate 6 refine Jd ?_|(refine Jy (xFa Bg Aa) ?_;refine Jy (xLa Aa) ?_;refine Jy (xFa Av Aa) ?_;refine Jy (xLa Aa) ?_;refine Jy (xCl Tryz.func29 (CM)) ?_;refine Jy xLe ?_));refine Jo xPk ?_;refine Ja ?_))
  exact Ap rfl (.cons_ (BL rfl (by unfold ivR;rw [c1,c2,decide_eq_true c3];rfl)) .nil_)
 case neg =>
  repeat' (with_reducible first|refine qq ?_|(refine Tx 0 ?_;refine Jn xBo ?_;refine Ja ?_)|(refine Tx 1 ?_;refine jF ?_;refine jA ?_;refine Jo (xCl Tryz.func81 (V1)) ?_;refine Jm ?_;(first|iterate 3 refine Jd ?_|(refine Jy (xFa Av Aa) ?_;refine Jy (xLa Aa) ?_;refine Jy (xCl Tryz.func81 (V2)) ?_));refine Jo xPk ?_;refine Jm ?_;(first|iterate 6 refine Jd ?_|(refine Jy (xFa Bg Aa) ?_;refine Jy (xLa Aa) ?_;refine Jy (xFa Av Aa) ?_;refine Jy (xLa Aa) ?_;refine Jy (xCl Tryz.func29 (CM)) ?_;refine Jy xLe ?_));refine Jo xPk ?_;refine Ja ?_))
  exact Ap rfl (.cons_ (BL rfl (by unfold ivR;rw [c1,c2,decide_eq_false c3];rfl)) .nil_)
def IwL (a:Iq):Prop:=(Ad a.1.1.natAbs).length≤1000000∧(Ad a.2.1.natAbs).length≤1000000
theorem Ux (p:Pq) (hn:Nf p.1 p.2) (hl:(Ad p.1.natAbs).length≤40000):CV Tryz.prog Ax 187 [aDy false p.1 p.2] [aIw false (p,p)]:=by
 refine cvz Tryz.func187 Tryz.ntmps187 ?_
 have NM:=Rx Ax p.1 p.2 hn (Nat.le_trans hl (by decide))
 repeat' (with_reducible first|refine qq ?_|(refine Tx 0 ?_;refine Jn xBo ?_;refine Jn (xAl Ao) ?_)|(refine Tx 1 ?_;refine jA ?_;refine Jo (xCl Tryz.func105 (NM)) ?_;refine Js (xSk Aa) ?_)|(refine Tx 2 ?_;refine jA ?_;refine jA ?_;refine Jo (by exact BI rfl Di rfl rfl) ?_;refine Js (xSk Ag) ?_))
 exact Ap rfl (.cons_ (rvJ Ag rfl) .nil_)
theorem Xv (t:Bool) (L:List Pq) (hne:L≠[]) (hs:∀ p∈L,Sm p 40064 40000) (hL:L.length≤100):CV Tryz.prog Ax 232 [.one (.row t 3 L.length (AN dyP L))] [aIw false (De L)]:=by
 refine cvz Tryz.func232 Tryz.ntmps232 ?_
 obtain ⟨p,l,rfl⟩:∃ p l,L=p::l:=by cases L with|nil=>exact absurd rfl hne|cons p l=>exact ⟨p,l,rfl⟩
 have hp:=hs p (List.mem_cons_self ..)
 have hpl:=Nat.le_trans (hp.lenN 1252 (by decide)) (show 1252≤40000 by decide)
 have PT:=Ux p hp.ok hpl
 have hlen:(p::l).length=l.length+1:=List.length_cons
 repeat' (with_reducible first|refine qq ?_|(refine Tx 0 ?_;refine Jn (xAl Ao) ?_)|(refine Tx 1 ?_;refine Jm ?_;refine Jo (by exact GB (i:=0) rfl rfl rfl rfl Ac (by omega) (by decide) (Ty (l:=p::l) (k:=0) rfl)) ?_;refine jA ?_;refine Jo (xCl Tryz.func187 (PT)) ?_;refine Jn (xAl Ao) ?_;refine Js (xSk Ag) ?_)|(refine Tx 2 ?_;refine Jm ?_;refine Jo (by exact Qy (lo:=1) rfl rfl rfl rfl Ac (by omega)) ?_;refine jN ?_;refine Jm ?_))
 refine CF (F':=ofL [(2,vr 0),(3,vr 1),(11,vd (.row t 3 ((p::l).length - 1) ((AN dyP (p::l)).drop (1*3)))),(12,vi (((p::l).length - 1:Nat))),(13,vi ((0:Nat)))]) (H':=[.box 45 [.d (.val (.bool false)),.d (.val (.slice none 0 0)),.d (.val (.int .i64 0)),.d (.val (.bool false)),.d (.val (.slice none 0 0)),.d (.val (.int .i64 0))],.box 45 ((dIw false ((l.take (0)).foldl Fq (p,p))).map C.d)]) (BM _ 2 ?_ ?_ ?_) ?_
 ·rfl
 ·exact mB rfl rfl
 ·exact ⟨AF rfl,Eb,trivial⟩
 refine Bp (fun n Fr H=>∃ k:Nat,k≤l.length∧n=l.length - k∧IwS ((l.take (k)).foldl Fq (p,p)) 40064 40000∧Fr=ofL [(2,vr 0),(3,vr 1),(11,vd (.row t 3 ((p::l).length - 1) ((AN dyP (p::l)).drop (1*3)))),(12,vi (((p::l).length - 1:Nat))),(13,vi ((k:Nat)))]∧H=[.box 45 [.d (.val (.bool false)),.d (.val (.slice none 0 0)),.d (.val (.int .i64 0)),.d (.val (.bool false)),.d (.val (.slice none 0 0)),.d (.val (.int .i64 0))],.box 45 ((dIw false ((l.take (k)).foldl Fq (p,p))).map C.d)]) (n0:=l.length) ⟨0,Nat.zero_le _,rfl,.pt hp,rfl,rfl⟩ ?_
 rintro n Fr H ⟨k,hk,rfl,hS,rfl,rfl⟩
 by_cases hlt:k<l.length
 case pos =>
  obtain ⟨x,hx⟩:∃ x,l[k]?=some x:=⟨_,List.getElem?_eq_getElem hlt⟩
  have hxs:=hs x (List.mem_cons_of_mem _ (List.mem_of_getElem? hx))
  have hxl:=Nat.le_trans (Nat.le_trans (hxs.lenN 1252 (by decide)) (show 1252≤40000 by decide)) (show 40000≤50000 by decide)
  have a1:=hS.s1
  have a2:=hS.s2
  have a1l:=Nat.le_trans (Nat.le_trans (a1.lenN 1252 (by decide)) (show 1252≤40000 by decide)) (show 40000≤50000 by decide)
  have a2l:=Nat.le_trans (Nat.le_trans (a2.lenN 1252 (by decide)) (show 1252≤40000 by decide)) (show 40000≤50000 by decide)
  have hnx:Fq ((l.take (k)).foldl Fq (p,p)) x=((l.take (k+1)).foldl Fq (p,p)):=by rw [List.take_add_one,hx,Option.toList_some,List.foldl_append];rfl
  have hIS:IwS (Fq ((l.take (k)).foldl Fq (p,p)) x) 40064 40000:=⟨Sm.min a1 hxs,Sm.max a2 hxs,by show gv (Pn _ x)≤gv (FY _ x);rw [IT a1.le hxs.le,Fa a2.le hxs.le];have:=hS.le;omega⟩
  rw [hnx] at hIS
  have hxd:(((AN dyP (p::l)).drop (1*3)).drop (k*3)).take 3=dyP x:=by rw [List.drop_drop,show 1*3+k*3=(k+1)*3 by omega];exact Ty (l:=p::l) (k:=k+1) (by rw [List.getElem?_cons_succ];exact hx)
  generalize hT:((l.take (k)).foldl Fq (p,p))=T at *
  have MN:=(Acc Ax false false T.1.1 T.1.2 x.1 x.2 a1.ok hxs.ok a1l hxl).cv
  have MX:=(Acd Ax false false T.2.1 T.2.2 x.1 x.2 a2.ok hxs.ok a2l hxl).cv
  repeat' (with_reducible first|refine qq ?_|(refine Tx 3 ?_;refine Jo xLt ?_)|(refine Tx 4 ?_;refine Jo (xIr Ac (hxd)) ?_;refine jA ?_;refine Jn (xAl Aj) ?_;refine Js (xSk Aa) ?_)|(refine Ba (id:=5) 9 AK (by kernel_rfl) ?_;dsimp only [List.take,List.drop];refine kF ?_;refine kA ?_;refine kA ?_;refine Ko (xCl Tryz.func255 (MN)) ?_;refine kF ?_;refine kA ?_;refine kA ?_;refine Ko (xCl Tryz.func100 (MX)) ?_;refine kF ?_;refine Ke ?_;refine Js (xSk Aa) ?_;refine jF ?_;refine Js (xSk Aa) ?_)|(refine Tx 6 ?_;refine Jo xAd ?_;refine Jm ?_))
  refine ⟨_,_,BM _ 2 ?_ ?_ ?_,_,?_,k+1,by omega,rfl,hIS,rfl,rfl⟩
  ·rw [←hnx];rfl
  ·exact mB rfl rfl
  ·exact ⟨AF rfl,Eb,trivial⟩
  ·omega
 obtain rfl:k=l.length:=by omega
 clear hlt hk
 rw [List.take_length]
 repeat' (with_reducible first|refine qq ?_|(refine Tx 3 ?_;refine Jo xLt ?_)|(refine Tx 7 ?_;refine jA ?_;refine Js (xSk Ag) ?_))
 exact Ap rfl (.cons_ (rvJ Ag rfl) .nil_)
theorem QC (x y:Int) (hx : -9223372036854775807≤x∧x<9223372036854775808) (hy : -9223372036854775807≤y∧y<9223372036854775808):CV Tryz.prog Ax 165 [aI x,aI y] [aIw false (De [(x,0),(y,0)])]:=by
 refine cvz Tryz.func165 Tryz.ntmps165 ?_
 have O1:=(Za (G:=Ax) x (by omega) (by omega)).cv
 have O2:=(Za (G:=Ax) y (by omega) (by omega)).cv
 have s1:Sm (x,0) 40064 40000:=Tz x (by omega)
 have s2:Sm (y,0) 40064 40000:=Tz y (by omega)
 have SP:=Xv true [(x,0),(y,0)] (by simp) (fun p hp=>by simp only [List.mem_cons,List.not_mem_nil,or_false] at hp;rcases hp with rfl|rfl <;> assumption) (Nat.le_of_ble_eq_true rfl)
 repeat' (with_reducible first|refine qq ?_|(refine Tx 0 ?_;refine Jn (xAl Ao) ?_)|(refine Tx 1 ?_;refine Jm ?_;refine Jo (by first|exact xCl Tryz.func39 (O1)|exact xCl Tryz.func39 (O2)) ?_;refine Jm ?_;refine Jo (by first|exact xCl Tryz.func39 (O1)|exact xCl Tryz.func39 (O2)) ?_;refine Jn (by exact EU rfl Ac Aj rfl rfl rfl rfl (by decide) (by decide)) ?_;refine Jo (xCl Tryz.func232 (SP)) ?_;refine Js (xSk Ag) ?_))
 exact Ap rfl (.cons_ (rvJ Ag rfl) .nil_)
abbrev iZ:Iq:=((0,0),(0,0))
def kW:Option Iq→List C
 | none=>[.d (.val (.bool false)),.d (.val (.slice none 0 0)),.d (.val (.int .i64 0)),.d (.val (.bool false)),.d (.val (.slice none 0 0)),.d (.val (.int .i64 0))]
 | some a=>(dIw false a).map C.d
def kWs (l:List (Option Iq)):List C:=(l.map kW).flatten
def gW (l:List (Option Iq)):List Iq:=l.map (·.getD iZ)
def Xw (a:Iq):Bool:=Dd a.1 || Dd a.2
def IB (p:Prt):Iq:=(Ai p.lo 0 (-p.fr),Ai p.hi 0 (-p.fr))
def Dj (y:Bk) (l:List Iq):Iq :=
 if y.kind=1 then (Ai y.vn 0 y.ve,Ai y.vn 0 y.ve)
 else if y.kind=3 then Ya (l[0]?.getD iZ) (l[1]?.getD iZ)
 else if y.kind=4 then Zt (l[0]?.getD iZ) (l[1]?.getD iZ)
 else if y.kind=5 then Xi (l[0]?.getD iZ)
 else if y.kind=6 then FZ (l[0]?.getD iZ) (Ai y.vn 0 y.ve)
 else if y.kind=7 then Yb (l[0]?.getD iZ) (l[1]?.getD iZ)
 else if y.kind=8 then Yc (l[0]?.getD iZ) (l[1]?.getD iZ)
 else if y.kind=9 then Xj (l[0]?.getD iZ) (l[1]?.getD iZ)
 else if y.kind=10 then Qu (l[0]?.getD iZ)
 else OQ (l[0]?.getD iZ) (Ai y.vn 0 y.ve) (Ai y.un 0 y.ue)
def CI (y:Bk) (l:List Iq) (ps:List Prt):Iq:=if y.kind=0 then (ps[((y.args[0]?).getD 0).toNat]?.map IB).getD iZ else Dj y l
theorem AeP {a:Iq} {n d:Nat} (h:IwS a n d) (hl:Xw a=false):IwS a LB LB:=by
 unfold Xw at hl
 rw [Bool.or_eq_false_iff] at hl
 exact ⟨AcB h.s1.ok hl.1,AcB h.s2.ok hl.2,h.le⟩
theorem IwS.zero (n d:Nat):IwS iZ n d:=.pt (Sm.zero n d)
theorem Bf {l:List Iq} {n d:Nat} (h:∀ p∈l,IwS p n d) (k:Nat):IwS (l[k]?.getD iZ) n d:=by
 cases hk:l[k]? with
 | none=>exact IwS.zero n d
 | some p=>exact h p (List.mem_of_getElem? hk)
theorem EA {n e:Int} (h:EW n e):Sm (Ai n 0 e) LB LB:=by
 obtain ⟨h1,h2,h3,h4⟩:=h
 exact (Sm.shift (n:=32) (by omega) (by omega) (by omega)).more (by decide) (by decide)
theorem Dp {y:Bk} {l:List Iq} (hl:∀ p∈l,IwS p LB LB) (hv:(y.kind=1∨y.kind=6∨y.kind=11)→EW y.vn y.ve) (hu:y.kind=11→EW y.un y.ue) (hk:y.kind=1∨y.kind=3∨y.kind=4∨y.kind=5∨y.kind=6∨y.kind=7∨y.kind=8∨y.kind=9∨y.kind=10∨y.kind=11):IwS (Dj y l) LC LC:=by
 have a:=Bf hl 0
 have b:=Bf hl 1
 have up:∀ {r:Iq},IwS r LB LB→IwS r LC LC:=fun h=>h.more (by decide) (by decide)
 unfold Dj
 generalize l[0]?.getD iZ=p at a ⊢
 generalize l[1]?.getD iZ=q at b ⊢
 rcases hk with h|h|h|h|h|h|h|h|h|h <;> simp only [h,Int.reduceEq,if_true,if_false,reduceIte]
 ·exact up (.pt (EA (hv (.inl h))))
 ·exact (IwS.add a b (by decide:LB≤65536)).more (by decide:LB+LB+1≤LC) lb_c
 ·exact (IwS.sub a b (by decide:LB≤65536)).more (by decide:LB+LB+1≤LC) lb_c
 ·exact up a.neg
 ·exact (IwS.mul a (.pt (EA (hv (.inr (.inl h))))) (by decide:LB≤30000)).more (by decide:LB+LB≤LC) (by decide:LB+LB≤LC)
 ·exact (IwS.mul a b (by decide:LB≤30000)).more (by decide:LB+LB≤LC) (by decide:LB+LB≤LC)
 ·exact up (a.min b)
 ·exact up (a.max b)
 ·exact up a.abs
 ·exact up (a.clip (EA (hv (.inr (.inr h)))) (EA (hu h)))
structure RN (p:Prt):Prop where
 l0 : -2147483648≤p.lo
 le:p.lo≤p.hi
 h1:p.hi<2147483648
 f0:0≤p.fr
 f1:p.fr≤30
theorem OZ {z f:Int} (f0:0≤f) (f1:f≤30):gv (Ai z 0 (-f))*2 ^ f.toNat=z*2 ^ GQ:=by
 have:=Qr (p:=(z,0)) (n:=f.toNat) (by show 0+f.toNat≤65536;omega) (by omega)
 rw [show (-(f.toNat:Int)) = -f by omega,Mz] at this
 exact this
theorem RO {z f:Int} (h0 : -2147483648≤z) (h1:z<2147483648) (f0:0≤f) (f1:f≤30):Sm (Ai z 0 (-f)) 264 200:=Sm.shift (n:=64) (by omega) (by omega) (by omega)
theorem RN.iw {p:Prt} (h:RN p):IwS (IB p) 264 200:=by
 obtain ⟨h1,h2,h3,h4,h5⟩:=h
 refine ⟨RO h1 (by omega) h4 h5,RO (by omega) h3 h4 h5,?_⟩
 have e1:=OZ (z:=p.lo) h4 h5
 have e2:=OZ (z:=p.hi) h4 h5
 refine Int.not_lt.1 fun hc=>?_
 have:=Int.mul_lt_mul_of_pos_right hc (BR p.fr.toNat)
 have g2:=Int.mul_le_mul_of_nonneg_right h2 (Int.le_of_lt (BR GQ))
 have e1':gv (IB p).1*2 ^ p.fr.toNat=p.lo*2 ^ GQ:=e1
 have e2':gv (IB p).2*2 ^ p.fr.toNat=p.hi*2 ^ GQ:=e2
 omega
theorem RN.scale {p:Prt} (h:RN p):FZ (De [(p.lo,0),(p.hi,0)]) (Ai 1 0 (-p.fr))=IB p:=by
 have H:=h.iw
 obtain ⟨h1,h2,h3,h4,h5⟩:=h
 have s1:Sm (p.lo,0) 264 200:=GV p.lo (by omega) (by decide)
 have s2:Sm (p.hi,0) 264 200:=GV p.hi (by omega) (by decide)
 obtain ⟨e1,e2,e3⟩:=Ga s1 s2
 have s3:Sm (Ai 1 0 (-p.fr)) 264 200:=RO (by decide) (by decide) h4 h5
 have g2:=Int.mul_le_mul_of_nonneg_right h2 (Int.le_of_lt (BR GQ))
 rw [Mz,Mz] at e1 e2
 have E1:gv (De [(p.lo,0),(p.hi,0)]).1=p.lo*2 ^ GQ:=by rw [e1];omega
 have E2:gv (De [(p.lo,0),(p.hi,0)]).2=p.hi*2 ^ GQ:=by rw [e2];omega
 generalize De [(p.lo,0),(p.hi,0)]=w at e3 E1 E2 ⊢
 have m1:=Sm.mul e3.s1 s3 (by decide)
 have m2:=Sm.mul e3.s2 s3 (by decide)
 obtain ⟨k1,k2,k3⟩:=IA m1 m1 m2 m2
 have mg:∀ {x:Pq} {z:Int},Sm x 264 200→gv x=z*2 ^ GQ→gv (CT x (Ai 1 0 (-p.fr)))=gv (Ai z 0 (-p.fr)):=fun {x z} hx hz=>by
  have a1:=Xg (p:=x) (q:=Ai 1 0 (-p.fr)) (Nat.le_trans (Nat.add_le_add hx.d s3.d) (by decide))
  have a2:=OZ (z:=1) h4 h5
  have a3:=OZ (z:=z) h4 h5
  rw [hz] at a1
  have p1:=BR GQ
  have p2:=BR p.fr.toNat
  refine Int.eq_of_mul_eq_mul_right (Int.ne_of_gt p2) (Int.eq_of_mul_eq_mul_right (Int.ne_of_gt p1) ?_)
  rw [a3,Int.mul_right_comm,a1,Int.mul_assoc (z*2 ^ GQ),a2,Int.one_mul]
 have G1:=mg e3.s1 E1
 have G2:=mg e3.s2 E2
 refine AeN (n:=264+264) (d:=200+200) k3 H ?_ ?_
 ·show gv (De [CT w.1 (Ai 1 0 (-p.fr)),CT w.1 (Ai 1 0 (-p.fr)),CT w.2 (Ai 1 0 (-p.fr)),CT w.2 (Ai 1 0 (-p.fr))]).1=gv (Ai p.lo 0 (-p.fr))
  rw [k1,G1,G2]
  have:=H.le
  simp only [IB] at this
  omega
 ·show gv (De [CT w.1 (Ai 1 0 (-p.fr)),CT w.1 (Ai 1 0 (-p.fr)),CT w.2 (Ai 1 0 (-p.fr)),CT w.2 (Ai 1 0 (-p.fr))]).2=gv (Ai p.hi 0 (-p.fr))
  rw [k2,G1,G2]
  have:=H.le
  simp only [IB] at this
  omega
theorem Xx {ps:List Prt} {bs:List Bk} {os:List Int} (h:BN ps bs os=0) {i:Nat} {p:Prt} (hp:ps[i]?=some p):RN p:=by
 have hpp:=Zn h hp
 have h3 : -2147483648≤p.lo∧p.lo≤p.hi∧p.hi<2147483648∧0≤p.fr∧p.fr≤30:=Classical.byContradiction fun hn=>by unfold DR at hpp;rw [if_neg hn] at hpp;cases hpp
 exact ⟨h3.1,h3.2.1,h3.2.2.1,h3.2.2.2.1,h3.2.2.2.2⟩
def Xy (vs:List (Option (Iq))) (y:Bk):List (Iq):=if y.kind=0 then [] else y.args.map fun a=>(vs[a.toNat]?.getD none).getD iZ
def tkW (ps:List Prt) (bs:List Bk) (vs:List (Option (Iq))) (i:Nat):Iq:=match bs[i]? with
 | some y=>CI y (Xy vs y) ps
 | none=>iZ
def ordW (ps:List Prt) (bs:List Bk) (vs:List (Option (Iq))) (l:List Nat):List (Option (Iq)):=l.foldl (fun v i=>v.set i (some (tkW ps bs  v i))) vs
def delW (dl:List Nat) (st:List (Iq)) (vs:List (Option (Iq))):List (Option (Iq)):=(dl.zip st).foldl (fun v p=>v.set p.1 (some p.2)) vs
def rgS (ps:List Prt) (bs:List Bk) (st:List (Iq)) (t:Nat):List (Option (Iq)):=ordW ps bs  (delW (CA bs) st (List.replicate bs.length none)) ((Dc bs).take t)
def rgN (ps:List Prt) (bs:List Bk) (st:List (Iq)) (t:Nat):Iq:=tkW ps bs  (rgS ps bs st t) ((Dc bs)[t]?.getD 0)
def AeQ (ps:List Prt) (bs:List Bk) (st:List (Iq)):Bool:=st.any Xw || (List.range (Dc bs).length).any fun t=>Xw (rgN ps bs st t)
def rgV (ps:List Prt) (bs:List Bk) (st:List (Iq)):List (Iq):=gW (rgS ps bs st  (Dc bs).length)
structure HasW (vs:List (Option (Iq))) (D:Nat→Prop):Prop where
 at_:∀ i,D i→∃ p,vs[i]?=some (some p)∧IwS p LB LB
theorem Agt {l:List Iq} {k:Nat} {a:Iq} (h:l[k]?=some a):((AN (dIw false) l).drop (k*6)).take 6=dIw false a:=Fh (f:=dIw false) (s:=6) (fun _=>rfl) h
structure TickW (ps:List Prt) (bs:List Bk) (vs:List (Option Iq)) (y:Bk):Prop where
 hk:y.kind=0∨y.kind=1∨y.kind=3∨y.kind=4∨y.kind=5∨y.kind=6∨y.kind=7∨y.kind=8∨y.kind=9∨y.kind=10∨y.kind=11
 args:y.kind≠0→∀ (k:Nat) (a:Int),y.args[k]?=some a→∃ p,0≤a∧a.toNat<bs.length∧vs[a.toNat]?=some (some p)∧(Xy vs y)[k]?=some p
 len:y.args.length≤2
 hl:∀ k:Nat,(k=0∧y.kind≠0∧y.kind≠1∨k=1∧(y.kind=3∨y.kind=4∨y.kind=7∨y.kind=8∨y.kind=9))→∃ p i,(Xy vs y)[k]?=some p∧y.args[k]?=some ((i:Nat):Int)∧(gW vs)[i]?=some p
 hs:∀ p∈Xy vs y,IwS p LB LB
 hin:y.kind=0→∃ (i:Nat) (pp:Prt),y.args[0]?=some (i:Int)∧ps[i]?=some pp∧RN pp
 hsv:(y.kind=1∨y.kind=6∨y.kind=11)→EW y.vn y.ve
 hsu:y.kind=11→EW y.un y.ue
 hcl:y.kind=11→Qs (Ai y.vn 0 y.ve) (Ai y.un 0 y.ue)≤0
 sm:IwS (CI y (Xy vs y) ps) LC LC
abbrev ivQ (q:Rv × Rv):Iq:=(rvP q.1,rvP q.2)
def Pa (qs:List (Rv × Rv)):D:=.row false 6 qs.length (AN (dIr false) qs)
def aIws (l:List Iq):A:=.one (.row false 6 l.length (AN (dIw false) l))
abbrev ivC (q:Rv × Rv):Bool:=ivR q.1 q.2
def rgE (ps:List Prt) (bs:List Bk) (os:List Int) (qs:List (Rv × Rv)):Int :=
 if BN ps bs os≠0 then BN ps bs os else if qs.length≠(CA bs).length then 11 else if qs.all ivC=false then 2 else if AeQ ps bs (qs.map ivQ)=true then 4 else 0
theorem Gx {qs:List (Rv × Rv)} {k:Nat} {q:Rv × Rv} (h:qs[k]?=some q):((AN (dIr false) qs).drop (k*6)).take 6=dIr false q:=Fh (f:=dIr false) (s:=6) (fun _=>rfl) h
theorem TB {q:Rv × Rv} (hr:RvL q.1) (hs:RvL q.2) (h:ivC q=true):IwS (ivQ q) 1280000 65536∧dIr false q=dIw false (ivQ q)∧(Ad (rvP q.1).1.natAbs).length≤40000∧(Ad (rvP q.2).1.natAbs).length≤40000:=by
 obtain ⟨e,n1,n2,g,k1,k2⟩:=AeO hr hs h
 exact ⟨⟨Xs (p:=rvP q.1) n1 (k:=40000) (k1 ▸ hr.2) (by decide),Xs (p:=rvP q.2) n2 (k:=40000) (k2 ▸ hs.2) (by decide),g⟩,e,k1 ▸ hr.2,k2 ▸ hs.2⟩
def clOk (ps:List Prt) (bs:List Bk) (st:List Iq) (k:Nat):Bool :=
 iIn ((NN bs)[k]?.getD (0,0),(NN bs)[k]?.getD (0,0)) (st[k]?.getD iZ) && iIn ((rgV ps bs st)[Ago bs ((CA bs)[k]?.getD 0)]?.getD iZ) (st[k]?.getD iZ)
def Agu (ps:List Prt) (bs:List Bk) (st:List Iq):Bool:=(List.range (CA bs).length).all (clOk ps bs st)
def clE (ps:List Prt) (bs:List Bk) (os:List Int) (qs:List (Rv × Rv)):Bool:=if rgE ps bs os qs=0 then Agu ps bs (qs.map ivQ) else false
abbrev pw (k:Int):Pq:=Ai 1 0 k
theorem Agv {k:Int} {n:Nat} (h0 : -(n:Int)≤k) (h1:k≤n) (hn:n≤65536):Sm (pw k) (n+1) n:=by
 unfold pw Ai
 split
 ·exact (Sm.mk_nf (m:=1) (n:=n+1) (d:=n) (p:=0+(-(max (-65536) (min k 65536))).toNat) (by omega) (by omega) (Nat.one_lt_two_pow (by omega)))
 ·refine (Sm.mk_nf (n:=n+1) (d:=n) (p:=0) (by omega) (by omega) ?_)
  rw [Int.one_mul,Int.natAbs_pow]
  exact Nat.pow_lt_pow_right (by decide) (by omega)
theorem AeR {k:Int} (h0 : -65536≤k) (h1:k≤65536):gv (pw k)=2 ^ (65536+k).toNat:=by
 by_cases hk:0≤k
 ·have:=Qq (p:=(1,0)) (n:=k.toNat) (Nat.zero_le _) (by omega)
  rw [show ((k.toNat:Nat):Int)=k by omega,Mz,Int.one_mul,←Int.pow_add] at this
  rw [show gv (pw k)=_ from this]
  congr 1
  show 65536+k.toNat=_
  omega
 ·have:=Qr (p:=(1,0)) (n:=(-k).toNat) (by show 0+(-k).toNat≤65536;omega) (by omega)
  rw [show (-(((-k).toNat:Nat):Int))=k by omega,Mz,Int.one_mul] at this
  refine Int.eq_of_mul_eq_mul_right (Int.ne_of_gt (BR (-k).toNat)) ?_
  rw [this,←Int.pow_add]
  congr 1
  show 65536=_
  omega
def upK (x:Pq):Int:=(CD x.1.natAbs:Int) - 1 - x.2
def upP (x:Pq):Pq:=if x.1=0 then x else if x.1<0 then (if upK x < -30 then (0,0) else XZ (pw (upK x))) else pw (max (if Qs (pw (upK x)) x<0 then upK x+1 else upK x) (-30))
def Agw (a:Iq):Bool:=decide (0<Qs (Gw a) (pw 40))
def P2 (j:Nat):Int:=2 ^ (65506+j)
def inU (z:Int):Prop:=z=0∨∃ j:Nat,z=P2 j∨z = -P2 j
def UL:List Int:=0::((List.range 71).map P2++(List.range 71).map fun j => -P2 j)
def phi (z:Int):Nat:=UL.countP fun m=>decide (m<z)
def psi (z:Int):Nat:=UL.countP fun m=>decide (z<m)
theorem TD {p:Pq} {n d den:Nat} (h:Sm p n d) (hd:den≤65536):Sm (Tt p den) n den:=by
 unfold Tt BO
 split
 ·exact ⟨h.ok,h.n,by assumption⟩
 ·exact Sm.mk_nf (Nat.le_refl _) hd (Nat.lt_of_le_of_lt Qw h.n)
def Adm (inv r:Iq):Iq:=AeJ (Qt inv r) 64
def loC (inv r:Iq):Bool:=decide (¬ (Adm inv r).1=inv.1)
def hiC (inv r:Iq):Bool:=decide (¬ (Adm inv r).2=inv.2)
def Agx (w:Bool) (inv r:Iq):Iq:=(if (w && loC inv r)=true then XZ (upP (XZ (Adm inv r).1)) else (Adm inv r).1,if (w && hiC inv r)=true then upP (Adm inv r).2 else (Adm inv r).2)
def rgA (ps:List Prt) (bs:List Bk) (l:List Iq) (k:Nat):Iq:=(rgV ps bs l)[Ago bs ((CA bs)[k]?.getD 0)]?.getD iZ
def nxI (ps:List Prt) (bs:List Bk) (w:Bool) (l:List Iq) (k:Nat):Iq:=Agx w (l[k]?.getD iZ) (rgA ps bs l k)
def AeS (ps:List Prt) (bs:List Bk) (w:Bool) (l:List Iq):List Iq:=(List.range (CA bs).length).map (nxI ps bs w l)
def chgB (ps:List Prt) (bs:List Bk) (l:List Iq) (k:Nat):Bool:=loC (l[k]?.getD iZ) (rgA ps bs l k) || hiC (l[k]?.getD iZ) (rgA ps bs l k)
def chgK (ps:List Prt) (bs:List Bk) (l:List Iq) (k:Nat):Bool:=(List.range k).any (chgB ps bs l)
def Aaw (ps:List Prt) (bs:List Bk) (rd:Int):Nat→Nat→List Iq→Option (Int × List Iq)
 | 0,_,_=>none
 | f+1,r,l=>if AeQ ps bs l=true then some (4,[]) else if chgK ps bs l (CA bs).length=false then some (0,l)
  else if (AeS ps bs (decide (rd<(r:Int))) l).any Agw=true then some (22,[]) else Aaw ps bs rd f (r+1) (AeS ps bs (decide (rd<(r:Int))) l)
structure InvL (bs:List Bk) (l:List Iq):Prop where
 len:l.length=(CA bs).length
 iw:∀ a∈l,IwS a 20000 20000
 far:∀ a∈l,Agw a=false
 st:∀ k,k<(CA bs).length→gv (l[k]?.getD iZ).1≤gv ((NN bs)[k]?.getD (0,0))∧gv ((NN bs)[k]?.getD (0,0))≤gv (l[k]?.getD iZ).2
section
variable {ps:List Prt} {bs:List Bk} {os:List Int} {l:List Iq} {rd:Int}
def mI (a:Iq):Nat:=phi (gv a.1)+psi (gv a.2)
def mL (bs:List Bk) (l:List Iq):Nat:=((List.range (CA bs).length).map fun k=>mI (l[k]?.getD iZ)).sum
def Aax (bs:List Bk):List Iq:=(NN bs).map fun p=>(p,p)
end
def Agy (a:Iq):Rv × Rv:=(Gb a.1,Gb a.2)
theorem AcO (l:List Iq):Pa (l.map Agy)=.row false 6 l.length (AN (dIw false) l):=by
 unfold Pa AN
 rw [List.length_map,List.map_map]
 congr 2
 refine List.map_congr_left fun a _=>?_
 show dRv false (Gb a.1)++dRv false (Gb a.2)=dIw false a
 rw [ME,ME]
 rfl
theorem ZB (l:List Iq):(l.map Agy).map ivQ=l:=by
 rw [List.map_map]
 refine (List.map_congr_left fun a _=>?_).trans (List.map_id l)
 show (rvP (Gb a.1),rvP (Gb a.2))=a
 rw [MD,MD]
section
variable {ps:List Prt} {bs:List Bk} {os:List Int} {l:List Iq} {rd:Int}
def nxS (ps:List Prt) (bs:List Bk) (w:Bool) (l:List Iq) (k:Nat):List (Option Iq):=(List.range (CA bs).length).map fun j=>if j<k then some (nxI ps bs w l j) else none
def inferA (ps:List Prt) (bs:List Bk) (rd:Int) (f:Nat):Option (Int × List Iq):=if (Aax bs).any Agw=true then some (22,[]) else Aaw ps bs rd f 1 (Aax bs)
end
def aProg (t:Bool) (ps:List Prt) (is:List Int) (xs:List Ins) (os:List Int):A:=.agg [Fk t ps,BQ t is,rowN t xs,BQ t os]
theorem Aay (n e f:Int):CVF Tryz.prog Ax 117 [.agg [dI n,dI e],aI f] [aI (US n e f),aE (DK n e f)]:=fun w S vs hg hlt ha=>by
 obtain ⟨v,vs',rfl,h1,ha⟩:=ha.uncons
 obtain ⟨u,hu,h2⟩:=BW ha
 subst hu
 obtain ⟨xs,rfl,h3⟩:=h1
 have h4:=Lp (vs:=[.int .i64 n,.int .i64 e]) h3
 subst h4
 cases h2
 refine (YZ n e f w hg).mono fun r w' ⟨he,hb⟩=>?_
 exact ⟨_,he,GR (BE.val rfl) (BE.val (Lr _)),hb⟩
def cD (ds:List D):List C:=ds.map C.d
def upto (f:Nat→Int) (k j:Nat):Int:=if j<k then f j else 0
def initF (bs:List Bk) (F:List Int) (j:Nat):Int:=if BU bs j=2 then Agl bs F j else 0
def cellD (bs:List Bk) (t j:Nat):Int:=if BU bs j=2∧Acu (dlB bs) j<t then (bs.length:Int)+(Acu (dlB bs) j:Int) else 0
def cellC (bs:List Bk) (t j:Nat):Int :=
 if BU bs j=2 then (bs.length:Int)+(Acu (dlB bs) j:Int) else if BU bs j=11∧Acu (cpB bs) j<t then (bs.length:Int)+((dlK bs bs.length).length:Int)+2*(Acu (cpB bs) j:Int) else 0
def cdA (ps:List Prt) (bs:List Bk) (F:List Int) (t:Nat):List Ins:=((Dc bs).take t).flatMap (fun j=>blkC ps bs F j (Zm bs j))
def cdB (ps:List Prt) (bs:List Bk) (F:List Int) (t:Nat):List Ins:=cdA ps bs F (Dc bs).length++((dlK bs bs.length).take t).map (mv1 bs F)
def cdC (ps:List Prt) (bs:List Bk) (F:List Int) (t:Nat):List Ins:=cdB ps bs F (dlK bs bs.length).length++((dlK bs bs.length).take t).map (mv2 bs)
def flP:List Prt:=[⟨-1,1,0⟩]
def flB:List Bk:=[⟨0,none,[0],0,0,0,0,0⟩,⟨6,none,[3],0,1,-1,0,0⟩,⟨3,none,[0,1],0,0,0,0,0⟩,⟨2,none,[2],0,0,0,0,0⟩]
def flO:List Int:=[2]
theorem Xz:CV Tryz.prog Ax 74 [] [aDg false flP flB flO]:=by
 refine cvz Tryz.func74 Tryz.ntmps74 ?_
 repeat' (with_reducible first|refine qq ?_|(refine Tx 0 ?_;refine Jn (xAl TX) ?_)|(refine Tx 1 ?_;refine Jo (by exact BI rfl Abl rfl rfl) ?_;refine Jn (by exact Ew rfl CS Rd rfl rfl (by decide) (by decide)) ?_;refine Jn (by exact Ew rfl Ab Bj rfl rfl (by decide) (by decide)) ?_;refine Jn (by exact Ew rfl Ab Bj rfl rfl (by decide) (by decide)) ?_;refine Jo (by exact BI rfl Ll rfl rfl) ?_;refine Jn (by exact Ew rfl Ab Bj rfl rfl (by decide) (by decide)) ?_;refine Jo (by exact BI rfl VS rfl rfl) ?_;refine Jo (by exact BI rfl Ll rfl rfl) ?_;refine Jn (by exact EU rfl Ab Bj rfl rfl rfl rfl (by decide) (by decide)) ?_;refine Jo (by exact BI rfl Ll rfl rfl) ?_;refine Jn (by exact Ew rfl Ab Bj rfl rfl (by decide) (by decide)) ?_;refine Jo (by exact BI rfl Ll rfl rfl) ?_;refine Jn (by exact EV rfl rfl Ae Aw (by decide) (by decide) (by decide) rfl rfl rfl) ?_;refine Jo (by exact BI rfl TY rfl rfl) ?_;refine Js (xSk Bi) ?_))
 exact Ap rfl (.cons_ (Ww rfl rfl Bi rfl rfl (by first|((repeat' first|exact AC rfl rfl|refine Ay rfl rfl ?_ ?_|refine SA rfl rfl ?_|refine SE rfl rfl ?_|exact Db rfl (fun _=>FB.val _)|exact cexp_n rfl rfl|exact cexp_e rfl rfl|refine IO rfl rfl rfl ?_) <;> fail)|fail)) .nil_)
def exP:List Prt:=[⟨-8,8,0⟩]
def exB:List Bk:=[⟨0,none,[0],0,0,0,0,0⟩,⟨3,none,[0,2],0,0,0,0,0⟩,⟨2,none,[1],0,0,0,0,0⟩]
def exO:List Int:=[1]
def exL:List (List Int):=[[3],[4],[-2]]
def exR:List (List (Int × Nat)):=[[(3,0)],[(7,0)],[(5,0)]]
def Agz (ps:List Prt) (bs:List Bk) (os:List Int) (ls:List (List Int)):Bool:=FA ps bs os && decide (ls.length≤300∧ls.length*bs.length≤3000) && ls.all fun l=>decide (l.length≤40)
def AgA (rs:List Rv):Bool:=(rs.all fun r=>decide (r.ws.length≤300∧r.den≤20000)) && decide (rs.length≤100)
theorem IU {α:Type} {p:α→Bool} {l:List α} {k:Nat} {x:α} (h:l[k]?=some x) (hp:p x=false):l.all p=false:=List.all_eq_false.2 ⟨x,List.mem_of_getElem? h,by rw [hp];exact Bool.false_ne_true⟩
def fitL (ps:List Prt) (ls:List (List Int)):List (List Int):=ls.map fun l=>inpV ps l ps.length
theorem XA (t:Bool) {ps:List Prt} {bs:List Bk} {os:List Int} (hl:Lb ps bs os):CVF Tryz.prog Ax 35 [aDg t ps bs os] [aE (BN ps bs os)]:=fun w S vs hg hlt ha=>by
 obtain ⟨v,rfl,hv⟩:=BW ha
 obtain ⟨d,rfl,hd,rfl,hz,rfl,_,_⟩:=Ow hlt hv hl
 refine (Ms d _ w (Nat.le_refl _) hd hg).mono fun e w' ⟨he,hb⟩=>?_
 rw [show BN d.ps d.bs d.os=BN d.ps bs d.os by rw [←FQ,hz,FQ]] at he
 exact ⟨_,he,BE.val (Lr _),hb⟩
def flL:List Iq:=[((-2,0),(2,0))]
section
variable {ps:List Prt} {bs:List Bk} {os:List Int} {st:List Iq}
def BX (V:List Iq) (y:Bk):List Iq:=if y.kind=0 then [] else y.args.map fun a=>V[a.toNat]?.getD iZ
theorem Br {V:List Iq} {y:Bk} (h:y.kind≠0) {k:Nat} {a:Int} (ha:y.args[k]?=some a) {p:Iq} (hp:V[a.toNat]?=some p):(BX V y)[k]?=some p:=by
 unfold BX
 rw [if_neg h,List.getElem?_map,ha,Option.map_some,hp]
 rfl
theorem Cb {V:List Iq} {y:Bk} (hV:∀ p∈V,IwS p LB LB):∀ p∈BX V y,IwS p LB LB:=fun p hp=>by
 unfold BX at hp
 split at hp
 ·cases hp
 ·obtain ⟨a,_,rfl⟩:=List.mem_map.1 hp
  exact Bf hV _
end
structure Ct where
 F:List Int
 R:List Iq
 E:List Pq
def dCt (u:Bool) (c:Ct):List D:=[BQ u c.F,.row false 6 c.R.length (AN (dIw false) c.R),.row false 3 c.E.length (AN dyP c.E)]
def QE (E:List Pq):D:=.row false 3 E.length (AN dyP E)
abbrev eG (E:List Pq) (a:Int):Pq:=E[a.toNat]?.getD (0,0)
abbrev rG (R:List Iq) (a:Int):Iq:=R[a.toNat]?.getD iZ
abbrev sG (F:List Int) (a:Int):Int:=scA F a.toNat
def inK (k:Int):Bool:=decide (-62≤k∧k≤30)
def frB (f:Int):Bool:=decide (0≤f∧f≤30)
def rwB (n e f:Int):Bool:=decide (DK n e f=0)
def GW (ps:List Prt) (F:List Int) (y:Bk) (s:Int):Bool :=
 if y.kind=0 then inK (s - Qo ps (Cg y))
 else if y.kind=1 then rwB y.vn y.ve s
 else if y.kind=6 then inK (s - sG F (Cg y)+y.ve)
 else if y.kind=7 then inK (s - sG F (Cg y) - sG F (Ez y))
 else if y.kind=2 then inK (s - sG F (Cg y)) && rwB y.vn y.ve s
 else if y.kind=11 then inK (s - sG F (Cg y)) && rwB y.vn y.ve s && rwB y.un y.ue s
 else y.args.all fun a=>inK (s - sG F a)
def DL (ps:List Prt) (F:List Int) (y:Bk) (i:Nat):Bool :=
 frB (scA F i) && ((decide (y.kind=0) || y.args.all fun a=>frB (sG F a)) && GW ps F y (scA F i))
def El (ps:List Prt) (R:List Iq) (y:Bk):Iq :=
 if y.kind=2 then Qt (Ai y.vn 0 y.ve,Ai y.vn 0 y.ve) (rG R (Cg y)) else CI y (BX R y) ps
def BP (ps:List Prt) (R:List Iq) (y:Bk) (i:Nat):Bool:=iIn (El ps R y) (R[i]?.getD iZ)
def Bl (n e f:Int):Bool:=decide ((GF (Ai n 0 e) f).2=0)
def ixP (b:Bool) (s:Int):Pq:=if b=true then pw (-s) else (0,0)
def mvP (F:List Int) (E:List Pq) (s a:Int):Pq:=if sG F a≤s then eG E a else DD (eG E a) (pw (-s))
def Bd (ps:List Prt) (F:List Int) (R:List Iq) (E:List Pq) (y:Bk) (s:Int):Pq :=
 if y.kind=0 then ixP (decide (s<Qo ps (Cg y))) s
 else if y.kind=1 then ixP (!Bl y.vn y.ve s) s
 else if y.kind=3∨y.kind=4 then DD (mvP F E s (Cg y)) (mvP F E s (Ez y))
 else if y.kind=5∨y.kind=10 then mvP F E s (Cg y)
 else if y.kind=8∨y.kind=9 then FY (mvP F E s (Cg y)) (mvP F E s (Ez y))
 else if y.kind=6 then DD (CT (Gv (Ai y.vn 0 y.ve)) (eG E (Cg y))) (ixP (decide (s - sG F (Cg y)+y.ve<0)) s)
 else if y.kind=7 then DD (DD (DD (CT (Gw (rG R (Cg y))) (eG E (Ez y))) (CT (Gw (rG R (Ez y))) (eG E (Cg y)))) (CT (eG E (Cg y)) (eG E (Ez y)))) (ixP (decide (s - sG F (Cg y) - sG F (Ez y)<0)) s)
 else if y.kind=11 then FY (mvP F E s (Cg y)) (ixP (!Bl y.vn y.ve s || !Bl y.un y.ue s) s)
 else FY (mvP F E s (Cg y)) (ixP (!Bl y.vn y.ve s) s)
def Fb (x:Pq) (f:Int):Bool:=decide (Qs (GF x f) (2147483647,0)≤0)
def Uy (F:List Int) (R:List Iq) (E:List Pq) (y:Bk) (i:Nat):Bool :=
 Fb (DD (Gw (R[i]?.getD iZ)) (E[i]?.getD (0,0))) (scA F i) && (!decide (y.kind=11) || Fb (DD (rG R (Cg y)).2 (eG E (Cg y))) (scA F i))
def Ld (ps:List Prt) (bs:List Bk) (c:Ct) (i:Nat):Int :=
 let y:=Pm bs i
 if DL ps c.F y i=false then 1 else if BP ps c.R y i=false then 2
 else if Qs (c.E[i]?.getD (0,0)) (Bd ps c.F c.R c.E y (scA c.F i))<0 then 3 else if Uy c.F c.R c.E y i=false then 4 else 0
def upQ (x:Pq):Pq:=Us x 62
def Afn (x:Pq):Bool:=decide (0<Qs x (1099511627776,0))
structure AgB (bs:List Bk) (c:Ct):Prop where
 lF:c.F.length=bs.length
 lR:c.R.length=bs.length
 lE:c.E.length=bs.length
 sR:∀ p∈c.R,IwS p LB LB
 sE:∀ p∈c.E,Sm p LB LB
 nE:∀ p∈c.E,0≤gv p
theorem EL {E:List Pq} {n d:Nat} (h:∀ p∈E,Sm p n d) (a:Int):Sm (eG E a) n d:=Cz h _
theorem ZC {R:List Iq} {n d:Nat} (h:∀ p∈R,IwS p n d) (a:Int):IwS (rG R a) n d:=Bf h _
theorem IC {s:Int} (h0:0≤s) (h1:s≤30):Sm (pw (-s)) 31 30:=Agv (n:=30) (by omega) (by omega) (by decide)
theorem AeT {s:Int} (h0:0≤s) (h1:s≤30):gv (pw (-s))=2 ^ (65536 - s.toNat):=by rw [AeR (by omega) (by omega)];congr 1;omega
theorem Hz {b:Bool} {s:Int} (h0:0≤s) (h1:s≤30):Sm (ixP b s) 31 30:=by
 unfold ixP
 split
 ·exact IC h0 h1
 ·exact Sm.zero _ _
theorem DF {F:List Int} {E:List Pq} {s:Int} (h0:0≤s) (h1:s≤30) (hE:∀ p∈E,Sm p LB LB) (a:Int):Sm (mvP F E s a) 8200 LB:=by
 unfold mvP
 split
 ·exact (EL hE a).more (by decide) (by decide)
 ·exact (Sm.sum (EL hE a) ((IC h0 h1).more (n':=LB) (d':=LB) (by decide) (by decide)) (by decide)).more (by decide) (by decide)
theorem Gc {p:Pq} {n d:Nat} (h:Sm p n d) {f:Int} (f0:0≤f) (f1:f≤30):Sm (GF p f) (n+30) d:=by
 show Sm (Ai p.1 p.2 f) (n+30) d
 unfold Ai
 rw [show max (-65536) (min f 65536)=f by omega,if_neg (by omega)]
 refine Sm.mk_nf h.d h.ok.le ?_
 rw [Int.natAbs_mul,Int.natAbs_pow,show Int.natAbs 2=2 from rfl,Nat.pow_add]
 have h1:2 ^ f.toNat≤2 ^ 30:=Nat.pow_le_pow_right (by decide) (by omega)
 have h2:(0:Nat)<2 ^ f.toNat:=Nat.two_pow_pos _
 exact Nat.lt_of_lt_of_le (Nat.mul_lt_mul_of_pos_right h.n h2) (Nat.mul_le_mul_left _ h1)
theorem GG {a:Iq} {n d:Nat} (h:IwS a n d):Sm (Gw a) n d:=h.abs.s2
theorem LH {ps:List Prt} {F:List Int} {R:List Iq} {E:List Pq} {y:Bk} {s:Int} (h0:0≤s) (h1:s≤30) (hR:∀ p∈R,IwS p LB LB) (hE:∀ p∈E,Sm p LB LB) (hv:y.kind=6→EW y.vn y.ve):Sm (Bd ps F R E y s) 40064 9000:=by
 have ix:∀ b,Sm (ixP b s) 16000 8192:=fun b=>(Hz h0 h1).more (by decide) (by decide)
 have mv:∀ a,Sm (mvP F E s a) 8200 LB:=DF h0 h1 hE
 unfold Bd
 split
 ·exact (ix _).more (by decide) (by decide)
 split
 ·exact (ix _).more (by decide) (by decide)
 split
 ·exact (Sm.sum (mv _) (mv _) (by decide)).more (by decide) (by decide)
 split
 ·exact (mv _).more (by decide) (by decide)
 split
 ·exact (Sm.max (mv _) (mv _)).more (by decide) (by decide)
 split
 ·next h=>exact (Sm.sum ((Sm.mul (EA (hv h)).abs (EL hE _) (by decide)).more (n':=16000) (d':=8192) (by decide) (by decide)) (ix _) (by decide)).more (by decide) (by decide)
 split
 ·have m1:∀ a b,Sm (CT (Gw (rG R a)) (eG E b)) 8192 8192:=fun a b=>Sm.mul (GG (ZC hR a)) (EL hE b) (by decide)
  have m2:∀ a b,Sm (CT (eG E a) (eG E b)) 8192 8192:=fun a b=>Sm.mul (EL hE a) (EL hE b) (by decide)
  have s1:=Sm.sum (m1 (Cg y) (Ez y)) (m1 (Ez y) (Cg y)) (by decide)
  have s2:=Sm.sum s1 ((m2 (Cg y) (Ez y)).more (n':=16385) (d':=8192) (by decide) (by decide)) (by decide)
  exact (Sm.sum s2 ((Hz h0 h1).more (n':=24578) (d':=8192) (by decide) (by decide)) (by decide)).more (by decide) (by decide)
 split
 ·exact (Sm.max (mv _) ((Hz h0 h1).more (by decide) (by decide))).more (by decide) (by decide)
 ·exact (Sm.max (mv _) ((Hz h0 h1).more (by decide) (by decide))).more (by decide) (by decide)
theorem XB {x:Pq} (h:x.2≤GQ):gv x≤gv (upQ x)∧gv (upQ x)<gv x+2 ^ (GQ - 62)∧∃ k:Int,gv (upQ x)=k*2 ^ (GQ - 62):=by
 obtain ⟨a,b,k,c⟩:=Zs (p:=(-x.1,x.2)) (den:=62) h (by decide)
 have e:gv (upQ x) = -gv (BO (-x.1) x.2 62):=Ts _
 have f:gv (-x.1,x.2) = -gv x:=Ts x
 dsimp only at a b c
 rw [f] at a b
 rw [e]
 generalize gv (BO (-x.1) x.2 62)=w at *
 refine ⟨by omega,by omega,-k,?_⟩
 rw [c,Int.neg_mul]
section
variable {P:Program} {G:World→Prop} {o:Oper} {F:Frm} {H:List Ob}
theorem Dq {f:FuncId} (ho:o.op=.assign (.func f)):Bs P G o F H (.one (.clo (.func f) [])) []:=Cr fun b0 m a _ _ hor=>by
 refine ⟨.func (.func f) #[] #[],?_,[],rfl,Bv.nil_⟩
 unfold execOp
 simp [ho,Act.eval]
end
theorem GX {R:List Iq} {k:Nat} (h:k<R.length):R[k]?=some (R[k]?.getD iZ):=by rw [List.getElem?_eq_getElem h];rfl
theorem eg_c {E:List Pq} {k:Nat} (h:k<E.length):E[k]?=some (E[k]?.getD (0,0)):=by rw [List.getElem?_eq_getElem h];rfl
theorem Hc {F:List Int} {k:Nat} (h:k<F.length):F[k]?=some (scA F k):=by unfold scA;rw [List.getElem?_eq_getElem h];rfl
structure XD (ps:List Prt) (n:Nat) (y:Bk):Prop where
 hk:y.kind=0∨y.kind=1∨y.kind=2∨y.kind=3∨y.kind=4∨y.kind=5∨y.kind=6∨y.kind=7∨y.kind=8∨y.kind=9∨y.kind=10∨y.kind=11
 a0:y.kind≠1→∃ a:Nat,y.args[0]?=some (a:Int)∧Cg y=(a:Int)∧(y.kind≠0→a<n)
 a1:(y.kind=3∨y.kind=4∨y.kind=7∨y.kind=8∨y.kind=9)→∃ a:Nat,y.args[1]?=some (a:Int)∧Ez y=(a:Int)∧a<n
 all:y.kind≠0→∀ a∈y.args,0≤a∧a<(n:Int)
 len:y.args.length≤2
 port:y.kind=0→∃ (i:Nat) (p:Prt),y.args[0]?=some (i:Int)∧Cg y=(i:Int)∧ps[i]?=some p∧RN p
 sv:(y.kind=1∨y.kind=2∨y.kind=6∨y.kind=11)→EW y.vn y.ve
 su:y.kind=11→EW y.un y.ue
 cl:y.kind=11→Qs (Ai y.vn 0 y.ve) (Ai y.un 0 y.ue)≤0
theorem Uz {ps:List Prt} {bs:List Bk} {os:List Int} (he:BN ps bs os=0) {i:Nat} {y:Bk} (hy:bs[i]?=some y):XD ps bs.length y:=by
 have hac:=LG he hy
 have hcg:=hac.1
 have hck:=hac.2.1
 have hlen:y.args.length≤2:=by unfold AU at hcg hck;(repeat' split at hck) <;> omega
 refine ⟨Zp he hy,fun h1=>?_,fun h2=>?_,fun h0 a ha=>?_,hlen,fun h0=>?_,fun h=>?_,fun h=>(Tr he hy h).2.1,fun h=>(Tr he hy h).2.2⟩
 ·have hl:1≤y.args.length:=by unfold AU at hcg hck;(repeat' split at hck) <;> omega
  obtain ⟨a,ha⟩:∃ a,y.args[0]?=some a:=⟨_,List.getElem?_eq_getElem (by omega)⟩
  have hb:=hac.2.2 a (List.mem_of_getElem? ha)
  refine ⟨a.toNat,by rw [ha];congr 1;omega,by unfold Cg;rw [ha];show a=_;omega,fun h0=>?_⟩
  rw [show Dv ps.length bs.length y.kind=bs.length from if_neg h0] at hb
  omega
 ·have hl:2≤y.args.length:=by unfold AU at hcg hck;(repeat' split at hck) <;> omega
  obtain ⟨a,ha⟩:∃ a,y.args[1]?=some a:=⟨_,List.getElem?_eq_getElem (by omega)⟩
  have hb:=hac.2.2 a (List.mem_of_getElem? ha)
  rw [show Dv ps.length bs.length y.kind=bs.length from if_neg (by omega)] at hb
  exact ⟨a.toNat,by rw [ha];congr 1;omega,by unfold Ez;rw [ha];show a=_;omega,by omega⟩
 ·have hb:=hac.2.2 a ha
  rwa [show Dv ps.length bs.length y.kind=bs.length from if_neg h0] at hb
 ·have hl:y.args.length=1:=by rw [h0] at hck;simp [AU] at hck;omega
  obtain ⟨a,ha⟩:∃ a,y.args[0]?=some a:=⟨_,List.getElem?_eq_getElem (by omega)⟩
  have hb:=hac.2.2 a (List.mem_of_getElem? ha)
  rw [show Dv ps.length bs.length y.kind=ps.length from if_pos h0] at hb
  obtain ⟨p,hp⟩:∃ p,ps[a.toNat]?=some p:=⟨_,List.getElem?_eq_getElem (by omega)⟩
  exact ⟨a.toNat,p,by rw [ha];congr 1;omega,by unfold Cg;rw [ha];show a=_;omega,hp,Xx he hp⟩
 ·exact Tp he hy (by unfold La;rcases h with h|h|h|h <;> rw [h] <;> rfl)
theorem Pb {ps:List Prt} {i:Nat} {p:Prt} (h:ps[i]?=some p):Qo ps (i:Int)=p.fr:=by unfold Qo;rw [Int.toNat_natCast,h];rfl
theorem QF (s:Int) (s0:0≤s) (s1:s≤30):CV Tryz.prog Ax 218 [aI s] [aDy false (pw (-s)).1 (pw (-s)).2]:=by
 refine cvz Tryz.func218 Tryz.ntmps218 ?_
 have OF:=FV 1 (by decide) (by decide)
 have SH:=Ca 1 0 (-s) ⟨by decide,fun h=>absurd rfl h⟩ (Nat.le_trans (Bb (k:=2) (by decide)) (by decide)) (by omega)
 repeat' (with_reducible first|refine qq ?_|(refine Tx 0 ?_;refine Jn (xAl Aj) ?_)|(refine Tx 1 ?_;refine Jo (xCl Tryz.func68 (OF)) ?_;refine Jm ?_;refine Jo (by first|exact xNt|exact xNg) ?_;refine Jo (xCl Tryz.func21 (SH)) ?_;refine Js (xSk Aa) ?_))
 exact Ap rfl (.cons_ (rvW Aa rfl) .nil_)
theorem Ft (n e:Int) (hs:EW n e):CV Tryz.prog Ax 219 [.agg [dI n,dI e]] [aDy false (Ai n 0 e).1 (Ai n 0 e).2]:=by
 refine cvz Tryz.func219 Tryz.ntmps219 ?_
 have VA:=Tn n e
 rw [if_pos hs,if_pos hs] at VA
 repeat' (with_reducible first|refine qq ?_|(refine Tx 0 ?_;refine Jn xBo ?_;refine Jn (xAl Aj) ?_)|(refine Tx 1 ?_;refine jA ?_;refine Jo (xCl Tryz.func20 (VA)) ?_;refine Jo xMt ?_;refine Jo (by exact FN rfl rfl rfl) ?_;refine Jo xEx ?_;refine Jn (xAl Aj) ?_;refine Js (xSk Aa) ?_;refine Ja ?_)|(refine Tx 2 ?_;refine jA ?_;refine Js (xSk Aa) ?_))
 exact Ap rfl (.cons_ (rvW Aa rfl) .nil_)
theorem Gp (n e f:Int) (hs:EW n e) (f0:0≤f) (f1:f≤30):CV Tryz.prog Ax 222 [.agg [dI n,dI e],aI f] [aB (Bl n e f)]:=by
 refine cvz Tryz.func222 Tryz.ntmps222 ?_
 have RV:=Ft n e hs
 have sm:=EA hs
 have SH:=Ca (Ai n 0 e).1 (Ai n 0 e).2 f sm.ok (Nat.le_trans (sm.lenN 625 (by decide)) (by decide)) (by have:=sm.ok.1;omega)
 obtain ⟨q,hq⟩:∃ q,Ai (Ai n 0 e).1 (Ai n 0 e).2 f=q:=⟨_,rfl⟩
 rw [hq] at SH
 rw [show Bl n e f=decide (q.2=0) by unfold Bl;rw [←hq]]
 by_cases h0:q.2=0
 case pos =>
  repeat' (with_reducible first|refine qq ?_|(refine Tx 0 ?_;refine Jn xBo ?_;refine Ja ?_)|(refine Tx 1 ?_;refine jA ?_;refine Jo (xCl Tryz.func219 (RV)) ?_;refine Jm ?_;refine Jo (xCl Tryz.func21 (SH)) ?_;refine Jn (xAl Aj) ?_;refine Js (xSk Aa) ?_)|(refine Tx 2 ?_;refine jF ?_;refine jD ?_;refine Jo xEq ?_;refine Ja ?_))
  exact Ap rfl (.cons_ (BL rfl ((decide_eq_true h0).symm)) .nil_)
 repeat' (with_reducible first|refine qq ?_|(refine Tx 0 ?_;refine Jn xBo ?_;refine Ja ?_)|(refine Tx 1 ?_;refine jA ?_;refine Jo (xCl Tryz.func219 (RV)) ?_;refine Jm ?_;refine Jo (xCl Tryz.func21 (SH)) ?_;refine Jn (xAl Aj) ?_;refine Js (xSk Aa) ?_)|(refine Tx 2 ?_;refine jF ?_;refine jD ?_;refine Jo xEq ?_;refine Ja ?_))
 exact Ap rfl (.cons_ (BL rfl ((decide_eq_false h0).symm)) .nil_)
theorem IE (k:Int):CV Tryz.prog Ax 215 [aI k] [aB (inK k)]:=by
 refine cvz Tryz.func215 Tryz.ntmps215 ?_
 by_cases cf7:k < -62
 case pos =>
  repeat' (with_reducible first|refine qq ?_|(refine Tx 0 ?_;refine Ja ?_)|(refine Tx 1 ?_;refine Jm ?_;refine Jo xGe ?_;refine Jm ?_;(first|iterate 2 refine Jd ?_|(refine Jy xM1 ?_;refine Jy xLe ?_));refine Jo xPk ?_;refine Ja ?_))
  exact Ap rfl (.cons_ (BL rfl ((decide_eq_false (by omega)).symm)) .nil_)
 by_cases cf6:30<k
 case pos =>
  repeat' (with_reducible first|refine qq ?_|(refine Tx 0 ?_;refine Ja ?_)|(refine Tx 1 ?_;refine Jm ?_;refine Jo xGe ?_;refine Jm ?_;(first|iterate 2 refine Jd ?_|(refine Jy xM1 ?_;refine Jy xLe ?_));refine Jo xPk ?_;refine Ja ?_))
  exact Ap rfl (.cons_ (BL rfl ((decide_eq_false (by omega)).symm)) .nil_)
 repeat' (with_reducible first|refine qq ?_|(refine Tx 0 ?_;refine Ja ?_)|(refine Tx 1 ?_;refine Jm ?_;refine Jo xGe ?_;refine Jm ?_;(first|iterate 2 refine Jd ?_|(refine Jy xM1 ?_;refine Jy xLe ?_));refine Jo xPk ?_;refine Ja ?_))
 exact Ap rfl (.cons_ (BL rfl ((decide_eq_true (by omega)).symm)) .nil_)
theorem Fu (n e f:Int):CV Tryz.prog Ax 216 [.agg [dI n,dI e],.one (.ptr true [dI f])] [aB (rwB n e f)]:=by
 refine cvz Tryz.func216 Tryz.ntmps216 ?_
 have RA:=(Aay n e f).cv
 unfold rwB
 by_cases h0:DK n e f=0
 case pos =>
  rw [h0] at RA
  repeat' (with_reducible first|refine qq ?_|(refine Tx 0 ?_;refine Jn xBo ?_;refine Ja ?_)|(refine Tx 1 ?_;refine jA ?_;refine jD ?_;refine Jo (xCl Tryz.func117 (RA)) ?_;refine Jo xMt ?_;refine Jo xEx ?_;refine Jo xEx ?_;refine Ja ?_;refine Ja ?_)|(refine Tx 2 ?_;refine Jm ?_;refine Jo (by first|exact Cf rfl AQ rfl (Ik rfl)|exact Cf rfl AQ rfl (Ik (by first|rfl|omega))|exact Cf rfl AQ rfl (Mj (by first|assumption|omega))|exact Cf rfl AQ rfl rfl) ?_;refine Ja ?_))
  exact Ap rfl (.cons_ (BL rfl ((decide_eq_true h0).symm)) .nil_)
 repeat' (with_reducible first|refine qq ?_|(refine Tx 0 ?_;refine Jn xBo ?_;refine Ja ?_)|(refine Tx 1 ?_;refine jA ?_;refine jD ?_;refine Jo (xCl Tryz.func117 (RA)) ?_;refine Jo xMt ?_;refine Jo xEx ?_;refine Jo xEx ?_;refine Ja ?_;refine Ja ?_)|(refine Tx 2 ?_;refine Jm ?_;refine Jo (by first|exact Cf rfl AQ rfl (Mj h0)|exact Cf rfl AQ rfl (Ik (by first|rfl|omega))|exact Cf rfl AQ rfl (Mj (by first|assumption|omega))|exact Cf rfl AQ rfl rfl) ?_;refine Ja ?_))
 exact Ap rfl (.cons_ (BL rfl ((decide_eq_false h0).symm)) .nil_)
theorem ZD (u:Bool) (c:Ct) (a:Int) {k:Nat} (a0:0≤a) (hk:k=a.toNat) (h:k<c.F.length) (hl:c.F.length≤1000000):CV Tryz.prog Ax 214 [aI a,.one (.ptr true (dCt u c))] [aB (!frB (scA c.F a.toNat))]:=by
 refine cvz Tryz.func214 Tryz.ntmps214 ?_
 have hF:=Hc h
 obtain rfl:k=a.toNat:=hk
 have ha:((a.toNat:Nat):Int)=a:=by omega
 rw [←ha]
 rw [Int.toNat_natCast]
 generalize a.toNat=j at *
 unfold frB
 generalize scA c.F j=z at *
 by_cases c5:z<0
 case pos =>
  repeat' (with_reducible first|refine qq ?_|(refine Tx 0 ?_;refine Ja ?_)|(refine Tx 1 ?_;refine jF ?_;refine jD ?_;refine Jm ?_;refine Jo (xIr Ab (Ak hF)) ?_;refine jD ?_;refine Jo xLt ?_;refine Jm ?_;(first|iterate 6 refine Jd ?_|(refine Jy (xFa DT AM) ?_;refine Jy (xLd AM) ?_;refine Jy xM1 ?_;refine Jy (xIr Ab (Ak hF)) ?_;refine Jy (xLd Al) ?_;refine Jy xGt ?_));refine Jo xPk ?_;refine Ja ?_))
  exact Ap rfl (.cons_ (BL rfl (by rw [decide_eq_false (by omega)];rfl)) .nil_)
 by_cases c6:30<z
 case pos =>
  repeat' (with_reducible first|refine qq ?_|(refine Tx 0 ?_;refine Ja ?_)|(refine Tx 1 ?_;refine jF ?_;refine jD ?_;refine Jm ?_;refine Jo (xIr Ab (Ak hF)) ?_;refine jD ?_;refine Jo xLt ?_;refine Jm ?_;(first|iterate 6 refine Jd ?_|(refine Jy (xFa DT AM) ?_;refine Jy (xLd AM) ?_;refine Jy xM1 ?_;refine Jy (xIr Ab (Ak hF)) ?_;refine Jy (xLd Al) ?_;refine Jy xGt ?_));refine Jo xPk ?_;refine Ja ?_))
  exact Ap rfl (.cons_ (BL rfl (by rw [decide_eq_false (by omega)];rfl)) .nil_)
 repeat' (with_reducible first|refine qq ?_|(refine Tx 0 ?_;refine Ja ?_)|(refine Tx 1 ?_;refine jF ?_;refine jD ?_;refine Jm ?_;refine Jo (xIr Ab (Ak hF)) ?_;refine jD ?_;refine Jo xLt ?_;refine Jm ?_;(first|iterate 6 refine Jd ?_|(refine Jy (xFa DT AM) ?_;refine Jy (xLd AM) ?_;refine Jy xM1 ?_;refine Jy (xIr Ab (Ak hF)) ?_;refine Jy (xLd Al) ?_;refine Jy xGt ?_));refine Jo xPk ?_;refine Ja ?_))
 exact Ap rfl (.cons_ (BL rfl (by rw [decide_eq_true (by omega)];rfl)) .nil_)
theorem RP (t u:Bool) {ps:List Prt} {bs:List Bk} (os:List Int) (c:Ct) (i:Nat) {y:Bk} (hy:bs[i]?=some y) (B:XD ps bs.length y) (hF:c.F.length=bs.length) (hn:bs.length≤1000000) (hpn:ps.length≤1000000):CV Tryz.prog Ax 125 [aDg t ps bs os,.agg (dCt u c),aI (i:Int)] [aB (DL ps c.F y i)]:=by
 refine cvz Tryz.func125 Tryz.ntmps125 ?_
 have hil:=(List.getElem?_eq_some_iff.1 hy).1
 have hFi:=Hc (F:=c.F) (k:=i) (by omega)
 obtain ⟨s,hs⟩:∃ s,scA c.F i=s:=⟨_,rfl⟩
 rw [hs] at hFi
 have hBl:=B.len
 by_cases c5:s<0
 case pos =>
  have hb:DL ps c.F y i=false:=by unfold DL;rw [hs,show frB s=false from decide_eq_false (by omega)];rfl
  rw [hb]
  repeat' (with_reducible first|refine qq ?_|(refine Tx 0 ?_;refine Jn xBo ?_;refine Jn xBo ?_;refine Ja ?_)|(refine Tx 1 ?_;refine jF ?_;refine jD ?_;refine Jm ?_;refine Jo (xIr Ab (Ak hFi)) ?_;refine jD ?_;refine Jn (xAl Bj) ?_;refine Js (by first|exact xS1 Al|exact xSk Al) ?_)|(refine Tx 2 ?_;refine jD ?_;refine Jo xLt ?_;refine Jm ?_;(first|iterate 2 refine Jd ?_|(refine Jy (xLd Al) ?_;refine Jy xGt ?_));refine Jo xPk ?_)|(refine Tx 3 ?_;refine Ja ?_))
  exact Ap rfl (.cons_ (BL rfl (rfl)) .nil_)
 by_cases c6:30<s
 case pos =>
  have hb:DL ps c.F y i=false:=by unfold DL;rw [hs,show frB s=false from decide_eq_false (by omega)];rfl
  rw [hb]
  repeat' (with_reducible first|refine qq ?_|(refine Tx 0 ?_;refine Jn xBo ?_;refine Jn xBo ?_;refine Ja ?_)|(refine Tx 1 ?_;refine jF ?_;refine jD ?_;refine Jm ?_;refine Jo (xIr Ab (Ak hFi)) ?_;refine jD ?_;refine Jn (xAl Bj) ?_;refine Js (by first|exact xS1 Al|exact xSk Al) ?_)|(refine Tx 2 ?_;refine jD ?_;refine Jo xLt ?_;refine Jm ?_;(first|iterate 2 refine Jd ?_|(refine Jy (xLd Al) ?_;refine Jy xGt ?_));refine Jo xPk ?_)|(refine Tx 3 ?_;refine Ja ?_))
  exact Ap rfl (.cons_ (BL rfl (rfl)) .nil_)
 have hfr:frB s=true:=decide_eq_true (by omega)
 by_cases k0:y.kind=0
 case pos =>
  obtain ⟨j,p,hA0,ha0,hp,P⟩:=B.port k0
  have f0:=P.f0
  have f1:=P.f1
  have hjl:=(List.getElem?_eq_some_iff.1 hp).1
  have hL0:=(List.getElem?_eq_some_iff.1 hA0).1
  have hb:DL ps c.F y i=inK (s - p.fr):=by unfold DL GW;rw [hs,hfr,decide_eq_true k0,if_pos k0,ha0,Pb hp];rfl
  rw [hb]
  repeat' (with_reducible first|refine qq ?_|(refine Tx 0 ?_;refine Jn xBo ?_;refine Jn xBo ?_;refine Ja ?_)|(refine Tx 1 ?_;refine jF ?_;refine jD ?_;refine Jm ?_;refine Jo (xIr Ab (Ak hFi)) ?_;refine jD ?_;refine Jn (xAl Bj) ?_;refine Js (by first|exact xS1 Al|exact xSk Al) ?_)|(refine Tx 2 ?_;refine jD ?_;refine Jo xLt ?_;refine Jm ?_;(first|iterate 2 refine Jd ?_|(refine Jy (xLd Al) ?_;refine Jy xGt ?_));refine Jo xPk ?_)|(refine Tx 4 ?_;refine jF ?_;refine jD ?_;refine Jm ?_;refine Jo (xIr Ae (Bo hy)) ?_;refine jA ?_;refine Jn (xAl Aw) ?_;refine Js (xSk Au) ?_)|(refine Tx 5 ?_;refine jF ?_;refine jD ?_;refine Jo xNe ?_;refine Jm ?_;(first|iterate 3 refine Jd ?_|(refine Jy (xFa Cy AM) ?_;refine Jy (xLd AM) ?_;refine Jy (by exact Ah rfl (by repeat' first|exact AC rfl rfl|refine Ay rfl rfl rfl ?_)) ?_));refine Jd ?_;refine Jo xPk ?_)|(refine Tx 7 ?_;refine Jo (by first|exact Dq rfl|exact Da rfl rfl) ?_)|(refine Tx 8 ?_;refine Jo (by first|exact xMf [(2,0,none)]|exact Ah rfl (by repeat' first|exact AC rfl rfl|refine Ay rfl rfl rfl ?_)) ?_;refine Ja ?_)|(refine Tx 9 ?_;refine jF ?_;refine jD ?_)|(refine Tx 10 ?_;refine Jo xEq ?_;refine Ja ?_)|(refine AZ (id:=11) AK (by kernel_rfl) ?_;refine Km ?_;refine kD ?_;refine kF ?_;refine kD ?_;refine kF ?_;refine kD ?_;refine Ko (xIr Ab (Ak hA0)) ?_;refine kD ?_;refine Ko (xIr CS (ND hp)) ?_;refine kF ?_;refine kD ?_;refine Ko xSb ?_;refine Ko (xCc Tryz.func215 (IE (s - p.fr)) (args:=[_]) rfl) ?_;refine Ka ?_;refine Ke ?_))
  exact Ap rfl (.cons_ (BL rfl (rfl)) .nil_)
 have HC:∀ a∈y.args,CV Tryz.prog Ax 214 [aI a,.one (.ptr true (dCt u c))] [aB ((fun a:Int=>!frB (scA c.F a.toNat)) a)]:=fun a ha=>by have h1:=B.all k0 a ha;exact ZD u c a h1.1 rfl (by omega) (by omega)
 have CTN:∀ vs,CV Tryz.prog (Aaq Tryz.prog 214 vs (fun a:Int=>!frB (scA c.F a.toNat)) y.args) 213 [.one (BQ t y.args),.one (.val (.func (.func 214) #[] vs.toArray))] [aB (y.args.any (fun a:Int=>!frB (scA c.F a.toNat)))]:=fun vs=>RM Tryz.func214 (by kernel_rfl) rfl t vs _ y.args (by omega)
 have hna:y.args.any (fun a:Int=>!frB (scA c.F a.toNat))=!y.args.all (fun a=>frB (sG c.F a)):=(List.not_all_eq_any_not ..).symm
 by_cases hall:y.args.all (fun a=>frB (sG c.F a))=true
 case neg =>
  rw [Bool.not_eq_true] at hall
  rw [hall] at hna
  simp only [hna,Bool.not_false] at CTN
  have hb:DL ps c.F y i=false:=by unfold DL;rw [hs,hfr,hall,decide_eq_false k0];rfl
  rw [hb]
  repeat' (with_reducible first|refine qq ?_|(refine Tx 0 ?_;refine Jn xBo ?_;refine Jn xBo ?_;refine Ja ?_)|(refine Tx 1 ?_;refine jF ?_;refine jD ?_;refine Jm ?_;refine Jo (xIr Ab (Ak hFi)) ?_;refine jD ?_;refine Jn (xAl Bj) ?_;refine Js (by first|exact xS1 Al|exact xSk Al) ?_)|(refine Tx 2 ?_;refine jD ?_;refine Jo xLt ?_;refine Jm ?_;(first|iterate 2 refine Jd ?_|(refine Jy (xLd Al) ?_;refine Jy xGt ?_));refine Jo xPk ?_)|(refine Tx 4 ?_;refine jF ?_;refine jD ?_;refine Jm ?_;refine Jo (xIr Ae (Bo hy)) ?_;refine jA ?_;refine Jn (xAl Aw) ?_;refine Js (xSk Au) ?_)|(refine Tx 5 ?_;refine jF ?_;refine jD ?_;refine Jo xNe ?_;refine Jm ?_;(first|iterate 4 refine Jd ?_|(refine Jy (xFa Cy AM) ?_;refine Jy (xLd AM) ?_;refine Jy (by first|exact xMf [(1,0,none)]|exact Ah rfl (by repeat' first|exact AC rfl rfl|refine Ay rfl rfl rfl ?_)) ?_;refine Jy (by exact DV Mt Tryz.func213 CTN HC) ?_));refine Jo xPk ?_)|(refine Tx 6 ?_;refine Ja ?_))
  exact Ap rfl (.cons_ (BL rfl (rfl)) .nil_)
 rw [hall] at hna
 simp only [hna,Bool.not_true] at CTN
 have hb:DL ps c.F y i=GW ps c.F y s:=by unfold DL;rw [hs,hfr,hall];simp
 rw [hb]
 have hall:∀ a∈y.args,0≤sG c.F a∧sG c.F a≤30:=fun a ha=>of_decide_eq_true (List.all_eq_true.1 hall a ha)
 clear hb hna
 by_cases k1:y.kind=1
 case pos =>
  rw [show GW ps c.F y s=rwB y.vn y.ve s by unfold GW;rw [if_neg k0,if_pos k1]]
  repeat' (with_reducible first|refine qq ?_|(refine Tx 0 ?_;refine Jn xBo ?_;refine Jn xBo ?_;refine Ja ?_)|(refine Tx 1 ?_;refine jF ?_;refine jD ?_;refine Jm ?_;refine Jo (xIr Ab (Ak hFi)) ?_;refine jD ?_;refine Jn (xAl Bj) ?_;refine Js (by first|exact xS1 Al|exact xSk Al) ?_)|(refine Tx 2 ?_;refine jD ?_;refine Jo xLt ?_;refine Jm ?_;(first|iterate 2 refine Jd ?_|(refine Jy (xLd Al) ?_;refine Jy xGt ?_));refine Jo xPk ?_)|(refine Tx 4 ?_;refine jF ?_;refine jD ?_;refine Jm ?_;refine Jo (xIr Ae (Bo hy)) ?_;refine jA ?_;refine Jn (xAl Aw) ?_;refine Js (xSk Au) ?_)|(refine Tx 5 ?_;refine jF ?_;refine jD ?_;refine Jo xNe ?_;refine Jm ?_;(first|iterate 4 refine Jd ?_|(refine Jy (xFa Cy AM) ?_;refine Jy (xLd AM) ?_;refine Jy (by first|exact xMf [(1,0,none)]|exact Ah rfl (by repeat' first|exact AC rfl rfl|refine Ay rfl rfl rfl ?_)) ?_;refine Jy (by exact DV Mt Tryz.func213 CTN HC) ?_));refine Jo xPk ?_)|(refine Tx 7 ?_;refine Jo (by first|exact Dq rfl|exact Da rfl rfl) ?_)|(refine Tx 8 ?_;refine Jo (by first|exact xMf [(2,0,none)]|exact Ah rfl (by repeat' first|exact AC rfl rfl|refine Ay rfl rfl rfl ?_)) ?_;refine Ja ?_)|(refine Tx 9 ?_;refine jF ?_;refine jD ?_)|(refine Tx 10 ?_;refine Jo xEq ?_;refine Ja ?_)|(refine Tx 12 ?_;refine Jo xEq ?_;refine Ja ?_)|(refine Tx 13 ?_;refine Jm ?_;refine jF ?_;refine jA ?_;refine Jo (xCc Tryz.func216 (Fu y.vn y.ve s) (args:=[_]) rfl) ?_;refine Ja ?_))
  exact Ap rfl (.cons_ (BL rfl (rfl)) .nil_)
 by_cases k6:y.kind=6
 case pos =>
  obtain ⟨a,hA0,ha0,hl0⟩:=B.a0 (by omega)
  have hL0:=(List.getElem?_eq_some_iff.1 hA0).1
  have hl0:=hl0 k0
  have hF0:=Hc (F:=c.F) (k:=a) (by omega)
  have hr0:=hall a (List.mem_of_getElem? hA0)
  obtain ⟨r0,hq0⟩:∃ r,scA c.F a=r:=⟨_,rfl⟩
  rw [show sG c.F ((a:Nat):Int)=r0 by unfold sG;rw [Int.toNat_natCast];exact hq0] at hr0
  rw [hq0] at hF0
  have hg0:sG c.F (Cg y)=r0:=by rw [ha0];unfold sG;rw [Int.toNat_natCast];exact hq0
  have hv:=B.sv (by omega)
  unfold EW at hv
  rw [show GW ps c.F y s=inK (s - r0+y.ve) by unfold GW;rw [if_neg k0,if_neg k1,if_pos k6,hg0]]
  repeat' (with_reducible first|refine qq ?_|(refine Tx 0 ?_;refine Jn xBo ?_;refine Jn xBo ?_;refine Ja ?_)|(refine Tx 1 ?_;refine jF ?_;refine jD ?_;refine Jm ?_;refine Jo (by first|exact xIr Ab (Ak hFi)|exact xIr Ab (Ak hF0)) ?_;refine jD ?_;refine Jn (xAl Bj) ?_;refine Js (by first|exact xS1 Al|exact xSk Al) ?_)|(refine Tx 2 ?_;refine jD ?_;refine Jo xLt ?_;refine Jm ?_;(first|iterate 2 refine Jd ?_|(refine Jy (xLd Al) ?_;refine Jy xGt ?_));refine Jo xPk ?_)|(refine Tx 4 ?_;refine jF ?_;refine jD ?_;refine Jm ?_;refine Jo (xIr Ae (Bo hy)) ?_;refine jA ?_;refine Jn (xAl Aw) ?_;refine Js (xSk Au) ?_)|(refine Tx 5 ?_;refine jF ?_;refine jD ?_;refine Jo xNe ?_;refine Jm ?_;(first|iterate 4 refine Jd ?_|(refine Jy (xFa Cy AM) ?_;refine Jy (xLd AM) ?_;refine Jy (by first|exact xMf [(1,0,none)]|exact Ah rfl (by repeat' first|exact AC rfl rfl|refine Ay rfl rfl rfl ?_)) ?_;refine Jy (by exact DV Mt Tryz.func213 CTN HC) ?_));refine Jo xPk ?_)|(refine Tx 7 ?_;refine Jo (by first|exact Dq rfl|exact Da rfl rfl) ?_)|(refine Tx 8 ?_;refine Jo (by first|exact xMf [(2,0,none)]|exact Ah rfl (by repeat' first|exact AC rfl rfl|refine Ay rfl rfl rfl ?_)) ?_;refine Ja ?_)|(refine Tx 9 ?_;refine jF ?_;refine jD ?_)|(refine Tx 10 ?_;refine Jo xEq ?_;refine Ja ?_)|(refine Tx 12 ?_;refine Jo xEq ?_;refine Ja ?_)|(refine Tx 14 ?_;refine Jo xEq ?_;refine Ja ?_)|(refine AZ (id:=15) AK (by kernel_rfl) ?_;refine Km ?_;refine kD ?_;refine kF ?_;refine kD ?_;refine kF ?_;refine kD ?_;refine Ko (xIr Ab (Ak hA0)) ?_;refine kD ?_;refine Ko (by first|exact xIr Ab (Ak hFi)|exact xIr Ab (Ak hF0)) ?_;refine kD ?_;refine Ko xSb ?_;refine kF ?_;refine kF ?_;refine kD ?_;refine Ko xAd ?_;refine Ko (xCc Tryz.func215 (IE (s - r0+y.ve)) (args:=[_]) rfl) ?_;refine Ka ?_;refine Ke ?_))
  exact Ap rfl (.cons_ (BL rfl (rfl)) .nil_)
 by_cases k7:y.kind=7
 case pos =>
  obtain ⟨a,hA0,ha0,hl0⟩:=B.a0 (by omega)
  have hL0:=(List.getElem?_eq_some_iff.1 hA0).1
  have hl0:=hl0 k0
  have hF0:=Hc (F:=c.F) (k:=a) (by omega)
  have hr0:=hall a (List.mem_of_getElem? hA0)
  obtain ⟨r0,hq0⟩:∃ r,scA c.F a=r:=⟨_,rfl⟩
  rw [show sG c.F ((a:Nat):Int)=r0 by unfold sG;rw [Int.toNat_natCast];exact hq0] at hr0
  rw [hq0] at hF0
  have hg0:sG c.F (Cg y)=r0:=by rw [ha0];unfold sG;rw [Int.toNat_natCast];exact hq0
  obtain ⟨b,hA1,ha1,hl1⟩:=B.a1 (by omega)
  have hL1:=(List.getElem?_eq_some_iff.1 hA1).1
  have hF1:=Hc (F:=c.F) (k:=b) (by omega)
  have hr1:=hall b (List.mem_of_getElem? hA1)
  obtain ⟨r1,hq1⟩:∃ r,scA c.F b=r:=⟨_,rfl⟩
  rw [show sG c.F ((b:Nat):Int)=r1 by unfold sG;rw [Int.toNat_natCast];exact hq1] at hr1
  rw [hq1] at hF1
  have hg1:sG c.F (Ez y)=r1:=by rw [ha1];unfold sG;rw [Int.toNat_natCast];exact hq1
  rw [show GW ps c.F y s=inK (s - r0 - r1) by unfold GW;rw [if_neg k0,if_neg k1,if_neg k6,if_pos k7,hg0,hg1]]
  repeat' (with_reducible first|refine qq ?_|(refine Tx 0 ?_;refine Jn xBo ?_;refine Jn xBo ?_;refine Ja ?_)|(refine Tx 1 ?_;refine jF ?_;refine jD ?_;refine Jm ?_;refine Jo (by first|exact xIr Ab (Ak hFi)|exact xIr Ab (Ak hF0)|exact xIr Ab (Ak hF1)) ?_;refine jD ?_;refine Jn (xAl Bj) ?_;refine Js (by first|exact xS1 Al|exact xSk Al) ?_)|(refine Tx 2 ?_;refine jD ?_;refine Jo xLt ?_;refine Jm ?_;(first|iterate 2 refine Jd ?_|(refine Jy (xLd Al) ?_;refine Jy xGt ?_));refine Jo xPk ?_)|(refine Tx 4 ?_;refine jF ?_;refine jD ?_;refine Jm ?_;refine Jo (xIr Ae (Bo hy)) ?_;refine jA ?_;refine Jn (xAl Aw) ?_;refine Js (xSk Au) ?_)|(refine Tx 5 ?_;refine jF ?_;refine jD ?_;refine Jo xNe ?_;refine Jm ?_;(first|iterate 4 refine Jd ?_|(refine Jy (xFa Cy AM) ?_;refine Jy (xLd AM) ?_;refine Jy (by first|exact xMf [(1,0,none)]|exact Ah rfl (by repeat' first|exact AC rfl rfl|refine Ay rfl rfl rfl ?_)) ?_;refine Jy (by exact DV Mt Tryz.func213 CTN HC) ?_));refine Jo xPk ?_)|(refine Tx 7 ?_;refine Jo (by first|exact Dq rfl|exact Da rfl rfl) ?_)|(refine Tx 8 ?_;refine Jo (by first|exact xMf [(2,0,none)]|exact Ah rfl (by repeat' first|exact AC rfl rfl|refine Ay rfl rfl rfl ?_)) ?_;refine Ja ?_)|(refine Tx 9 ?_;refine jF ?_;refine jD ?_)|(refine Tx 10 ?_;refine Jo xEq ?_;refine Ja ?_)|(refine Tx 12 ?_;refine Jo xEq ?_;refine Ja ?_)|(refine Tx 14 ?_;refine Jo xEq ?_;refine Ja ?_)|(refine Tx 16 ?_;refine Jo xEq ?_;refine Ja ?_)|(refine AZ (id:=17) AK (by kernel_rfl) ?_;refine Km ?_;refine kD ?_;refine kF ?_;refine kD ?_;refine kF ?_;refine kD ?_;refine Ko (xIr Ab (Ak hA0)) ?_;refine kD ?_;refine Ko (by first|exact xIr Ab (Ak hFi)|exact xIr Ab (Ak hF0)|exact xIr Ab (Ak hF1)) ?_;refine kD ?_;refine Ko xSb ?_;refine kF ?_;refine kD ?_;refine kF ?_;refine kD ?_;refine Ko (xIr Ab (Ak hA1)) ?_;refine kD ?_;refine Ko (by first|exact xIr Ab (Ak hFi)|exact xIr Ab (Ak hF0)|exact xIr Ab (Ak hF1)) ?_;refine kD ?_;refine Ko xSb ?_;refine Ko (xCc Tryz.func215 (IE (s - r0 - r1)) (args:=[_]) rfl) ?_;refine Ka ?_;refine Ke ?_))
  exact Ap rfl (.cons_ (BL rfl (rfl)) .nil_)
 by_cases k2:y.kind=2
 case pos =>
  obtain ⟨a,hA0,ha0,hl0⟩:=B.a0 (by omega)
  have hL0:=(List.getElem?_eq_some_iff.1 hA0).1
  have hl0:=hl0 k0
  have hF0:=Hc (F:=c.F) (k:=a) (by omega)
  have hr0:=hall a (List.mem_of_getElem? hA0)
  obtain ⟨r0,hq0⟩:∃ r,scA c.F a=r:=⟨_,rfl⟩
  rw [show sG c.F ((a:Nat):Int)=r0 by unfold sG;rw [Int.toNat_natCast];exact hq0] at hr0
  rw [hq0] at hF0
  have hg0:sG c.F (Cg y)=r0:=by rw [ha0];unfold sG;rw [Int.toNat_natCast];exact hq0
  rw [show GW ps c.F y s=(inK (s - r0) && rwB y.vn y.ve s) by unfold GW;rw [if_neg k0,if_neg k1,if_neg k6,if_neg k7,if_pos k2,hg0]]
  have SHC:=IE (s - r0)
  cases hq:inK (s - r0)
  case false =>
   rw [hq] at SHC
   repeat' (with_reducible first|refine qq ?_|(refine Tx 0 ?_;refine Jn xBo ?_;refine Jn xBo ?_;refine Ja ?_)|(refine Tx 1 ?_;refine jF ?_;refine jD ?_;refine Jm ?_;refine Jo (by first|exact xIr Ab (Ak hFi)|exact xIr Ab (Ak hF0)) ?_;refine jD ?_;refine Jn (xAl Bj) ?_;refine Js (by first|exact xS1 Al|exact xSk Al) ?_)|(refine Tx 2 ?_;refine jD ?_;refine Jo xLt ?_;refine Jm ?_;(first|iterate 2 refine Jd ?_|(refine Jy (xLd Al) ?_;refine Jy xGt ?_));refine Jo xPk ?_)|(refine Tx 4 ?_;refine jF ?_;refine jD ?_;refine Jm ?_;refine Jo (xIr Ae (Bo hy)) ?_;refine jA ?_;refine Jn (xAl Aw) ?_;refine Js (xSk Au) ?_)|(refine Tx 5 ?_;refine jF ?_;refine jD ?_;refine Jo xNe ?_;refine Jm ?_;(first|iterate 4 refine Jd ?_|(refine Jy (xFa Cy AM) ?_;refine Jy (xLd AM) ?_;refine Jy (by first|exact xMf [(1,0,none)]|exact Ah rfl (by repeat' first|exact AC rfl rfl|refine Ay rfl rfl rfl ?_)) ?_;refine Jy (by exact DV Mt Tryz.func213 CTN HC) ?_));refine Jo xPk ?_)|(refine Tx 7 ?_;refine Jo (by first|exact Dq rfl|exact Da rfl rfl) ?_)|(refine Tx 8 ?_;refine Jo (by first|exact xMf [(2,0,none)]|exact Ah rfl (by repeat' first|exact AC rfl rfl|refine Ay rfl rfl rfl ?_)) ?_;refine Ja ?_)|(refine Tx 9 ?_;refine jF ?_;refine jD ?_)|(refine Tx 10 ?_;refine Jo xEq ?_;refine Ja ?_)|(refine Tx 12 ?_;refine Jo xEq ?_;refine Ja ?_)|(refine Tx 14 ?_;refine Jo xEq ?_;refine Ja ?_)|(refine Tx 16 ?_;refine Jo xEq ?_;refine Ja ?_)|(refine Tx 18 ?_;refine Jo xEq ?_;refine Ja ?_)|(refine AZ (id:=19) AK (by kernel_rfl) ?_;refine Km ?_;refine kD ?_;refine kF ?_;refine kD ?_;refine kF ?_;refine kD ?_;refine Ko (xIr Ab (Ak hA0)) ?_;refine kD ?_;refine Ko (by first|exact xIr Ab (Ak hFi)|exact xIr Ab (Ak hF0)) ?_;refine kD ?_;refine Ko xSb ?_;refine Ko (xCc Tryz.func215 SHC (args:=[_]) rfl) ?_;refine Km ?_;(first|iterate 4 refine Kd ?_|(refine Ky xM1 ?_;refine Ky (xFa CG AI) ?_;refine Ky (xLa AI) ?_;refine Ky (xCc Tryz.func216 (Fu y.vn y.ve s) (args:=[_]) rfl) ?_));refine Ko xPk ?_;refine Ka ?_;refine Ke ?_))
   exact Ap rfl (.cons_ (BL rfl (by rw [Bool.false_and])) .nil_)
  case true =>
   rw [hq] at SHC
   repeat' (with_reducible first|refine qq ?_|(refine Tx 0 ?_;refine Jn xBo ?_;refine Jn xBo ?_;refine Ja ?_)|(refine Tx 1 ?_;refine jF ?_;refine jD ?_;refine Jm ?_;refine Jo (by first|exact xIr Ab (Ak hFi)|exact xIr Ab (Ak hF0)) ?_;refine jD ?_;refine Jn (xAl Bj) ?_;refine Js (by first|exact xS1 Al|exact xSk Al) ?_)|(refine Tx 2 ?_;refine jD ?_;refine Jo xLt ?_;refine Jm ?_;(first|iterate 2 refine Jd ?_|(refine Jy (xLd Al) ?_;refine Jy xGt ?_));refine Jo xPk ?_)|(refine Tx 4 ?_;refine jF ?_;refine jD ?_;refine Jm ?_;refine Jo (xIr Ae (Bo hy)) ?_;refine jA ?_;refine Jn (xAl Aw) ?_;refine Js (xSk Au) ?_)|(refine Tx 5 ?_;refine jF ?_;refine jD ?_;refine Jo xNe ?_;refine Jm ?_;(first|iterate 4 refine Jd ?_|(refine Jy (xFa Cy AM) ?_;refine Jy (xLd AM) ?_;refine Jy (by first|exact xMf [(1,0,none)]|exact Ah rfl (by repeat' first|exact AC rfl rfl|refine Ay rfl rfl rfl ?_)) ?_;refine Jy (by exact DV Mt Tryz.func213 CTN HC) ?_));refine Jo xPk ?_)|(refine Tx 7 ?_;refine Jo (by first|exact Dq rfl|exact Da rfl rfl) ?_)|(refine Tx 8 ?_;refine Jo (by first|exact xMf [(2,0,none)]|exact Ah rfl (by repeat' first|exact AC rfl rfl|refine Ay rfl rfl rfl ?_)) ?_;refine Ja ?_)|(refine Tx 9 ?_;refine jF ?_;refine jD ?_)|(refine Tx 10 ?_;refine Jo xEq ?_;refine Ja ?_)|(refine Tx 12 ?_;refine Jo xEq ?_;refine Ja ?_)|(refine Tx 14 ?_;refine Jo xEq ?_;refine Ja ?_)|(refine Tx 16 ?_;refine Jo xEq ?_;refine Ja ?_)|(refine Tx 18 ?_;refine Jo xEq ?_;refine Ja ?_)|(refine AZ (id:=19) AK (by kernel_rfl) ?_;refine Km ?_;refine kD ?_;refine kF ?_;refine kD ?_;refine kF ?_;refine kD ?_;refine Ko (xIr Ab (Ak hA0)) ?_;refine kD ?_;refine Ko (by first|exact xIr Ab (Ak hFi)|exact xIr Ab (Ak hF0)) ?_;refine kD ?_;refine Ko xSb ?_;refine Ko (xCc Tryz.func215 SHC (args:=[_]) rfl) ?_;refine Km ?_;(first|iterate 4 refine Kd ?_|(refine Ky xM1 ?_;refine Ky (xFa CG AI) ?_;refine Ky (xLa AI) ?_;refine Ky (xCc Tryz.func216 (Fu y.vn y.ve s) (args:=[_]) rfl) ?_));refine Ko xPk ?_;refine Ka ?_;refine Ke ?_))
   exact Ap rfl (.cons_ (BL rfl (by rw [Bool.true_and])) .nil_)
 by_cases k11:y.kind=11
 case pos =>
  obtain ⟨a,hA0,ha0,hl0⟩:=B.a0 (by omega)
  have hL0:=(List.getElem?_eq_some_iff.1 hA0).1
  have hl0:=hl0 k0
  have hF0:=Hc (F:=c.F) (k:=a) (by omega)
  have hr0:=hall a (List.mem_of_getElem? hA0)
  obtain ⟨r0,hq0⟩:∃ r,scA c.F a=r:=⟨_,rfl⟩
  rw [show sG c.F ((a:Nat):Int)=r0 by unfold sG;rw [Int.toNat_natCast];exact hq0] at hr0
  rw [hq0] at hF0
  have hg0:sG c.F (Cg y)=r0:=by rw [ha0];unfold sG;rw [Int.toNat_natCast];exact hq0
  rw [show GW ps c.F y s=(inK (s - r0) && rwB y.vn y.ve s && rwB y.un y.ue s) by unfold GW;rw [if_neg k0,if_neg k1,if_neg k6,if_neg k7,if_neg k2,if_pos k11,hg0]]
  have SHC:=IE (s - r0)
  have RWC:=Fu y.vn y.ve s
  cases hq:inK (s - r0)
  case false =>
   rw [hq] at SHC
   repeat' (with_reducible first|refine qq ?_|(refine Tx 0 ?_;refine Jn xBo ?_;refine Jn xBo ?_;refine Ja ?_)|(refine Tx 1 ?_;refine jF ?_;refine jD ?_;refine Jm ?_;refine Jo (by first|exact xIr Ab (Ak hFi)|exact xIr Ab (Ak hF0)) ?_;refine jD ?_;refine Jn (xAl Bj) ?_;refine Js (by first|exact xS1 Al|exact xSk Al) ?_)|(refine Tx 2 ?_;refine jD ?_;refine Jo xLt ?_;refine Jm ?_;(first|iterate 2 refine Jd ?_|(refine Jy (xLd Al) ?_;refine Jy xGt ?_));refine Jo xPk ?_)|(refine Tx 4 ?_;refine jF ?_;refine jD ?_;refine Jm ?_;refine Jo (xIr Ae (Bo hy)) ?_;refine jA ?_;refine Jn (xAl Aw) ?_;refine Js (xSk Au) ?_)|(refine Tx 5 ?_;refine jF ?_;refine jD ?_;refine Jo xNe ?_;refine Jm ?_;(first|iterate 4 refine Jd ?_|(refine Jy (xFa Cy AM) ?_;refine Jy (xLd AM) ?_;refine Jy (by first|exact xMf [(1,0,none)]|exact Ah rfl (by repeat' first|exact AC rfl rfl|refine Ay rfl rfl rfl ?_)) ?_;refine Jy (by exact DV Mt Tryz.func213 CTN HC) ?_));refine Jo xPk ?_)|(refine Tx 7 ?_;refine Jo (by first|exact Dq rfl|exact Da rfl rfl) ?_)|(refine Tx 8 ?_;refine Jo (by first|exact xMf [(2,0,none)]|exact Ah rfl (by repeat' first|exact AC rfl rfl|refine Ay rfl rfl rfl ?_)) ?_;refine Ja ?_)|(refine Tx 9 ?_;refine jF ?_;refine jD ?_)|(refine Tx 10 ?_;refine Jo xEq ?_;refine Ja ?_)|(refine Tx 12 ?_;refine Jo xEq ?_;refine Ja ?_)|(refine Tx 14 ?_;refine Jo xEq ?_;refine Ja ?_)|(refine Tx 16 ?_;refine Jo xEq ?_;refine Ja ?_)|(refine Tx 18 ?_;refine Jo xEq ?_;refine Ja ?_)|(refine Tx 20 ?_;refine Jo xEq ?_;refine Ja ?_)|(refine AZ (id:=21) AK (by kernel_rfl) ?_;refine Km ?_;refine kD ?_;refine kF ?_;refine kD ?_;refine kF ?_;refine kD ?_;refine Ko (xIr Ab (Ak hA0)) ?_;refine kD ?_;refine Ko (by first|exact xIr Ab (Ak hFi)|exact xIr Ab (Ak hF0)) ?_;refine kD ?_;refine Ko xSb ?_;refine Ko (xCc Tryz.func215 SHC (args:=[_]) rfl) ?_;refine Km ?_;(first|iterate 4 refine Kd ?_|(refine Ky xM1 ?_;refine Ky (xFa CG AI) ?_;refine Ky (xLa AI) ?_;refine Ky (xCc Tryz.func216 RWC (args:=[_]) rfl) ?_));refine Ko xPk ?_;refine Km ?_;(first|iterate 4 refine Kd ?_|(refine Ky xM1 ?_;refine Ky (xFa CH AI) ?_;refine Ky (xLa AI) ?_;refine Ky (xCc Tryz.func216 (Fu y.un y.ue s) (args:=[_]) rfl) ?_));refine Ko xPk ?_;refine Ka ?_;refine Ke ?_))
   exact Ap rfl (.cons_ (BL rfl (by rw [Bool.false_and,Bool.false_and])) .nil_)
  case true =>
   rw [hq] at SHC
   cases hq2:rwB y.vn y.ve s
   case false =>
    rw [hq2] at RWC
    repeat' (with_reducible first|refine qq ?_|(refine Tx 0 ?_;refine Jn xBo ?_;refine Jn xBo ?_;refine Ja ?_)|(refine Tx 1 ?_;refine jF ?_;refine jD ?_;refine Jm ?_;refine Jo (by first|exact xIr Ab (Ak hFi)|exact xIr Ab (Ak hF0)) ?_;refine jD ?_;refine Jn (xAl Bj) ?_;refine Js (by first|exact xS1 Al|exact xSk Al) ?_)|(refine Tx 2 ?_;refine jD ?_;refine Jo xLt ?_;refine Jm ?_;(first|iterate 2 refine Jd ?_|(refine Jy (xLd Al) ?_;refine Jy xGt ?_));refine Jo xPk ?_)|(refine Tx 4 ?_;refine jF ?_;refine jD ?_;refine Jm ?_;refine Jo (xIr Ae (Bo hy)) ?_;refine jA ?_;refine Jn (xAl Aw) ?_;refine Js (xSk Au) ?_)|(refine Tx 5 ?_;refine jF ?_;refine jD ?_;refine Jo xNe ?_;refine Jm ?_;(first|iterate 4 refine Jd ?_|(refine Jy (xFa Cy AM) ?_;refine Jy (xLd AM) ?_;refine Jy (by first|exact xMf [(1,0,none)]|exact Ah rfl (by repeat' first|exact AC rfl rfl|refine Ay rfl rfl rfl ?_)) ?_;refine Jy (by exact DV Mt Tryz.func213 CTN HC) ?_));refine Jo xPk ?_)|(refine Tx 7 ?_;refine Jo (by first|exact Dq rfl|exact Da rfl rfl) ?_)|(refine Tx 8 ?_;refine Jo (by first|exact xMf [(2,0,none)]|exact Ah rfl (by repeat' first|exact AC rfl rfl|refine Ay rfl rfl rfl ?_)) ?_;refine Ja ?_)|(refine Tx 9 ?_;refine jF ?_;refine jD ?_)|(refine Tx 10 ?_;refine Jo xEq ?_;refine Ja ?_)|(refine Tx 12 ?_;refine Jo xEq ?_;refine Ja ?_)|(refine Tx 14 ?_;refine Jo xEq ?_;refine Ja ?_)|(refine Tx 16 ?_;refine Jo xEq ?_;refine Ja ?_)|(refine Tx 18 ?_;refine Jo xEq ?_;refine Ja ?_)|(refine Tx 20 ?_;refine Jo xEq ?_;refine Ja ?_)|(refine AZ (id:=21) AK (by kernel_rfl) ?_;refine Km ?_;refine kD ?_;refine kF ?_;refine kD ?_;refine kF ?_;refine kD ?_;refine Ko (xIr Ab (Ak hA0)) ?_;refine kD ?_;refine Ko (by first|exact xIr Ab (Ak hFi)|exact xIr Ab (Ak hF0)) ?_;refine kD ?_;refine Ko xSb ?_;refine Ko (xCc Tryz.func215 SHC (args:=[_]) rfl) ?_;refine Km ?_;(first|iterate 4 refine Kd ?_|(refine Ky xM1 ?_;refine Ky (xFa CG AI) ?_;refine Ky (xLa AI) ?_;refine Ky (xCc Tryz.func216 RWC (args:=[_]) rfl) ?_));refine Ko xPk ?_;refine Km ?_;(first|iterate 4 refine Kd ?_|(refine Ky xM1 ?_;refine Ky (xFa CH AI) ?_;refine Ky (xLa AI) ?_;refine Ky (xCc Tryz.func216 (Fu y.un y.ue s) (args:=[_]) rfl) ?_));refine Ko xPk ?_;refine Ka ?_;refine Ke ?_))
    exact Ap rfl (.cons_ (BL rfl (by rw [Bool.true_and,Bool.false_and])) .nil_)
   case true =>
    rw [hq2] at RWC
    repeat' (with_reducible first|refine qq ?_|(refine Tx 0 ?_;refine Jn xBo ?_;refine Jn xBo ?_;refine Ja ?_)|(refine Tx 1 ?_;refine jF ?_;refine jD ?_;refine Jm ?_;refine Jo (by first|exact xIr Ab (Ak hFi)|exact xIr Ab (Ak hF0)) ?_;refine jD ?_;refine Jn (xAl Bj) ?_;refine Js (by first|exact xS1 Al|exact xSk Al) ?_)|(refine Tx 2 ?_;refine jD ?_;refine Jo xLt ?_;refine Jm ?_;(first|iterate 2 refine Jd ?_|(refine Jy (xLd Al) ?_;refine Jy xGt ?_));refine Jo xPk ?_)|(refine Tx 4 ?_;refine jF ?_;refine jD ?_;refine Jm ?_;refine Jo (xIr Ae (Bo hy)) ?_;refine jA ?_;refine Jn (xAl Aw) ?_;refine Js (xSk Au) ?_)|(refine Tx 5 ?_;refine jF ?_;refine jD ?_;refine Jo xNe ?_;refine Jm ?_;(first|iterate 4 refine Jd ?_|(refine Jy (xFa Cy AM) ?_;refine Jy (xLd AM) ?_;refine Jy (by first|exact xMf [(1,0,none)]|exact Ah rfl (by repeat' first|exact AC rfl rfl|refine Ay rfl rfl rfl ?_)) ?_;refine Jy (by exact DV Mt Tryz.func213 CTN HC) ?_));refine Jo xPk ?_)|(refine Tx 7 ?_;refine Jo (by first|exact Dq rfl|exact Da rfl rfl) ?_)|(refine Tx 8 ?_;refine Jo (by first|exact xMf [(2,0,none)]|exact Ah rfl (by repeat' first|exact AC rfl rfl|refine Ay rfl rfl rfl ?_)) ?_;refine Ja ?_)|(refine Tx 9 ?_;refine jF ?_;refine jD ?_)|(refine Tx 10 ?_;refine Jo xEq ?_;refine Ja ?_)|(refine Tx 12 ?_;refine Jo xEq ?_;refine Ja ?_)|(refine Tx 14 ?_;refine Jo xEq ?_;refine Ja ?_)|(refine Tx 16 ?_;refine Jo xEq ?_;refine Ja ?_)|(refine Tx 18 ?_;refine Jo xEq ?_;refine Ja ?_)|(refine Tx 20 ?_;refine Jo xEq ?_;refine Ja ?_)|(refine AZ (id:=21) AK (by kernel_rfl) ?_;refine Km ?_;refine kD ?_;refine kF ?_;refine kD ?_;refine kF ?_;refine kD ?_;refine Ko (xIr Ab (Ak hA0)) ?_;refine kD ?_;refine Ko (by first|exact xIr Ab (Ak hFi)|exact xIr Ab (Ak hF0)) ?_;refine kD ?_;refine Ko xSb ?_;refine Ko (xCc Tryz.func215 SHC (args:=[_]) rfl) ?_;refine Km ?_;(first|iterate 4 refine Kd ?_|(refine Ky xM1 ?_;refine Ky (xFa CG AI) ?_;refine Ky (xLa AI) ?_;refine Ky (xCc Tryz.func216 RWC (args:=[_]) rfl) ?_));refine Ko xPk ?_;refine Km ?_;(first|iterate 4 refine Kd ?_|(refine Ky xM1 ?_;refine Ky (xFa CH AI) ?_;refine Ky (xLa AI) ?_;refine Ky (xCc Tryz.func216 (Fu y.un y.ue s) (args:=[_]) rfl) ?_));refine Ko xPk ?_;refine Ka ?_;refine Ke ?_))
    exact Ap rfl (.cons_ (BL rfl (by rw [Bool.true_and,Bool.true_and])) .nil_)
 have hb:GW ps c.F y s=y.args.all fun a=>inK (s - sG c.F a):=by unfold GW;rw [if_neg k0,if_neg k1,if_neg k6,if_neg k7,if_neg k2,if_neg k11]
 rw [hb]
 repeat' (with_reducible first|refine qq ?_|(refine Tx 0 ?_;refine Jn xBo ?_;refine Jn xBo ?_;refine Ja ?_)|(refine Tx 1 ?_;refine jF ?_;refine jD ?_;refine Jm ?_;refine Jo (xIr Ab (Ak hFi)) ?_;refine jD ?_;refine Jn (xAl Bj) ?_;refine Js (by first|exact xS1 Al|exact xSk Al) ?_)|(refine Tx 2 ?_;refine jD ?_;refine Jo xLt ?_;refine Jm ?_;(first|iterate 2 refine Jd ?_|(refine Jy (xLd Al) ?_;refine Jy xGt ?_));refine Jo xPk ?_)|(refine Tx 4 ?_;refine jF ?_;refine jD ?_;refine Jm ?_;refine Jo (xIr Ae (Bo hy)) ?_;refine jA ?_;refine Jn (xAl Aw) ?_;refine Js (xSk Au) ?_)|(refine Tx 5 ?_;refine jF ?_;refine jD ?_;refine Jo xNe ?_;refine Jm ?_;(first|iterate 4 refine Jd ?_|(refine Jy (xFa Cy AM) ?_;refine Jy (xLd AM) ?_;refine Jy (by first|exact xMf [(1,0,none)]|exact Ah rfl (by repeat' first|exact AC rfl rfl|refine Ay rfl rfl rfl ?_)) ?_;refine Jy (by exact DV Mt Tryz.func213 CTN HC) ?_));refine Jo xPk ?_)|(refine Tx 7 ?_;refine Jo (by first|exact Dq rfl|exact Da rfl rfl) ?_)|(refine Tx 8 ?_;refine Jo (by first|exact xMf [(2,0,none)]|exact Ah rfl (by repeat' first|exact AC rfl rfl|refine Ay rfl rfl rfl ?_)) ?_;refine Ja ?_)|(refine Tx 9 ?_;refine jF ?_;refine jD ?_)|(refine Tx 10 ?_;refine Jo xEq ?_;refine Ja ?_)|(refine Tx 12 ?_;refine Jo xEq ?_;refine Ja ?_)|(refine Tx 14 ?_;refine Jo xEq ?_;refine Ja ?_)|(refine Tx 16 ?_;refine Jo xEq ?_;refine Ja ?_)|(refine Tx 18 ?_;refine Jo xEq ?_;refine Ja ?_)|(refine Tx 20 ?_;refine Jo xEq ?_;refine Ja ?_)|(refine Tx 22 ?_;refine jF ?_;refine jD ?_;refine jN ?_;refine Jm ?_))
 refine CF (F':=ofL [(4,vr 1),(7,vr 2),(9,.one (.clo (.func 215) [])),(150,vd (BQ t y.args)),(151,vi y.args.length),(152,vi ((0:Nat)))]) (H':=[.box 26 [.d (Fk t ps),.d (EX t bs),.d (BQ t os)],.box 30 [.d (BQ u c.F),.d (.row false 6 c.R.length (AN (dIw false) c.R)),.d (.row false 3 c.E.length (AN dyP c.E))],.box 3 [.d (.val (.int .i64 s))]]) (BM _ 3 ?_ ?_ ?_) ?_
 ·rfl
 ·exact mB rfl rfl
 ·exact ⟨AF rfl,AF rfl,AF rfl,trivial⟩
 refine Bp (fun n Fr H=>∃ k:Nat,k≤y.args.length∧n=y.args.length - k∧(y.args.take k).all (fun a=>inK (s - sG c.F a))=true∧Fr=ofL [(4,vr 1),(7,vr 2),(9,.one (.clo (.func 215) [])),(150,vd (BQ t y.args)),(151,vi y.args.length),(152,vi ((k:Nat)))]∧H=[.box 26 [.d (Fk t ps),.d (EX t bs),.d (BQ t os)],.box 30 [.d (BQ u c.F),.d (.row false 6 c.R.length (AN (dIw false) c.R)),.d (.row false 3 c.E.length (AN dyP c.E))],.box 3 [.d (.val (.int .i64 s))]]) (n0:=y.args.length) ⟨0,Nat.zero_le _,rfl,rfl,rfl,rfl⟩ ?_
 clear HC CTN
 rintro n Fr H ⟨k,hk,rfl,hal,rfl,rfl⟩
 by_cases hlt:k<y.args.length
 case pos =>
  obtain ⟨z,hz⟩:∃ z,y.args[k]?=some z:=⟨_,List.getElem?_eq_getElem hlt⟩
  have hzm:=List.mem_of_getElem? hz
  have hzb:=B.all k0 z hzm
  have hzr:=hall z hzm
  obtain ⟨m,rfl⟩:∃ m:Nat,z=(m:Int):=⟨z.toNat,by omega⟩
  have hFm:=Hc (F:=c.F) (k:=m) (by omega)
  rw [show sG c.F ((m:Nat):Int)=scA c.F m by unfold sG;rw [Int.toNat_natCast]] at hzr
  have SHC:=IE (s - scA c.F m)
  cases hq:inK (s - scA c.F m)
  case false =>
   rw [hq] at SHC
   repeat' (with_reducible first|refine qq ?_|(refine Tx 23 ?_;refine Jo xLt ?_)|(refine Tx 24 ?_;refine Jo (by first|exact xIr Ab (Ak hz)|exact xIr Ab (Ak hFm)) ?_;refine jD ?_;refine Ja ?_)|(refine AZ (id:=25) AK (by kernel_rfl) ?_;refine Km ?_;refine kD ?_;refine kF ?_;refine kD ?_;refine Km ?_;refine Ko (by first|exact xIr Ab (Ak hz)|exact xIr Ab (Ak hFm)) ?_;refine kD ?_;refine Ko xSb ?_;refine Ko (xCc Tryz.func215 SHC (args:=[_]) rfl) ?_;refine Ko (by first|exact xNt|exact xNg) ?_;refine Ke ?_)|(refine Tx 26 ?_;refine Ja ?_))
   exact Ap rfl (.cons_ (BL rfl ((IU (p:=fun a=>inK (s - sG c.F a)) hz hq).symm)) .nil_)
  rw [hq] at SHC
  repeat' (with_reducible first|refine qq ?_|(refine Tx 23 ?_;refine Jo xLt ?_)|(refine Tx 24 ?_;refine Jo (by first|exact xIr Ab (Ak hz)|exact xIr Ab (Ak hFm)) ?_;refine jD ?_;refine Ja ?_)|(refine AZ (id:=25) AK (by kernel_rfl) ?_;refine Km ?_;refine kD ?_;refine kF ?_;refine kD ?_;refine Km ?_;refine Ko (by first|exact xIr Ab (Ak hz)|exact xIr Ab (Ak hFm)) ?_;refine kD ?_;refine Ko xSb ?_;refine Ko (xCc Tryz.func215 SHC (args:=[_]) rfl) ?_;refine Ko (by first|exact xNt|exact xNg) ?_;refine Ke ?_)|(refine Tx 27 ?_;refine Jo xAd ?_;refine Jm ?_))
  refine ⟨_,_,BM _ 3 ?_ ?_ ?_,_,by omega,k+1,by omega,rfl,Hp (p:=fun a=>inK (s - sG c.F a)) hz hal hq,rfl,rfl⟩
  ·rfl
  ·exact mB rfl rfl
  ·exact ⟨AF rfl,AF rfl,AF rfl,trivial⟩
 obtain rfl:k=y.args.length:=by omega
 rw [List.take_length] at hal
 repeat' (with_reducible first|refine qq ?_|(refine Tx 23 ?_;refine Jo xLt ?_)|(refine Tx 28 ?_;refine Ja ?_))
 exact Ap rfl (.cons_ (BL rfl (hal.symm)) .nil_)
end Go.Proofs.YtmdfjbpggbhgnaaGreatDoor
