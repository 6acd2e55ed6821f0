/- What the proofs of this claim share, part 16. No conditions. -/
import Derived.Test.YtjlkgfeepocjfaaGreatDoorMk15
import Derived.Test.YtjlkgfeepocjfaaGreatDoorMk10
import Derived.Test.YtjlkgfeepocjfaaGreatDoorMk11
import Derived.Test.YtjlkgfeepocjfaaGreatDoorMk9
import Derived.Test.YtjlkgfeepocjfaaGreatDoorMk12
set_option maxRecDepth 100000
set_option maxHeartbeats 4000000
set_option linter.all false
open Go.Proofs.Tryz
namespace Go.Proofs.YtjlkgfeepocjfaaGreatDoor
open Go.RowKit
variable {a r:Iq} {i id j n t:Nat} {p p':Prop} {H:List Ob} {l:List (Option Iq)} {y:Bk} {ps:List Prt} {bs:List Bk} {os:List Int} {st:List (Iq)} {s:Int} {q:Rv × Rv} {w:Bool} {V:List Iq} {E:List Pq}
def Aif (r s:Rv):Iq:=if ivR r s=true then (rvP r,rvP s) else ((0,0),(0,0))
theorem UA {b:Iq} {d n' d':Nat} (h:IwS a n d) (k:IwS b n' d') (e1:gv a.1=gv b.1) (e2:gv a.2=gv b.2):a=b:=Prod.ext (Nu h.s1.ok k.s1.ok e1) (Nu h.s2.ok k.s2.ok e2)
section
variable {a b:Iq} {n d:Nat}
theorem AgB (h:IwS a n d):CI [Em a.1,Em a.2]=ZS a:=by
 obtain ⟨e1,e2,e3⟩:=EK h.s1.neg h.s2.neg
 refine UA e3 h.neg ?_ ?_
 ·rw [e1];show _=gv (Em a.2);rw [El,El];have:=h.le;omega
 ·rw [e2];show _=gv (Em a.1);rw [El,El];have:=h.le;omega
theorem AgC (h:IwS a n d) (k:IwS b n d) (hd:d≤65536):CI [DP a.1 b.1,DP a.2 b.2]=Aav a b:=by
 have s:=h.add k hd
 obtain ⟨e1,e2,e3⟩:=EK s.s1 s.s2
 have hle:=s.le
 refine UA e3 s ?_ ?_
 ·rw [show gv (CI [DP a.1 b.1,DP a.2 b.2]).1=_ from e1];omega
 ·rw [show gv (CI [DP a.1 b.1,DP a.2 b.2]).2=_ from e2];omega
theorem AgD (h:IwS a n d):(if iIn ((0,0),(0,0)) a=true then ((0,0),(CI [GF a.1,GF a.2]).2) else CI [GF a.1,GF a.2])=QX a:=by
 obtain ⟨e1,e2,e3⟩:=EK h.s1.abs h.s2.abs
 rw [Pw,Pw] at e1 e2
 have hi:=Mq (a:=((0,0),(0,0))) (.pt (Sm.zero n d)) h
 rw [GE] at hi
 have hle:=h.le
 by_cases hc:gv a.1≤0∧0≤gv a.2
 ·rw [if_pos (by rw [hi];exact decide_eq_true hc)]
  unfold QX
  by_cases h2:a.1.1<0∧0<a.2.1
  ·rw [if_pos h2]
  ·rw [if_neg h2]
   have h2':¬ (gv a.1<0∧0<gv a.2):=fun h=>h2 ⟨XU.2 h.1,XV.2 h.2⟩
   refine Prod.ext (Nu (Sm.zero n d).ok e3.s1.ok ?_) rfl
   rw [e1];show gv (0,0)=_;rw [GE];omega
 ·rw [if_neg (by rw [hi,decide_eq_false hc];exact Bool.false_ne_true)]
  unfold QX
  rw [if_neg fun h=>hc ⟨by have:=XU.1 h.1;omega,by have:=XV.1 h.2;omega⟩]
theorem Adm {v u:Pq} (h:IwS a n d) (hv:Sm v n d) (hu:Sm u n d) (hvu:Gf v u≤0):Aax (v,v) (Aaw (u,u) a)=Qo a v u:=by
 have g:=(Hx hv.le hu.le).1 hvu
 have m:=IwS.min (.pt hu) h
 refine UA (IwS.max (.pt hv) m) (h.clip hv hu) ?_ ?_
 ·show gv (GG v (Qk u a.1))=gv (Qk (GG a.1 v) u)
  rw [EJ hv.le (Sm.min hu h.s1).le,GM hu.le h.s1.le,GM (Sm.max h.s1 hv).le hu.le,EJ h.s1.le hv.le]
  omega
 ·show gv (GG v (Qk u a.2))=gv (Qk (GG a.2 v) u)
  rw [EJ hv.le (Sm.min hu h.s2).le,GM hu.le h.s2.le,GM (Sm.max h.s2 hv).le hu.le,EJ h.s2.le hv.le]
  omega
end
theorem Adn {r s:Rv} (hr:RvL r) (hs:RvL s) (h:ivR r s=true):dIr false (r,s)=dIw false (rvP r,rvP s)∧Nf (rvP r).1 (rvP r).2∧Nf (rvP s).1 (rvP s).2∧gv (rvP r)≤gv (rvP s)∧(Ac (rvP r).1.natAbs).length=r.ws.length∧(Ac (rvP s).1.natAbs).length=s.ws.length:=by
 unfold ivR at h
 rw [ai,ai] at h
 obtain ⟨⟨h1,h2⟩,h3⟩:=h
 obtain ⟨e1,n1,k1⟩:=Wg (t:=false) hr.1 h1
 obtain ⟨e2,n2,k2⟩:=Wg (t:=false) hs.1 h2
 refine ⟨?_,n1,n2,(Hx (p:=rvP r) (q:=rvP s) n1.le n2.le).1 (of_decide_eq_true h3),k1,k2⟩
 show dRv false r++dRv false s=_
 rw [e1,e2]
 rfl
theorem Ado {d:Nat} (h:IwS a n d):Aif (DU a.1) (DU a.2)=a:=by unfold Aif;rw [if_pos (ZU h),GP,GP]
theorem Adp (k:p') (h:Hd9 p'→p:=by with_reducible first|(intro Z9;refine qq ?_;exact Z9.o)|(intro Z9;refine Tx 0 ?_;refine gN xBo <| gO xA ?_;exact Z9.o)|(intro Z9;refine Tx 1 ?_;refine gO xL <| gO (xCl func76 (PX)) <| gZ (xSk Aa) ?_;exact Z9.o)|(intro Z9;refine Tx 2 ?_;refine gO xF <| gO xD <| gO xN <| gO xEq ?_;exact Z9.o)|fail):p:=h ⟨k⟩
theorem AgE (x:Int) (dx:Nat) (hnx:Nf x dx) (lx:(Ac x.natAbs).length≤40000):CV prog Ah 179 [aDy false x dx] [aI (sgI x)]:=by
 refine cvz func179 ntmps179 ?_
 have PX:=Pj Ah x dx hnx (lT lx (by decide))
 by_cases c0:x=0
 case pos =>
  have l0:((Ac x.natAbs).length:Int)=0:=by rw [show x.natAbs=0 by omega,AK];rfl
  have hdx:decide (x<0)=false:=decide_eq_false (by omega)
  unfold aDy dDy at PX ⊢
  rw [hdx] at PX ⊢
  rw [show sgI x=0 by unfold sgI;(repeat' split) <;> omega]
  repeat' (with_reducible first|refine Adp ?_|(refine Tx 3 ?_;refine gO xA ?_))
  exact Au rfl (.cons_ (Lw rfl rfl) .nil_)
 by_cases cm1:x<0
 case pos =>
  have l0:¬ ((Ac x.natAbs).length:Int)=0:=fun hc=>by have:=Cy (n:=x.natAbs) (by omega);omega
  have hdx:decide (x<0)=true:=decide_eq_true (by omega)
  unfold aDy dDy at PX ⊢
  rw [hdx] at PX ⊢
  rw [show sgI x = -1 by unfold sgI;(repeat' split) <;> omega]
  repeat' (with_reducible first|refine Adp ?_|(refine Tx 4 ?_;refine gO xF <| gO xD ?_)|(refine Tx 5 ?_;refine gO xA ?_))
  exact Au rfl (.cons_ (Lw rfl rfl) .nil_)
 have l0:¬ ((Ac x.natAbs).length:Int)=0:=fun hc=>by have:=Cy (n:=x.natAbs) (by omega);omega
 have hdx:decide (x<0)=false:=decide_eq_false (by omega)
 unfold aDy dDy at PX ⊢
 rw [hdx] at PX ⊢
 rw [show sgI x=1 by unfold sgI;(repeat' split) <;> omega]
 repeat' (with_reducible first|refine Adp ?_|(refine Tx 4 ?_;refine gO xF <| gO xD ?_)|(refine Tx 6 ?_;refine gO xA ?_))
 exact Au rfl (.cons_ (Lw rfl rfl) .nil_)
theorem Aig (k:p') (h:Hd9 p'→p:=by with_reducible first|(intro Z9;refine Tx 1 ?_;refine gO xF <| gO xL <| gO (xCl func163 (V1)) <| gO xM ?_;(first|iterate 3 refine Jd ?_|(refine Jy (xFa AI Aa) ?_;refine Jy (xLa Aa) ?_;refine Jy (xCl func163 (V2)) ?_));refine gO xPk <| gO xM ?_;(first|iterate 6 refine Jd ?_|(refine Jy (xFa CO Aa) ?_;refine Jy (xLa Aa) ?_;refine Jy (xFa AI Aa) ?_;refine Jy (xLa Aa) ?_;refine Jy (xCl func115 (CM)) ?_;refine Jy xLe ?_));refine gO xPk <| gO xA ?_;exact Z9.o)|fail):p:=h ⟨k⟩
theorem Nk (r s:Rv) (hr:RvL r) (hs:RvL s):CV prog Ah 107 [.agg (dIr false (r,s))] [aB (ivR r s)]:=by
 refine cvz func107 ntmps107 ?_
 have V1:=(Ul (G:=Ah) false r hr.1 (lT hr.2 (by decide))).cv
 have V2:=(Ul (G:=Ah) false s hs.1 (lT hs.2 (by decide))).cv
 by_cases c1:vdB r.rw=true
 case neg =>
  rw [ay] at c1
  rw [c1] at V1
  repeat' (with_reducible first|refine qq ?_|(refine Tx 0 ?_;refine gN xBo <| gO xA ?_)|(refine Tx 1 ?_;refine gO xF <| gO xL <| gO (xCl func163 (V1)) <| gO xM ?_;(first|iterate 3 refine Jd ?_|(refine Jy (xFa AI Aa) ?_;refine Jy (xLa Aa) ?_;refine Jy (xCl func163 (V1)) ?_));refine gO xPk <| gO xM ?_;(first|iterate 4 refine Jd ?_|(refine Jy (xFa CO Aa) ?_;refine Jy (xLa Aa) ?_;refine Jy (xFa AI Aa) ?_;refine Jy (xLa Aa) ?_));refine Jd ?_;(first|refine Jd ?_|refine Jy xLe ?_);refine gO xPk <| gO xA ?_))
  exact Au rfl (.cons_ (Db rfl (by unfold ivR;rw [c1];rfl)) .nil_)
 by_cases c2:vdB s.rw=true
 case neg =>
  rw [ay] at c2
  rw [c1] at V1
  rw [c2] at V2
  repeat' (with_reducible first|refine qq ?_|(refine Tx 0 ?_;refine gN xBo <| gO xA ?_)|(refine Tx 1 ?_;refine gO xF <| gO xL <| gO (xCl func163 (V1)) <| gO xM ?_;(first|iterate 3 refine Jd ?_|(refine Jy (xFa AI Aa) ?_;refine Jy (xLa Aa) ?_;refine Jy (xCl func163 (V2)) ?_));refine gO xPk <| gO xM ?_;(first|iterate 4 refine Jd ?_|(refine Jy (xFa CO Aa) ?_;refine Jy (xLa Aa) ?_;refine Jy (xFa AI Aa) ?_;refine Jy (xLa Aa) ?_));refine Jd ?_;(first|refine Jd ?_|refine Jy xLe ?_);refine gO xPk <| gO xA ?_))
  exact Au rfl (.cons_ (Db rfl (by unfold ivR;rw [c1,c2];rfl)) .nil_)
 rw [c1] at V1
 rw [c2] at V2
 obtain ⟨e1,n1,k1⟩:=Wg (t:=false) hr.1 c1
 obtain ⟨e2,n2,k2⟩:=Wg (t:=false) hs.1 c2
 have CM:=(Ef (G:=Ah) false false r.rw.x r.rw.d s.rw.x s.rw.d n1 n2 (lT (gz k1) (lT hr.2 (by decide))) (lT (gz k2) (lT hs.2 (by decide)))).cv
 unfold aDy at CM
 rw [←e1,←e2] at CM
 by_cases c3:Bm r.rw.x r.rw.d s.rw.x s.rw.d≤0
 case pos =>
  repeat' (with_reducible first|refine qq ?_|(refine Tx 0 ?_;refine gN xBo <| gO xA ?_)|refine Aig ?_)
  exact Au rfl (.cons_ (Db rfl (by unfold ivR;rw [c1,c2,decide_eq_true c3];rfl)) .nil_)
 case neg =>
  repeat' (with_reducible first|refine qq ?_|(refine Tx 0 ?_;refine gN xBo <| gO xA ?_)|refine Aig ?_)
  exact Au rfl (.cons_ (Db rfl (by unfold ivR;rw [c1,c2,decide_eq_false c3];rfl)) .nil_)
theorem rvJ1 {P:Program} {F:Frm} {t:Tmp} {ty ty' k:Nat} (hk:TyK P ty true k) (hi:6=k) (hF:F t=.one (.ref id 0 none):=by with_unfolding_all exact rfl) (hH:H[id]?=some (.box ty' [.d (.val (.bool false)),.d (.val (.slice none 0 0)),.d (.val (.int .i64 0)),.d (.val (.bool false)),.d (.val (.slice none 0 0)),.d (.val (.int .i64 0))]):=by with_unfolding_all exact rfl):RV P F H (.cell t ty) (.agg [.val (.bool false),.row false 1 0 [],.val (.int .i64 0),.val (.bool false),.row false 1 0 [],.val (.int .i64 0)]):=by
 obtain ⟨⟨dd,hu,hd⟩,hz⟩:=hk
 exact .cellA hF hH hu hd (by rw [hz,←hi];rfl) (.cons_ (.d fun _=>.val _) (.cons_ .nil (.cons_ (.d fun _=>.val _) (.cons_ (.d fun _=>.val _) (.cons_ .nil (.cons_ (.d fun _=>.val _) .nil_))))))
theorem BX (h:p:=by
 exact Au rfl (.cons_ (rvJ Ab rfl) .nil_)):p:=h
theorem UB (r s:Rv) (hr:RvL r) (hs:RvL s):CV prog Ah 176 [.agg (dIr false (r,s))] [aIw false (Aif r s)]:=by
 refine cvz func176 ntmps176 ?_
 have V:=Nk r s hr hs
 by_cases c:ivR r s=true
 case pos =>
  rw [show Aif r s=(rvP r,rvP s) from if_pos c]
  rw [c,(Adn hr hs c).1] at V
  rw [(Adn hr hs c).1]
  repeat' (with_reducible first|refine qq ?_|(refine Tx 0 ?_;refine gN xBo <| gN (xAl Ai) ?_)|(refine Tx 1 ?_;refine gO xL <| gO (xCl func107 (V)) ?_)|(refine Tx 2 ?_;refine gO xL <| gZ (xSk Ab) ?_))
  exact BX
 rw [show Aif r s=((0,0),(0,0)) from if_neg c]
 rw [ay] at c
 rw [c] at V
 unfold aIw
 rw [AcQ]
 repeat' (with_reducible first|refine qq ?_|(refine Tx 0 ?_;refine gN xBo <| gN (xAl Ai) ?_)|(refine Tx 1 ?_;refine gO xL <| gO (xCl func107 (V)) ?_)|(refine Tx 3 ?_;refine gO (by exact AF rfl BR rfl rfl) <| gZ (xSk Ab) ?_))
 exact Au rfl (.cons_ (rvJ1 Ab rfl) .nil_)
theorem Cs (a:Iq) {n d:Nat} (h:IwS a n d) (hn:n≤1280000):CV prog Ah 176 [aIw false a] [aIw false a]:=by
 have:=UB (DU a.1) (DU a.2) (Gi h.s1 hn) (Gi h.s2 hn)
 rw [Ado h] at this
 unfold dIr at this
 rwa [Fo,Fo] at this
def IwL (a:Iq):Prop:=(Ac a.1.1.natAbs).length≤1000000∧(Ac a.2.1.natAbs).length≤1000000
theorem IwS.L {d:Nat} (h:IwS a n d) (hn:n≤1280000):IwL a:=⟨lT (h.s1.lenN 40000 (by omega)) (by decide),lT (h.s2.lenN 40000 (by omega)) (by decide)⟩
theorem Aih (k:p') (h:Hd9 p'→p:=by with_reducible first|(intro Z9;refine Tx 1 ?_;refine gO xF <| gO xL <| gO xF <| gO xL <| gO (xCl func99 (S1)) <| gO xM ?_;(first|iterate 5 refine Jd ?_|(refine Jy (xFa AI Aa) ?_;refine Jy (xLa Aa) ?_;refine Jy (xFa AI Aa) ?_;refine Jy (xLa Aa) ?_;refine Jy (xCl func99 (S2)) ?_));refine gO xPk <| gO xA ?_;exact Z9.o)|fail):p:=h ⟨k⟩
theorem Adq (a b:Iq) (ha:IwL a) (hb:IwL b):CV prog Ah 98 [aIw false a,aIw false b] [aB (decide (a=b))]:=by
 refine cvz func98 ntmps98 ?_
 have S1:=GH false false a.1 b.1 ha.1 hb.1
 have S2:=GH false false a.2 b.2 ha.2 hb.2
 by_cases c1:a.1=b.1
 case neg =>
  rw [decide_eq_false c1] at S1
  repeat' (with_reducible first|refine qq ?_|(refine Tx 0 ?_;refine gN xBo <| gN xBo <| gO xA ?_)|(refine Tx 1 ?_;refine gO xF <| gO xL <| gO xF <| gO xL <| gO (xCl func99 (S1)) <| gO xM ?_;(first|iterate 4 refine Jd ?_|(refine Jy (xFa AI Aa) ?_;refine Jy (xLa Aa) ?_;refine Jy (xFa AI Aa) ?_;refine Jy (xLa Aa) ?_));refine Jd ?_;refine gO xPk <| gO xA ?_))
  exact Au rfl (.cons_ (Db rfl ((decide_eq_false fun h=>c1 (by rw [h])).symm)) .nil_)
 rw [decide_eq_true c1] at S1
 by_cases c2:a.2=b.2
 case pos =>
  rw [decide_eq_true c2] at S2
  repeat' (with_reducible first|refine qq ?_|(refine Tx 0 ?_;refine gN xBo <| gN xBo <| gO xA ?_)|refine Aih ?_)
  exact Au rfl (.cons_ (Db rfl ((decide_eq_true (Prod.ext c1 c2)).symm)) .nil_)
 case neg =>
  rw [decide_eq_false c2] at S2
  repeat' (with_reducible first|refine qq ?_|(refine Tx 0 ?_;refine gN xBo <| gN xBo <| gO xA ?_)|refine Aih ?_)
  exact Au rfl (.cons_ (Db rfl ((decide_eq_false fun h=>c2 (by rw [h])).symm)) .nil_)
theorem Fd (p:Pq) (hn:Nf p.1 p.2) (hl:(Ac p.1.natAbs).length≤40000):CV prog Ah 101 [aDy false p.1 p.2] [aIw false (p,p)]:=by
 refine cvz func101 ntmps101 ?_
 have NM:=Pj Ah p.1 p.2 hn (lT hl (by decide))
 repeat' (with_reducible first|refine qq ?_|(refine Tx 0 ?_;refine gN xBo <| gN (xAl Ai) ?_)|(refine Tx 1 ?_;refine gO xL <| gO (xCl func76 (NM)) <| gZ (xSk Aa) ?_)|(refine Tx 2 ?_;refine gO xL <| gO xL <| gO (by exact AF rfl BR rfl rfl) <| gZ (xSk Ab) ?_))
 exact BX
theorem Gj (t:Bool) (L:List Pq) (hne:L≠[]) (hs:∀ p∈L,Sm p 40064 40000) (hL:L.length≤100):CV prog Ah 162 [.one (.row t 3 L.length (An dyP L))] [aIw false (CI L)]:=by
 refine cvz func162 ntmps162 ?_
 obtain ⟨p,l,rfl⟩:∃ p l,L=p::l:=by cases L with|nil=>exact absurd rfl hne|cons p l=>exact ⟨p,l,rfl⟩
 have hp:=hs p (ig ..)
 have hpl:=lT (hp.lenN 1252 (by decide)) (show 1252≤40000 by decide)
 have PT:=Fd p hp.ok hpl
 have hlen:(p::l).length=l.length+1:=bw
 repeat' (with_reducible first|refine qq ?_|(refine Tx 0 ?_;refine gN (xAl Ai) ?_)|(refine Tx 1 ?_;refine gO xM <| gO (by exact DG (i:=0) rfl rfl rfl rfl Ag (by omega) (by decide) (Yb (l:=p::l) (k:=0) rfl)) <| gO xL <| gO (xCl func101 (PT)) <| gN (xAl Ai) <| gZ (xSk Ab) ?_)|(refine Tx 2 ?_;refine gO xM <| gO (by exact Ux (lo:=1) rfl rfl rfl rfl Ag (by omega)) <| gO xN <| gO xM ?_))
 refine AJ (Be 2) (Al (fun n Fr H=>∃ k:Nat,k≤l.length∧n=l.length - k∧IwS ((l.take (k)).foldl Hy (p,p)) 40064 40000∧Fr=ofL [(2,vr 0),(3,vr 1),(11,vd (.row t 3 ((p::l).length - 1) ((An dyP (p::l)).drop (1*3)))),(12,vi (((p::l).length - 1:Nat))),(13,vi ((k:Nat)))]∧H=[.box 45 [.d (.val (.bool false)),.d (.val (.slice none 0 0)),.d (.val (.int .i64 0)),.d (.val (.bool false)),.d (.val (.slice none 0 0)),.d (.val (.int .i64 0))],.box 45 ((dIw false ((l.take (k)).foldl Hy (p,p))).map C.d)]) (n0:=l.length) ⟨0,ad _,rfl,.pt hp,rfl,rfl⟩ ?_)
 rintro n Fr H ⟨k,hk,rfl,hS,rfl,rfl⟩
 by_cases hlt:k<l.length
 case pos =>
  obtain ⟨x,hx⟩:∃ x,l[k]?=some x:=⟨_,gE hlt⟩
  have hxs:=hs x (gd _ (gM hx))
  have hxl:=lT (lT (hxs.lenN 1252 (by decide)) (show 1252≤40000 by decide)) (show 40000≤50000 by decide)
  have a1:=hS.s1
  have a2:=hS.s2
  have a1l:=lT (lT (a1.lenN 1252 (by decide)) (show 1252≤40000 by decide)) (show 40000≤50000 by decide)
  have a2l:=lT (lT (a2.lenN 1252 (by decide)) (show 1252≤40000 by decide)) (show 40000≤50000 by decide)
  have hnx:Hy ((l.take (k)).foldl Hy (p,p)) x=((l.take (k+1)).foldl Hy (p,p)):=by rw [bh,hx,fp,li];rfl
  have hIS:IwS (Hy ((l.take (k)).foldl Hy (p,p)) x) 40064 40000:=⟨Sm.min a1 hxs,Sm.max a2 hxs,by show gv (Qk _ x)≤gv (GG _ x);rw [GM a1.le hxs.le,EJ a2.le hxs.le];have:=hS.le;omega⟩
  rw [hnx] at hIS
  have hxd:(((An dyP (p::l)).drop (1*3)).drop (k*3)).take 3=dyP x:=by rw [jg,show 1*3+k*3=(k+1)*3 by omega];exact Yb (l:=p::l) (k:=k+1) (by rw [fi];exact hx)
  generalize hT:((l.take (k)).foldl Hy (p,p))=T at *
  have MN:=(Wd Ah false false T.1.1 T.1.2 x.1 x.2 a1.ok hxs.ok a1l hxl).cv
  have MX:=(Hq Ah false false T.2.1 T.2.2 x.1 x.2 a2.ok hxs.ok a2l hxl).cv
  repeat' (with_reducible first|refine qq ?_|(refine Tx 3 ?_;refine gO xLt ?_)|(refine Tx 4 ?_;refine gO (xIr Ag (hxd)) <| gO xL <| gN (xAl Aj) <| gZ (xSk Aa) ?_)|(refine Ax (id:=5) 9 AC (by kernel_rfl) ?_;dsimp only [List.take,List.drop];refine gP xF <| gP xL <| gP xL <| gP (xCl func214 (MN)) <| gP xF <| gP xL <| gP xL <| gP (xCl func117 (MX)) <| gP xF ?_;refine Ke ?_;refine gZ (xSk Aa) <| gO xF <| gZ (xSk Aa) ?_)|(refine Tx 6 ?_;refine gO xAd <| gO xM ?_))
  refine ⟨_,_,Be 2 (hH:=by rw [←hnx];rfl),_,?_,k+1,by omega,rfl,hIS,rfl,rfl⟩
  ·omega
 obtain rfl:k=l.length:=by omega
 clear hlt hk
 rw [aq]
 repeat' (with_reducible first|refine qq ?_|(refine Tx 3 ?_;refine gO xLt ?_)|(refine Tx 7 ?_;refine gO xL <| gZ (xSk Ab) ?_))
 exact BX
theorem Apx (h:p:=by first|exact xCl func34 (O1)|exact xCl func34 (O2)):p:=h
theorem UC (x y:Int) (hx : -9223372036854775807≤x∧x<9223372036854775808) (hy : -9223372036854775807≤y∧y<9223372036854775808):CV prog Ah 74 [aI x,aI y] [aIw false (CI [(x,0),(y,0)])]:=by
 refine cvz func74 ntmps74 ?_
 have O1:=(Nd (G:=Ah) x (by omega) (by omega)).cv
 have O2:=(Nd (G:=Ah) y (by omega) (by omega)).cv
 have s1:Sm (x,0) 40064 40000:=Yc x (by omega)
 have s2:Sm (y,0) 40064 40000:=Yc y (by omega)
 have SP:=Gj true [(x,0),(y,0)] (by simp) (fun p hp=>by simp only [cr,ct,or_false] at hp;rcases hp with rfl|rfl <;> assumption) (ax rfl)
 repeat' (with_reducible first|refine qq ?_|(refine Tx 0 ?_;refine gN (xAl Ai) ?_)|(refine Tx 1 ?_;refine gO xM <| gO Apx <| gO xM <| gO Apx <| gN (by exact Fj rfl Ag Aj rfl rfl rfl rfl (by decide) (by decide)) <| gO (xCl func162 (SP)) <| gZ (xSk Ab) ?_))
 exact BX
theorem Apy (h:p:=by first|exact xCl func105 (N1)|exact xCl func105 (N2)):p:=h
theorem Ye (a:Iq) (h:IwS a 20000 20000):CV prog Ah 184 [aIw false a] [aIw false (ZS a)]:=by
 refine cvz func184 ntmps184 ?_
 have h1:=h.s1
 have h2:=h.s2
 have hl:=lT (h1.l4) (show 40000≤50000 by decide)
 have hm:=lT (h2.l4) (show 40000≤50000 by decide)
 have AR:=Cs a h (by decide)
 have N1:=(LD Ah false a.1.1 a.1.2 h1.ok hl).cv
 have N2:=(LD Ah false a.2.1 a.2.2 h2.ok hm).cv
 have s1:Sm (Em a.1) 40064 40000:=h1.neg.more (by decide) (by decide)
 have s2:Sm (Em a.2) 40064 40000:=h2.neg.more (by decide) (by decide)
 have SP:=Gj true [Em a.1,Em a.2] (by simp) (fun p hp=>by simp only [cr,ct,or_false] at hp;rcases hp with rfl|rfl <;> assumption) (ax rfl)
 rw [AgB h] at SP
 repeat' (with_reducible first|refine qq ?_|(refine Tx 0 ?_;refine gN xBo <| gN (xAl Ai) ?_)|(refine Tx 1 ?_;refine gO xL <| gO (xCl func176 (AR)) <| gZ (xSk Ab) ?_)|(refine Ax (id:=2) 8 AC (by kernel_rfl) ?_;dsimp only [List.take,List.drop];refine gP xF <| gP xL <| gP Apy <| gP xF <| gP xL <| gP Apy <| gQ (by exact Fj rfl Ag Aj rfl rfl rfl rfl (by decide) (by decide)) <| gP (xCl func162 (SP)) ?_;refine Ke ?_;refine gZ (xSk Ab) ?_))
 exact BX
theorem Apz (h:p:=by first|exact xCl func197 (C1)|exact xCl func197 (C2)):p:=h
theorem Adr (r s:Rv) (b:Iq) (hr:RvL r) (hs:RvL s) (h:IwS (Aif r s) 20000 20000) (k:IwS b 20000 20000):CV prog Ah 182 [.agg (dIr false (r,s)),aIw false b] [aIw false (Aav (Aif r s) b)]:=by
 refine cvz func182 ntmps182 ?_
 have NR:=UB r s hr hs
 have h1:=h.s1
 have h2:=h.s2
 have hl:=lT (h1.l4) (show 40000≤50000 by decide)
 have hm:=lT (h2.l4) (show 40000≤50000 by decide)
 have k1:=k.s1
 have k2:=k.s2
 have kl:=lT (k1.l4) (show 40000≤50000 by decide)
 have km:=lT (k2.l4) (show 40000≤50000 by decide)
 generalize Aif r s=a at *
 have AB:=Cs b k (by decide)
 have C1:=(Po Ah false false a.1.1 a.1.2 b.1.1 b.1.2 h1.ok k1.ok hl kl).cv
 have C2:=(Po Ah false false a.2.1 a.2.2 b.2.1 b.2.2 h2.ok k2.ok hm km).cv
 have hs:=h.add k (by decide)
 have s1:=Sm.more (n':=40064) (d':=40000) hs.s1 (by decide) (by decide)
 have s2:=Sm.more (n':=40064) (d':=40000) hs.s2 (by decide) (by decide)
 have SP:=Gj true [DP a.1 b.1,DP a.2 b.2] (by simp) (fun p hp=>by simp only [cr,ct,or_false] at hp;rcases hp with rfl|rfl <;> assumption) (ax rfl)
 rw [AgC h k (by decide)] at SP
 repeat' (with_reducible first|refine qq ?_|(refine Tx 0 ?_;refine gN xBo <| gN xBo <| gN (xAl Ai) ?_)|(refine Ax (id:=1) 4 AC (by kernel_rfl) ?_;dsimp only [List.take,List.drop];refine gP xL <| gP (xCl func176 (NR)) <| gP xL <| gP (xCl func176 (AB)) ?_;refine Ke ?_;refine gZ (xSk Ab) <| gZ (xSk Ab) ?_)|(refine Ax (id:=2) 12 AC (by kernel_rfl) ?_;dsimp only [List.take,List.drop];refine gP xF <| gP xL <| gP xF <| gP xL <| gP Apz <| gP xF <| gP xL <| gP xF <| gP xL <| gP Apz <| gQ (by exact Fj rfl Ag Aj rfl rfl rfl rfl (by decide) (by decide)) <| gP (xCl func162 (SP)) ?_;refine Ke ?_;refine gZ (xSk Ab) ?_))
 exact BX
theorem Yf (a b:Iq) (h:IwS a 20000 20000) (k:IwS b 20000 20000):CV prog Ah 182 [aIw false a,aIw false b] [aIw false (Aav a b)]:=by
 have:=Adr (DU a.1) (DU a.2) b (Gi h.s1 (by decide)) (Gi h.s2 (by decide)) (by rw [Ado h];exact h) k
 rw [Ado h] at this
 unfold dIr at this
 rwa [Fo,Fo] at this
theorem ZX (h:p:=by first|exact xCl func176 (AA)|exact xCl func176 (AB)):p:=h
theorem ApA (h:p:=by first|exact xCl func214 (C1)|exact xCl func214 (C2)):p:=h
theorem Yg (a b:Iq) (h:IwS a 20000 20000) (k:IwS b 20000 20000):CV prog Ah 187 [aIw false a,aIw false b] [aIw false (Aaw a b)]:=by
 refine cvz func187 ntmps187 ?_
 have h1:=h.s1
 have h2:=h.s2
 have hl:=lT (h1.l4) (show 40000≤50000 by decide)
 have hm:=lT (h2.l4) (show 40000≤50000 by decide)
 have k1:=k.s1
 have k2:=k.s2
 have kl:=lT (k1.l4) (show 40000≤50000 by decide)
 have km:=lT (k2.l4) (show 40000≤50000 by decide)
 have AA:=Cs a h (by decide)
 have AB:=Cs b k (by decide)
 have C1:=(Wd Ah false false a.1.1 a.1.2 b.1.1 b.1.2 h1.ok k1.ok hl kl).cv
 have C2:=(Wd Ah false false a.2.1 a.2.2 b.2.1 b.2.2 h2.ok k2.ok hm km).cv
 repeat' (with_reducible first|refine qq ?_|(refine Tx 0 ?_;refine gN xBo <| gN xBo <| gN (xAl Ai) ?_)|(refine Ax (id:=1) 4 AC (by kernel_rfl) ?_;dsimp only [List.take,List.drop];refine gP xL <| gP ZX <| gP xL <| gP ZX ?_;refine Ke ?_;refine gZ (xSk Ab) <| gZ (xSk Ab) ?_)|(refine Ax (id:=2) 11 AC (by kernel_rfl) ?_;dsimp only [List.take,List.drop];refine gP xF <| gP xL <| gP xF <| gP xL <| gP ApA <| gP xF <| gP xL <| gP xF <| gP xL <| gP ApA <| gP (by exact AF rfl BR rfl rfl) ?_;refine Ke ?_;refine gZ (xSk Ab) ?_))
 exact BX
theorem ApB (h:p:=by first|exact xCl func117 (C1)|exact xCl func117 (C2)):p:=h
theorem Yh (a b:Iq) (h:IwS a 20000 20000) (k:IwS b 20000 20000):CV prog Ah 188 [aIw false a,aIw false b] [aIw false (Aax a b)]:=by
 refine cvz func188 ntmps188 ?_
 have h1:=h.s1
 have h2:=h.s2
 have hl:=lT (h1.l4) (show 40000≤50000 by decide)
 have hm:=lT (h2.l4) (show 40000≤50000 by decide)
 have k1:=k.s1
 have k2:=k.s2
 have kl:=lT (k1.l4) (show 40000≤50000 by decide)
 have km:=lT (k2.l4) (show 40000≤50000 by decide)
 have AA:=Cs a h (by decide)
 have AB:=Cs b k (by decide)
 have C1:=(Hq Ah false false a.1.1 a.1.2 b.1.1 b.1.2 h1.ok k1.ok hl kl).cv
 have C2:=(Hq Ah false false a.2.1 a.2.2 b.2.1 b.2.2 h2.ok k2.ok hm km).cv
 repeat' (with_reducible first|refine qq ?_|(refine Tx 0 ?_;refine gN xBo <| gN xBo <| gN (xAl Ai) ?_)|(refine Ax (id:=1) 4 AC (by kernel_rfl) ?_;dsimp only [List.take,List.drop];refine gP xL <| gP ZX <| gP xL <| gP ZX ?_;refine Ke ?_;refine gZ (xSk Ab) <| gZ (xSk Ab) ?_)|(refine Ax (id:=2) 11 AC (by kernel_rfl) ?_;dsimp only [List.take,List.drop];refine gP xF <| gP xL <| gP xF <| gP xL <| gP ApB <| gP xF <| gP xL <| gP xF <| gP xL <| gP ApB <| gP (by exact AF rfl BR rfl rfl) ?_;refine Ke ?_;refine gZ (xSk Ab) ?_))
 exact BX
theorem AgF (h:p:=by first|exact xCl func217 (C0)|exact xCl func217 (C1)|exact xCl func217 (C2)|exact xCl func217 (C3)):p:=h
theorem Yi (a b:Iq) (h:IwS a 20000 20000) (k:IwS b 20000 20000):CV prog Ah 186 [aIw false a,aIw false b] [aIw false (AeS a b)]:=by
 refine cvz func186 ntmps186 ?_
 have h1:=h.s1
 have h2:=h.s2
 have hl:=h1.l4
 have hm:=h2.l4
 have k1:=k.s1
 have k2:=k.s2
 have kl:=k1.l4
 have km:=k2.l4
 have AA:=Cs a h (by decide)
 have AB:=Cs b k (by decide)
 have C0:=Pn a.1.1 a.1.2 b.1.1 b.1.2 h1.ok k1.ok hl kl (by have:=h1.d;have:=k1.d;omega)
 have s0:Sm (CG a.1 b.1) 40064 40000:=(Sm.mul h1 k1 (by decide)).more (by decide) (by decide)
 have C1:=Pn a.1.1 a.1.2 b.2.1 b.2.2 h1.ok k2.ok hl km (by have:=h1.d;have:=k2.d;omega)
 have s1:Sm (CG a.1 b.2) 40064 40000:=(Sm.mul h1 k2 (by decide)).more (by decide) (by decide)
 have C2:=Pn a.2.1 a.2.2 b.1.1 b.1.2 h2.ok k1.ok hm kl (by have:=h2.d;have:=k1.d;omega)
 have s2:Sm (CG a.2 b.1) 40064 40000:=(Sm.mul h2 k1 (by decide)).more (by decide) (by decide)
 have C3:=Pn a.2.1 a.2.2 b.2.1 b.2.2 h2.ok k2.ok hm km (by have:=h2.d;have:=k2.d;omega)
 have s3:Sm (CG a.2 b.2) 40064 40000:=(Sm.mul h2 k2 (by decide)).more (by decide) (by decide)
 have SP:=Gj true [CG a.1 b.1,CG a.1 b.2,CG a.2 b.1,CG a.2 b.2] (by simp) (fun p hp=>by simp only [cr,ct,or_false] at hp;rcases hp with rfl|rfl|rfl|rfl <;> assumption) (ax rfl)
 repeat' (with_reducible first|refine qq ?_|(refine Tx 0 ?_;refine gN xBo <| gN xBo <| gN (xAl Ai) ?_)|(refine Ax (id:=1) 4 AC (by kernel_rfl) ?_;dsimp only [List.take,List.drop];refine gP xL <| gP ZX <| gP xL <| gP ZX ?_;refine Ke ?_;refine gZ (xSk Ab) <| gZ (xSk Ab) ?_)|(refine Ax (id:=2) 22 AC (by kernel_rfl) ?_;dsimp only [List.take,List.drop];refine gP xF <| gP xL <| gP xF <| gP xL <| gP AgF <| gP xF <| gP xL <| gP xF <| gP xL <| gP AgF <| gP xF <| gP xL <| gP xF <| gP xL <| gP AgF <| gP xF <| gP xL <| gP xF <| gP xL <| gP AgF <| gQ (by exact ED rfl rfl Ag Aj (by decide) (by decide) (by decide) rfl rfl rfl) <| gP (xCl func162 (SP)) ?_;refine Ke ?_;refine gZ (xSk Ab) ?_))
 exact BX
theorem ZY (a:Iq) (f:Pq) (h:IwS a 20000 20000) (hf:Sm f 20000 20000):CV prog Ah 185 [aIw false a,aDy false f.1 f.2] [aIw false (IY a f)]:=by
 refine cvz func185 ntmps185 ?_
 have PT:=Fd f hf.ok hf.lz
 have ML:=Yi a (f,f) h (.pt hf)
 repeat' (with_reducible first|refine qq ?_|(refine Tx 0 ?_;refine gN xBo <| gN xBo <| gN (xAl Ai) ?_)|(refine Ax (id:=1) 4 AC (by kernel_rfl) ?_;dsimp only [List.take,List.drop];refine gP xL <| gP xL <| gP (xCl func101 (PT)) <| gP (xCl func186 (ML)) ?_;refine Ke ?_;refine gZ (xSk Ab) ?_))
 exact BX
theorem AgG (a b:Iq) (h:IwS a 20000 20000) (k:IwS b 20000 20000):CV prog Ah 183 [aIw false a,aIw false b] [aIw false (Agq a b)]:=by
 refine cvz func183 ntmps183 ?_
 have NG:=Ye b k
 have AD:=Yf a (ZS b) h k.neg
 repeat' (with_reducible first|refine qq ?_|(refine Tx 0 ?_;refine gN xBo <| gN xBo <| gN (xAl Ai) ?_)|(refine Ax (id:=1) 4 AC (by kernel_rfl) ?_;dsimp only [List.take,List.drop];refine gP xL <| gP xL <| gP (xCl func184 (NG)) <| gP (xCl func182 (AD)) ?_;refine Ke ?_;refine gZ (xSk Ab) ?_))
 exact BX
theorem ApC (h:p:=by first|exact xCl func115 (C1)|exact xCl func115 (C2)):p:=h
theorem Ads (k:p') (h:Hd9 p'→p:=by with_reducible first|(intro Z9;refine qq ?_;exact Z9.o)|(intro Z9;refine Tx 0 ?_;refine gN xBo <| gN xBo <| gO xA ?_;exact Z9.o)|(intro Z9;refine Tx 1 ?_;refine gO xL <| gO (xCl func176 (AA)) <| gZ (xSk Ab) ?_;exact Z9.o)|(intro Z9;refine Tx 2 ?_;refine gO xF <| gO xL <| gO xL <| gO ApC <| gO xLe <| gO xM ?_;(first|iterate 5 refine Jd ?_|(refine Jy (xLa Aa) ?_;refine Jy (xFa AI Aa) ?_;refine Jy (xLa Aa) ?_;refine Jy ApC ?_;refine Jy xLe ?_));refine gO xPk <| gO xA ?_;exact Z9.o)|fail):p:=h ⟨k⟩
theorem EX (a:Iq) (p:Pq) (h:IwS a 20000 20000) (hp:Sm p 20000 20000):CV prog Ah 201 [aIw false a,aDy false p.1 p.2] [aB (iIn (p,p) a)]:=by
 refine cvz func201 ntmps201 ?_
 have h1:=h.s1
 have h2:=h.s2
 have hl:=lT (h1.l4) (show 40000≤50000 by decide)
 have hm:=lT (h2.l4) (show 40000≤50000 by decide)
 have AA:=Cs a h (by decide)
 have hpl:=lT (hp.lenN 625 (by decide)) (show 625≤50000 by decide)
 have C1:=(Ef (G:=Ah) false false a.1.1 a.1.2 p.1 p.2 h1.ok hp.ok hl hpl).cv
 have C2:=(Ef (G:=Ah) false false p.1 p.2 a.2.1 a.2.2 hp.ok h2.ok hpl hm).cv
 by_cases c1:Bm a.1.1 a.1.2 p.1 p.2≤0
 case neg =>
  repeat' (with_reducible first|refine Ads ?_)
  exact Au rfl (.cons_ (Db rfl (by unfold iIn;rw [decide_eq_false c1];rfl)) .nil_)
 by_cases c2:Bm p.1 p.2 a.2.1 a.2.2≤0
 case pos =>
  repeat' (with_reducible first|refine Ads ?_)
  exact Au rfl (.cons_ (Db rfl (by unfold iIn;rw [decide_eq_true c1,decide_eq_true c2];rfl)) .nil_)
 case neg =>
  repeat' (with_reducible first|refine Ads ?_)
  exact Au rfl (.cons_ (Db rfl (by unfold iIn;rw [decide_eq_true c1,decide_eq_false c2];rfl)) .nil_)
theorem Adt (k:p') (h:Hd9 p'→p:=by with_reducible first|(intro Z9;refine qq ?_;exact Z9.o)|(intro Z9;refine Tx 0 ?_;refine gN xBo <| gN xBo <| gO xA ?_;exact Z9.o)|(intro Z9;refine Tx 1 ?_;refine gO xL <| gO (xCl func176 (AA)) <| gZ (xSk Ab) ?_;exact Z9.o)|fail):p:=h ⟨k⟩
theorem Aii (k:p') (h:Hd9 p'→p:=by with_reducible first|(intro Z9;refine Tx 2 ?_;refine gO xL <| gO xF <| gO xL <| gO (xCl func201 (T1)) <| gO xM ?_;(first|iterate 4 refine Jd ?_|(refine Jy (xLa Ab) ?_;refine Jy (xFa AI Aa) ?_;refine Jy (xLa Aa) ?_;refine Jy (xCl func201 (T2)) ?_));refine gO xPk <| gO xA ?_;exact Z9.o)|fail):p:=h ⟨k⟩
theorem LJ (a b:Iq) (h:IwS a 20000 20000) (k:IwS b 20000 20000):CV prog Ah 200 [aIw false a,aIw false b] [aB (iIn a b)]:=by
 refine cvz func200 ntmps200 ?_
 have AA:=Cs a h (by decide)
 have T1:=EX b a.1 k h.s1
 have T2:=EX b a.2 k h.s2
 have g1:=Mq (a:=(a.1,a.1)) (.pt h.s1) k
 have g2:=Mq (a:=(a.2,a.2)) (.pt h.s2) k
 have g3:=Mq h k
 have hle:=h.le
 by_cases c1:gv b.1≤gv a.1∧gv a.1≤gv b.2
 case neg =>
  rw [g1,decide_eq_false c1] at T1
  repeat' (with_reducible first|refine Adt ?_|(refine Tx 2 ?_;refine gO xL <| gO xF <| gO xL <| gO (xCl func201 (T1)) <| gO xM ?_;(first|iterate 3 refine Jd ?_|(refine Jy (xLa Ab) ?_;refine Jy (xFa AI Aa) ?_;refine Jy (xLa Aa) ?_));refine Jd ?_;refine gO xPk <| gO xA ?_))
  exact Au rfl (.cons_ (Db rfl (by rw [g3,decide_eq_false (by omega)])) .nil_)
 by_cases c2:gv b.1≤gv a.2∧gv a.2≤gv b.2
 case pos =>
  rw [g1,decide_eq_true c1] at T1
  rw [g2,decide_eq_true c2] at T2
  repeat' (with_reducible first|refine Adt ?_|refine Aii ?_)
  exact Au rfl (.cons_ (Db rfl (by rw [g3,decide_eq_true (by omega)])) .nil_)
 case neg =>
  rw [g1,decide_eq_true c1] at T1
  rw [g2,decide_eq_false c2] at T2
  repeat' (with_reducible first|refine Adt ?_|refine Aii ?_)
  exact Au rfl (.cons_ (Db rfl (by rw [g3,decide_eq_false (by omega)])) .nil_)
theorem ApD (h:p:=by first|exact xCl func194 (A1)|exact xCl func194 (A2)):p:=h
theorem Aij (k:p') (h:Hd9 p'→p:=by with_reducible first|(intro Z9;refine qq ?_;exact Z9.o)|(intro Z9;refine Tx 0 ?_;refine gN xBo <| gN (xAl Ai) ?_;exact Z9.o)|(intro Z9;refine Tx 1 ?_;refine gO xL <| gO (xCl func176 (AR)) <| gZ (xSk Ab) ?_;exact Z9.o)|(intro Z9;refine Ax (id:=2) 9 AC (by kernel_rfl) ?_;dsimp only [List.take,List.drop];refine gP xF <| gP xL <| gP ApD <| gP xF <| gP xL <| gP ApD <| gQ (by exact Fj rfl Ag Aj rfl rfl rfl rfl (by decide) (by decide)) <| gP (xCl func162 (SP)) <| gQ (xAl Ai) ?_;refine Ke ?_;refine gZ (xSk Ab) ?_;exact Z9.o)|(intro Z9;refine Tx 3 ?_;refine gO xL <| gO (by exact AF rfl Ga rfl rfl) <| gO (xCl func201 (CT)) ?_;exact Z9.o)|(intro Z9;refine Tx 5 ?_;refine gO xL <| gZ (xSk Ab) ?_;exact Z9.o)|fail):p:=h ⟨k⟩
theorem Yj (a:Iq) (h:IwS a 20000 20000):CV prog Ah 189 [aIw false a] [aIw false (QX a)]:=by
 refine cvz func189 ntmps189 ?_
 have h1:=h.s1
 have h2:=h.s2
 have hl:=lT (h1.l4) (show 40000≤50000 by decide)
 have hm:=lT (h2.l4) (show 40000≤50000 by decide)
 have AR:=Cs a h (by decide)
 have A1:=(Wc Ah false a.1.1 a.1.2 h1.ok hl).cv
 have A2:=(Wc Ah false a.2.1 a.2.2 h2.ok hm).cv
 have s1:Sm (GF a.1) 40064 40000:=h1.abs.more (by decide) (by decide)
 have s2:Sm (GF a.2) 40064 40000:=h2.abs.more (by decide) (by decide)
 have SP:=Gj true [GF a.1,GF a.2] (by simp) (fun p hp=>by simp only [cr,ct,or_false] at hp;rcases hp with rfl|rfl <;> assumption) (ax rfl)
 have CT:=EX a (0,0) h (Sm.zero _ _)
 rw [Ht] at CT
 rw [←AgD h]
 by_cases c:iIn ((0,0),(0,0)) a=true
 case pos =>
  rw [c] at CT
  rw [if_pos c]
  repeat' (with_reducible first|refine Aij ?_|(refine Tx 4 ?_;refine gO (by exact AF rfl Ga rfl rfl) <| gO xF <| gZ (xSk Aa) ?_))
  exact Au rfl (.cons_ (rvJ0 Ab rfl) .nil_)
 rw [if_neg c]
 rw [ay] at c
 rw [c] at CT
 repeat' (with_reducible first|refine Aij ?_)
 exact BX
theorem ApE (h:p:=by first|exact xCl func101 (PV)|exact xCl func101 (PU)):p:=h
theorem Adu (a:Iq) (v u:Pq) (h:IwS a 20000 20000) (hv:Sm v 20000 20000) (hu:Sm u 20000 20000) (hvu:Gf v u≤0):CV prog Ah 190 [aIw false a,aDy false v.1 v.2,aDy false u.1 u.2] [aIw false (Qo a v u),aI 0]:=by
 refine cvz func190 ntmps190 ?_
 have CM:=(Ef (G:=Ah) false false v.1 v.2 u.1 u.2 hv.ok hu.ok hv.lz hu.lz).cv
 have PV:=Fd v hv.ok hv.lz
 have PU:=Fd u hu.ok hu.lz
 have MN:=Yg (u,u) a (.pt hu) h
 have MX:=Yh (v,v) (Aaw (u,u) a) (.pt hv) (IwS.min (.pt hu) h)
 rw [Adm h hv hu hvu] at MX
 have hle:Gf v u≤0:=hvu
 unfold Gf at hle
 repeat' (with_reducible first|refine qq ?_|(refine Tx 0 ?_;refine gN xBo <| gN xBo <| gN xBo <| gN (xAl Ai) <| gO xA ?_)|(refine Tx 1 ?_;refine gO xL <| gO xL <| gO (xCl func115 (CM)) <| gO xGt ?_)|(refine Ax (id:=3) 7 AC (by kernel_rfl) ?_;dsimp only [List.take,List.drop];refine gP xL <| gP ApE <| gP xL <| gP ApE <| gP xL <| gP (xCl func187 (MN)) <| gP (xCl func188 (MX)) ?_;refine Ke ?_;refine gZ (xSk Ab) <| gO xA ?_))
 exact Au rfl (.cons_ (rvJ Ab rfl) (.cons_ (Lw rfl rfl) .nil_))
abbrev iZ:Iq:=((0,0),(0,0))
def kW:Option Iq→List C
 | none=>[.d (.val (.bool false)),.d (.val (.slice none 0 0)),.d (.val (.int .i64 0)),.d (.val (.bool false)),.d (.val (.slice none 0 0)),.d (.val (.int .i64 0))]
 | some a=>(dIw false a).map C.d
def kWs (l:List (Option Iq)):List C:=(l.map kW).flatten
def gW (l:List (Option Iq)):List Iq:=l.map (·.getD iZ)
theorem PE (o:Option Iq):(kW o).length=6:=by cases o <;> rfl
theorem FK (o:Option Iq) (l:List (Option Iq)):kWs (o::l)=kW o++kWs l:=by simp [kWs]
theorem AlN (l:List (Option Iq)):(kWs l).length=l.length*6:=by
 induction l with
 | nil=>rfl
 | cons o l ih=>rw [FK,ao,ih,PE,bw];omega
theorem Aik:∀ {l:List (Option Iq)} {i:Nat} {o:Option Iq},l[i]?=some o→((kWs l).drop (i*6)).take 6=kW o
 | [],i,o,h=>by simp at h
 | q::l,0,o,h=>by
  simp only [gu,Option.some.injEq] at h
  subst h
  rw [FK,fm,gq,jx (by rw [PE];omega),aj (by rw [PE];omega)]
 | q::l,i+1,o,h=>by
  simp only [fi] at h
  rw [FK,show (i+1)*6=(kW q).length+i*6 by rw [PE];omega,←jg,jh]
  exact Aik h
theorem Adv:∀ {l:List (Option Iq)} {i:Nat} (a:Iq),i<l.length→(kWs l).take (i*6)++(dIw false a).map C.d++(kWs l).drop (i*6+6)=kWs (l.set i (some a))
 | [],i,a,h=>by simp at h
 | q::l,0,a,h=>by
  rw [FK,fm,jy,dv,av,bl,FK,show (6:Nat)=(kW q).length from (PE q).symm,jh]
  rfl
 | q::l,i+1,a,h=>by
  have ih:=Adv (l:=l) (i:=i) a (by simpa using h)
  rw [FK,bo,FK,←ih,show (i+1)*6+6=(kW q).length+(i*6+6) by rw [PE];omega,←jg,jh,show (i+1)*6=(kW q).length+i*6 by rw [PE];omega,List.take_length_add_append]
  simp
theorem AlO (n:Nat):ET (madeCells (Value.agg #[.bool false,.slice none 0 0,.int .i64 0,.bool false,.slice none 0 0,.int .i64 0]).cells (n*6)).toList=kWs (List.replicate n none):=by
 have h1:∀ a:Nat,(madeCells (Value.agg #[.bool false,.slice none 0 0,.int .i64 0,.bool false,.slice none 0 0,.int .i64 0]).cells a).toList=(List.range a).map (fun j=>#[Value.bool false,.slice none 0 0,.int .i64 0,.bool false,.slice none 0 0,.int .i64 0][j % 6]!):=fun a=>by
  unfold madeCells
  rw [kx,Array.toList_range]
  rfl
 rw [h1]
 induction n with
 | zero=>rfl
 | succ n ih =>
  rw [show (n+1)*6=n*6+1+1+1+1+1+1 by omega,dk,dk,dk,dk,dk,dk,List.replicate_succ']
  simp only [gc,ET] at ih ⊢
  rw [ih]
  simp only [kWs,gc,List.flatten_append,bp,iq,show n*6 % 6=0 by omega,show (n*6+1) % 6=1 by omega,show (n*6+1+1) % 6=2 by omega,show (n*6+1+1+1) % 6=3 by omega,show (n*6+1+1+1+1) % 6=4 by omega,show (n*6+1+1+1+1+1) % 6=5 by omega,List.append_assoc]
  rfl
theorem Ws:∀ c∈kWs l,C.bel n c:=fun c hc=>by
 obtain ⟨cs,hcs,hc⟩:=List.mem_flatten.1 hc
 obtain ⟨o,_,rfl⟩:=List.mem_map.1 hcs
 cases o with
 | none=>simp [kW] at hc;rcases hc with rfl|rfl|rfl|rfl|rfl|rfl <;> trivial
 | some p=>exact AcH c hc
theorem ApF {t:Bool} (o:Option Iq):Ba (FB t H) (kW o) (dIw false (o.getD iZ)):=by
 cases o with
 | none =>
  show Ba (FB t H) _ (dIw false iZ)
  rw [AcQ]
  exact .cons_ (.d fun _=>.val _) (.cons_ .nil (.cons_ (.d fun _=>.val _) (.cons_ (.d fun _=>.val _) (.cons_ .nil (.cons_ (.d fun _=>.val _) .nil_)))))
 | some p=>exact Ba.map_l.2 ⟨rfl,fun j a b ha hb=>by
   have:(dIw false p)[j]?=some b:=hb
   rw [ha] at this
   cases this
   exact .d fun _=>Eh _ a (gM ha)⟩
theorem AlP {t:Bool} (l:List (Option Iq)):Ba (FB t H) (kWs l) (An (dIw false) (gW l)):=by
 induction l with
 | nil=>exact Ba.nil_
 | cons o l ih =>
  rw [FK]
  exact (ApF o).app ih
theorem Yk (l:List (Option Iq)):(gW l).length=l.length:=af ..
theorem ApG {p:Iq} (h:l[i]?=some (some p)):(gW l)[i]?=some p:=by
 unfold gW
 rw [ag,h]
 rfl
theorem Wt {t:Bool} {ty:Nat} {c:C} {y:D} (hc:c=.own id n) (hH:H[id]?=some (.row ty 6 n (kWs l))) (hy:y=.row t 6 n (An (dIw false) (gW l))):FB t H c y:=Dc hc hH hy (AlP l)
theorem AlQ {α:Type} {f:α→List D} (hf:∀ a,∀ u∈f a,DY u) {t:Bool} {H:List Ob} {id ty n s:Nat} {c:C} {y:D} {l:List α} (hc:c=.own id n) (hH:H[id]?=some (.row ty s n ((An f l).map C.d))) (hy:y=.row t s n (An f l)):FB t H c y :=
 Dc hc hH hy (Ba.map_l.2 ⟨rfl,fun j a b ha hb=>by
  rw [ha] at hb
  cases hb
  exact .d fun _=>BV (f:=f) hf l a (gM ha)⟩)
section
variable {P:Program} {G:World→Prop} {o:Oper} {F:Frm} {H:List Ob}
theorem UD {t e:TypeId} {x y:Operand} {by_:Nat} {k k':IntKind} (ho:o.op=.makeSlice t x y) (hx:F.ev x=.one (.d (.val (.int k (n:Int))))) (hy:F.ev y=.one (.d (.val (.int k' (n:Int))))) (ht:TyS P t e 6) (hz:TyZ P e (.agg #[.bool false,.slice none 0 0,.int .i64 0,.bool false,.slice none 0 0,.int .i64 0]) 6 by_) (hn:n≤1000000) (hby:by_≤1000) :
  AZ P G o F H (.one (.own H.length n)) [.row e 6 n (kWs (List.replicate n none))]:=by
 have:=BG (P:=P) (G:=G) (H:=H) ho hx hy ht hz hn hby
 rwa [AlO] at this
theorem Wu {t ty:TypeId} {x:Operand} {p:Iq} (ho:o.op=.load t x) (hx:F.ev x=.one (.ref id (i*6) (some n))) (hH:H[id]?=some (.row ty 6 n (kWs l))) (hp:l[i]?=some (some p)) (hk:TyK P t true 6):AZ P G o F H (.agg ((dIw false p).map C.d)) [] :=
 RH ho hx (.row hH) hk (Aik hp) rfl
theorem AlR {t ty:TypeId} {x y:Operand} {l':List (Option Iq)} {p:Iq} (ho:o.op=.store t x y) (hx:F.ev x=.one (.ref id (i*6) (some n))) (hH:H[id]?=some (.row ty 6 n (kWs l))) (hy:F.ev y=.agg ((dIw false p).map C.d)) (hty:TyK P t true 6) (hi:i<l.length) (hl:l.set i (some p)=l'):TOk P G o F H .any (H.set id (.row ty 6 n (kWs l'))):=by
 have h3:((dIw false p).map C.d).length=6:=rfl
 have:=Mi (P:=P) (G:=G) ho hx hH rfl (show ES (F.ev y)=some ((dIw false p).map C.d) by rw [hy];rfl) hty rfl (by rw [h3];show i*6+6≤(kWs l).length;rw [AlN];omega)
 rw [h3] at this
 simp only [Ob.cs,Ob.setC] at this
 rw [Adv p hi,hl] at this
 exact this
end
def Eu (a:Iq):Bool:=EH a.1 || EH a.2
def IK (p:Prt):Iq:=(Af p.lo 0 (-p.fr),Af p.hi 0 (-p.fr))
def DB (y:Bk) (l:List Iq):Iq :=
 if y.kind=1 then (Af y.vn 0 y.ve,Af y.vn 0 y.ve)
 else if y.kind=3 then Aav (l[0]?.getD iZ) (l[1]?.getD iZ)
 else if y.kind=4 then Agq (l[0]?.getD iZ) (l[1]?.getD iZ)
 else if y.kind=5 then ZS (l[0]?.getD iZ)
 else if y.kind=6 then IY (l[0]?.getD iZ) (Af y.vn 0 y.ve)
 else if y.kind=7 then AeS (l[0]?.getD iZ) (l[1]?.getD iZ)
 else if y.kind=8 then Aaw (l[0]?.getD iZ) (l[1]?.getD iZ)
 else if y.kind=9 then Aax (l[0]?.getD iZ) (l[1]?.getD iZ)
 else if y.kind=10 then QX (l[0]?.getD iZ)
 else Qo (l[0]?.getD iZ) (Af y.vn 0 y.ve) (Af y.un 0 y.ue)
def Bs (y:Bk) (l:List Iq) (ps:List Prt):Iq:=if y.kind=0 then (ps[((y.args[0]?).getD 0).toNat]?.map IK).getD iZ else DB y l
theorem PF {d:Nat} (h:IwS a n d) (hl:Eu a=false):IwS a LB LB:=by
 unfold Eu at hl
 rw [lc] at hl
 exact ⟨AlG h.s1.ok hl.1,AlG h.s2.ok hl.2,h.le⟩
theorem IwS.zero (n d:Nat):IwS iZ n d:=.pt (Sm.zero n d)
theorem BE {l:List Iq} {d:Nat} (h:∀ p∈l,IwS p n d) (k:Nat):IwS (l[k]?.getD iZ) n d:=by
 cases hk:l[k]? with
 | none=>exact IwS.zero n d
 | some p=>exact h p (gM hk)
theorem EP {n e:Int} (h:DN n e):Sm (Af n 0 e) LB LB:=by
 obtain ⟨h1,h2,h3,h4⟩:=h
 exact (Sm.shift (n:=32) (by omega) (by omega) (by omega)).more (by decide) (by decide)
theorem GR {l:List Iq} (hl:∀ p∈l,IwS p LB LB) (hv:(y.kind=1∨y.kind=6∨y.kind=11)→DN y.vn y.ve) (hu:y.kind=11→DN y.un y.ue) (hk:y.kind=1∨y.kind=3∨y.kind=4∨y.kind=5∨y.kind=6∨y.kind=7∨y.kind=8∨y.kind=9∨y.kind=10∨y.kind=11):IwS (DB y l) LC LC:=by
 have a:=BE hl 0
 have b:=BE hl 1
 have up:∀ {r:Iq},IwS r LB LB→IwS r LC LC:=fun h=>h.more (by decide) (by decide)
 unfold DB
 generalize l[0]?.getD iZ=p at a ⊢
 generalize l[1]?.getD iZ=q at b ⊢
 rcases hk with h|h|h|h|h|h|h|h|h|h <;> simp only [h,Int.reduceEq,if_true,if_false,reduceIte]
 ·exact up (.pt (EP (hv (.inl h))))
 ·exact (IwS.add a b (by decide:LB≤65536)).more (by decide:LB+LB+1≤LC) lb_c
 ·exact (IwS.sub a b (by decide:LB≤65536)).more (by decide:LB+LB+1≤LC) lb_c
 ·exact up a.neg
 ·exact (IwS.mul a (.pt (EP (hv (.inr (.inl h))))) (by decide:LB≤30000)).more (by decide:LB+LB≤LC) (by decide:LB+LB≤LC)
 ·exact (IwS.mul a b (by decide:LB≤30000)).more (by decide:LB+LB≤LC) (by decide:LB+LB≤LC)
 ·exact up (a.min b)
 ·exact up (a.max b)
 ·exact up a.abs
 ·exact up (a.clip (EP (hv (.inr (.inr h)))) (EP (hu h)))
structure Qp (p:Prt):Prop where
 l0 : -2147483648≤p.lo
 le:p.lo≤p.hi
 h1:p.hi<2147483648
 f0:0≤p.fr
 f1:p.fr≤30
theorem SE {z f:Int} (f0:0≤f) (f1:f≤30):gv (Af z 0 (-f))*2 ^ f.toNat=z*2 ^ GQ:=by
 have:=Up (p:=(z,0)) (n:=f.toNat) (by show 0+f.toNat≤65536;omega) (by omega)
 rw [show (-(f.toNat:Int)) = -f by omega,Py] at this
 exact this
theorem SF {z f:Int} (h0 : -2147483648≤z) (h1:z<2147483648) (f0:0≤f) (f1:f≤30):Sm (Af z 0 (-f)) 264 200:=Sm.shift (n:=64) (by omega) (by omega) (by omega)
theorem Qp.iw {p:Prt} (h:Qp p):IwS (IK p) 264 200:=by
 obtain ⟨h1,h2,h3,h4,h5⟩:=h
 refine ⟨SF h1 (by omega) h4 h5,SF (by omega) h3 h4 h5,?_⟩
 have e1:=SE (z:=p.lo) h4 h5
 have e2:=SE (z:=p.hi) h4 h5
 refine Int.not_lt.1 fun hc=>?_
 have:=kg hc (Bf p.fr.toNat)
 have g2:=eh h2 (bg (Bf GQ))
 have e1':gv (IK p).1*2 ^ p.fr.toNat=p.lo*2 ^ GQ:=e1
 have e2':gv (IK p).2*2 ^ p.fr.toNat=p.hi*2 ^ GQ:=e2
 omega
theorem Qp.scale {p:Prt} (h:Qp p):IY (CI [(p.lo,0),(p.hi,0)]) (Af 1 0 (-p.fr))=IK p:=by
 have H:=h.iw
 obtain ⟨h1,h2,h3,h4,h5⟩:=h
 have s1:Sm (p.lo,0) 264 200:=LI p.lo (by omega) (by decide)
 have s2:Sm (p.hi,0) 264 200:=LI p.hi (by omega) (by decide)
 obtain ⟨e1,e2,e3⟩:=EK s1 s2
 have s3:Sm (Af 1 0 (-p.fr)) 264 200:=SF (by decide) (by decide) h4 h5
 have g2:=eh h2 (bg (Bf GQ))
 rw [Py,Py] at e1 e2
 have E1:gv (CI [(p.lo,0),(p.hi,0)]).1=p.lo*2 ^ GQ:=by rw [e1];omega
 have E2:gv (CI [(p.lo,0),(p.hi,0)]).2=p.hi*2 ^ GQ:=by rw [e2];omega
 generalize CI [(p.lo,0),(p.hi,0)]=w at e3 E1 E2 ⊢
 have m1:=Sm.mul e3.s1 s3 (by decide)
 have m2:=Sm.mul e3.s2 s3 (by decide)
 obtain ⟨k1,k2,k3⟩:=Gh m1 m1 m2 m2
 have mg:∀ {x:Pq} {z:Int},Sm x 264 200→gv x=z*2 ^ GQ→gv (CG x (Af 1 0 (-p.fr)))=gv (Af z 0 (-p.fr)):=fun {x z} hx hz=>by
  have a1:=AcO (p:=x) (q:=Af 1 0 (-p.fr)) (lT (ei hx.d s3.d) (by decide))
  have a2:=SE (z:=1) h4 h5
  have a3:=SE (z:=z) h4 h5
  rw [hz] at a1
  have p1:=Bf GQ
  have p2:=Bf p.fr.toNat
  refine jc (ic p2) (jc (ic p1) ?_)
  rw [a3,jd,a1,am (z*2 ^ GQ),a2,Int.one_mul]
 have G1:=mg e3.s1 E1
 have G2:=mg e3.s2 E2
 refine UA (n:=264+264) (d:=200+200) k3 H ?_ ?_
 ·show gv (CI [CG w.1 (Af 1 0 (-p.fr)),CG w.1 (Af 1 0 (-p.fr)),CG w.2 (Af 1 0 (-p.fr)),CG w.2 (Af 1 0 (-p.fr))]).1=gv (Af p.lo 0 (-p.fr))
  rw [k1,G1,G2]
  have:=H.le
  simp only [IK] at this
  omega
 ·show gv (CI [CG w.1 (Af 1 0 (-p.fr)),CG w.1 (Af 1 0 (-p.fr)),CG w.2 (Af 1 0 (-p.fr)),CG w.2 (Af 1 0 (-p.fr))]).2=gv (Af p.hi 0 (-p.fr))
  rw [k2,G1,G2]
  have:=H.le
  simp only [IK] at this
  omega
theorem UE (h:AY ps bs os=0) {i:Nat} {p:Prt} (hp:ps[i]?=some p):Qp p:=by
 have hpp:=Agj h hp
 have h3 : -2147483648≤p.lo∧p.lo≤p.hi∧p.hi<2147483648∧0≤p.fr∧p.fr≤30:=bu fun hn=>by unfold Fv at hpp;rw [if_neg hn] at hpp;cases hpp
 exact ⟨h3.1,h3.2.1,h3.2.2.1,h3.2.2.2.1,h3.2.2.2.2⟩
def Gk (vs:List (Option (Iq))) (y:Bk):List (Iq):=if y.kind=0 then [] else y.args.map fun a=>(vs[a.toNat]?.getD none).getD iZ
def tkW (ps:List Prt) (bs:List Bk) (vs:List (Option (Iq))) (i:Nat):Iq:=match bs[i]? with
 | some y=>Bs y (Gk vs y) ps
 | none=>iZ
def AlS (ps:List Prt) (bs:List Bk) (vs:List (Option (Iq))) (l:List Nat):List (Option (Iq)):=l.foldl (fun v i=>v.set i (some (tkW ps bs  v i))) vs
def UF (dl:List Nat) (st:List (Iq)) (vs:List (Option (Iq))):List (Option (Iq)):=(dl.zip st).foldl (fun v p=>v.set p.1 (some p.2)) vs
theorem Yl (ps:List Prt) (bs:List Bk):∀ (l:List Nat) (vs:List (Option (Iq))),(AlS ps bs  vs l).length=vs.length
 | [],vs=>rfl
 | i::l,vs=>by show (AlS ps bs  _ l).length=_;rw [Yl ps bs  l];simp
theorem Mv:∀ (dl:List Nat) (st:List (Iq)) (vs:List (Option (Iq))),(UF dl st vs).length=vs.length
 | [],st,vs=>rfl
 | i::dl,[],vs=>rfl
 | i::dl,x::st,vs=>by show (UF dl st _).length=_;rw [Mv dl st];simp
theorem Adw (ps:List Prt) (bs:List Bk) (vs:List (Option (Iq))) {l:List Nat} {t j:Nat} (h:l[t]?=some j):AlS ps bs  vs (l.take (t+1))=(AlS ps bs  vs (l.take t)).set j (some (tkW ps bs  (AlS ps bs  vs (l.take t)) j)):=by
 unfold AlS
 rw [bh,h,fp,li]
 rfl
theorem PG (vs:List (Option (Iq))) {dl:List Nat} {st:List (Iq)} {t j:Nat} {p:Iq} (h:dl[t]?=some j) (h2:st[t]?=some p):UF (dl.take (t+1)) (st.take (t+1)) vs=(UF (dl.take t) (st.take t) vs).set j (some p):=by
 have l1:=(gS.1 h).1
 have l2:=(gS.1 h2).1
 unfold UF
 rw [bh,bh,h,h2,fp,fp,List.zip_append (by simp;omega),li]
 rfl
def rgS (ps:List Prt) (bs:List Bk) (st:List (Iq)) (t:Nat):List (Option (Iq)):=AlS ps bs  (UF (AX bs) st (List.replicate bs.length none)) ((Co bs).take t)
def rgN (ps:List Prt) (bs:List Bk) (st:List (Iq)) (t:Nat):Iq:=tkW ps bs  (rgS ps bs st t) ((Co bs)[t]?.getD 0)
def Dt (ps:List Prt) (bs:List Bk) (st:List (Iq)):Bool:=st.any Eu || (List.range (Co bs).length).any fun t=>Eu (rgN ps bs st t)
def rgV (ps:List Prt) (bs:List Bk) (st:List (Iq)):List (Iq):=gW (rgS ps bs st  (Co bs).length)
theorem Hz (ps:List Prt) (bs:List Bk) (st:List (Iq)) (t:Nat):(rgS ps bs st t).length=bs.length:=by unfold rgS;rw [Yl,Mv,ep]
theorem SJ (h:(Co bs)[t]?=some j):rgS ps bs st  (t+1)=(rgS ps bs st t).set j (some (rgN ps bs st t)):=by
 unfold rgN
 rw [h]
 exact Adw ps bs  _ h
theorem Adx (ps:List Prt) (bs:List Bk) (st:List (Iq)):rgS ps bs st  0=UF (AX bs) st (List.replicate bs.length none):=rfl
structure Aay (vs:List (Option (Iq))) (D:Nat→Prop):Prop where
 at_:∀ i,D i→∃ p,vs[i]?=some (some p)∧IwS p LB LB
theorem Aay.set {vs:List (Option (Iq))} {D D':Nat→Prop} (h:Aay vs D) {j:Nat} {p:Iq} (hj:j<vs.length) (hp:IwS p LB LB) (hD:∀ i,D' i→D i∨i=j):Aay (vs.set j (some p)) D':=⟨fun i hi=>by
 rw [cn]
 by_cases hij:j=i
 ·rw [if_pos hij,if_pos hj]
  exact ⟨p,rfl,hp⟩
 ·rw [if_neg hij]
  rcases hD i hi with h1|h1
  ·exact h.at_ i h1
  ·exact absurd h1.symm hij⟩
theorem Ym {k:Nat} {p:Iq} (h:st[k]?=some p) (hl:Eu p=true):Dt ps bs st  = true:=by
 unfold Dt
 rw [fj]
 exact .inl (List.any_eq_true.2 ⟨p,gM h,hl⟩)
theorem Yn (h:t<(Co bs).length) (hl:Eu (rgN ps bs st t)=true):Dt ps bs st  = true:=by
 unfold Dt
 rw [fj]
 exact .inr (List.any_eq_true.2 ⟨t,List.mem_range.2 h,hl⟩)
theorem Yo (h1:∀ p∈st,Eu p=false) (h2:∀ t,t<(Co bs).length→Eu (rgN ps bs st t)=false):Dt ps bs st  = false:=by
 unfold Dt
 rw [lc]
 exact ⟨List.any_eq_false.2 fun p hp=>by rw [h1 p hp];decide,List.any_eq_false.2 fun t ht=>by rw [h2 t (List.mem_range.1 ht)];decide⟩
theorem SN (hn:∀ p∈st,IwS p LB LB) (hl:st.length=(AX bs).length):Aay (UF (AX bs) st (List.replicate bs.length none)) (AhU bs 0):=by
 have key:∀ t,t≤(AX bs).length→Aay (UF ((AX bs).take t) (st.take t) (List.replicate bs.length none)) (fun i=>i∈(AX bs).take t):=fun t=>by
  induction t with
  | zero=>intro _;exact ⟨fun i hi=>by simp at hi⟩
  | succ t ih =>
   intro ht
   obtain ⟨j,hj⟩:∃ j,(AX bs)[t]?=some j:=⟨_,gE (by omega)⟩
   obtain ⟨p,hp⟩:∃ p,st[t]?=some p:=⟨_,gE (by omega)⟩
   have h1:=hn p (gM hp)
   rw [PG _ hj hp]
   refine (ih (by omega)).set (by rw [Mv,ep];have:=gM hj;unfold AX at this;rw [List.mem_filter,jv] at this;exact this.1) h1 fun i hi=>?_
   rw [bh,hj] at hi
   simpa using hi
 have h:=key (AX bs).length (aa _)
 rw [aq,aj (by omega)] at h
 refine ⟨fun i hi=>h.at_ i ?_⟩
 rcases hi with ⟨h1,h2⟩|h1
 ·unfold AX
  rw [List.mem_filter,jv,h2]
  exact ⟨h1,rfl⟩
 ·simp at h1
theorem PH (h:Aay (rgS ps bs st t) (AhU bs t)) (hj:(Co bs)[t]?=some j) (hsm:IwS (rgN ps bs st t) LB LB):Aay (rgS ps bs st  (t+1)) (AhU bs (t+1)):=by
 rw [SJ hj]
 refine h.set (by rw [Hz];exact (Pt hj).1) hsm fun i hi=>?_
 rcases hi with h1|h1
 ·exact .inl (.inl h1)
 ·rw [bh,hj] at h1
  rcases List.mem_append.1 h1 with h1|h1
  ·exact .inl (.inr h1)
  ·exact .inr (by simpa using h1)
theorem AgH (he:AY ps bs os=0) {st:List (Iq)} (h:Aay (rgS ps bs st  (Co bs).length) (AhU bs (Co bs).length)) {i:Nat} (hi:i<bs.length):∃ p,(rgS ps bs st  (Co bs).length)[i]?=some (some p)∧IwS p LB LB:=by
 refine h.at_ i ?_
 by_cases hk:Dp bs i=2
 ·exact .inl ⟨hi,hk⟩
 ·refine .inr ?_
  rw [aq]
  exact Alt (Ud he).2.2 hi hk
theorem Cu {l:List Iq} {k:Nat} (h:l[k]?=some a):((An (dIw false) l).drop (k*6)).take 6=dIw false a:=FE (f:=dIw false) (s:=6) (fun _=>rfl) h
structure ApH (ps:List Prt) (bs:List Bk) (vs:List (Option Iq)) (y:Bk):Prop where
 hk:y.kind=0∨y.kind=1∨y.kind=3∨y.kind=4∨y.kind=5∨y.kind=6∨y.kind=7∨y.kind=8∨y.kind=9∨y.kind=10∨y.kind=11
 args:y.kind≠0→∀ (k:Nat) (a:Int),y.args[k]?=some a→∃ p,0≤a∧a.toNat<bs.length∧vs[a.toNat]?=some (some p)∧(Gk vs y)[k]?=some p
 len:y.args.length≤2
 hl:∀ k:Nat,(k=0∧y.kind≠0∧y.kind≠1∨k=1∧(y.kind=3∨y.kind=4∨y.kind=7∨y.kind=8∨y.kind=9))→∃ p i,(Gk vs y)[k]?=some p∧y.args[k]?=some ((i:Nat):Int)∧(gW vs)[i]?=some p
 hs:∀ p∈Gk vs y,IwS p LB LB
 hin:y.kind=0→∃ (i:Nat) (pp:Prt),y.args[0]?=some (i:Int)∧ps[i]?=some pp∧Qp pp
 hsv:(y.kind=1∨y.kind=6∨y.kind=11)→DN y.vn y.ve
 hsu:y.kind=11→DN y.un y.ue
 hcl:y.kind=11→Gf (Af y.vn 0 y.ve) (Af y.un 0 y.ue)≤0
 sm:IwS (Bs y (Gk vs y) ps) LC LC
theorem Ady (he:AY ps bs os=0) {vs:List (Option Iq)} {j:Nat} {y:Bk} (hy:bs[j]?=some y) (hk2:y.kind≠2) (hv:y.kind≠0→∀ a∈y.args,0≤a→a<(bs.length:Int)→∃ p,vs[a.toNat]?=some (some p)∧IwS p LB LB):ApH ps bs vs y:=by
 have hK:=XT he hy
 have hA:=GB he hy
 have hlen:y.args.length≤2:=by
  have h1:=hA.1
  have h2:=hA.2.1
  unfold Bw at h1 h2
  (repeat' split at h2) <;> omega
 have args:y.kind≠0→∀ (k:Nat) (a:Int),y.args[k]?=some a→∃ p,0≤a∧a.toNat<bs.length∧vs[a.toNat]?=some (some p)∧(Gk vs y)[k]?=some p∧IwS p LB LB:=fun h0 k a ha=>by
  have hm:=gM ha
  have hb:=hA.2.2 a hm
  rw [show EE ps.length bs.length y.kind=bs.length from if_neg h0] at hb
  obtain ⟨p,hp,hsm⟩:=hv h0 a hm hb.1 hb.2
  exact ⟨p,hb.1,by omega,hp,by unfold Gk;rw [if_neg h0,ag,ha,dc,hp];rfl,hsm⟩
 have hs:y.kind≠0→∀ p∈Gk vs y,IwS p LB LB:=fun h0 p hp=>by
  obtain ⟨k,hk⟩:=List.mem_iff_getElem?.1 hp
  have hk':=hk
  unfold Gk at hk'
  rw [if_neg h0,ag,dj] at hk'
  obtain ⟨a,ha,_⟩:=hk'
  obtain ⟨q,_,_,_,h4,h5⟩:=args h0 k a ha
  rw [hk] at h4
  cases h4
  exact h5
 have hin:y.kind=0→∃ (i:Nat) (pp:Prt),y.args[0]?=some (i:Int)∧ps[i]?=some pp∧Qp pp:=fun h0=>by
  have h1:=hA.2.1
  rw [h0] at h1
  have hl1:y.args.length=1:=by unfold Bw at h1;(repeat' split at h1) <;> omega
  obtain ⟨a,ha⟩:∃ a,y.args[0]?=some a:=⟨_,gE (by omega)⟩
  have hb:=hA.2.2 a (gM ha)
  rw [show EE ps.length bs.length y.kind=ps.length from if_pos h0] at hb
  obtain ⟨p,hp⟩:∃ p,ps[a.toNat]?=some p:=⟨_,gE (by omega)⟩
  exact ⟨a.toNat,p,by rw [ha];congr 1;omega,hp,UE he hp⟩
 have hsv:(y.kind=1∨y.kind=6∨y.kind=11)→DN y.vn y.ve:=fun h=>Ps he hy (by unfold Pd;rcases h with h|h|h <;> rw [h] <;> rfl)
 have hsu:y.kind=11→DN y.un y.ue:=fun h=>(Ot he hy h).2.1
 have h0s:y.kind=0→∀ p∈([]:List Iq),IwS p LB LB:=fun _ p hp=>by cases hp
 have hk3:y.kind=0∨y.kind=1∨y.kind=3∨y.kind=4∨y.kind=5∨y.kind=6∨y.kind=7∨y.kind=8∨y.kind=9∨y.kind=10∨y.kind=11:=by clear hin args hs;omega
 refine ⟨hk3,fun h0 k a ha=>?_,hlen,fun k hk=>?_,?_,hin,hsv,hsu,fun h=>(Ot he hy h).2.2,?_⟩
 ·obtain ⟨p,h1,h2,h3,h4,_⟩:=args h0 k a ha
  exact ⟨p,h1,h2,h3,h4⟩
 ·have h0:y.kind≠0:=by omega
  have hkl:k<y.args.length:=by
   have h1:=hA.2.1
   unfold Bw at h1
   (repeat' split at h1) <;> omega
  obtain ⟨a,ha⟩:∃ a,y.args[k]?=some a:=⟨_,gE hkl⟩
  obtain ⟨p,h1,h2,h3,h4,_⟩:=args h0 k a ha
  exact ⟨p,a.toNat,h4,by rw [ha];congr 1;omega,ApG h3⟩
 ·by_cases h0:y.kind=0
  ·unfold Gk;rw [if_pos h0];exact h0s h0
  ·exact hs h0
 ·unfold Bs
  by_cases h0:y.kind=0
  ·rw [if_pos h0]
   obtain ⟨i,pp,q1,q3,q4⟩:=hin h0
   rw [q1]
   simp only [bf,ap,q3,dc]
   exact q4.iw.more (by decide) (by decide)
  ·rw [if_neg h0]
   exact GR (hs h0) hsv hsu (by clear hin args hs;omega)
theorem SO (he:AY ps bs os=0) {vs:List (Option Iq)} {t j:Nat} (hj:(Co bs)[t]?=some j) (hv:Aay vs (AhU bs t)):∃ y,bs[j]?=some y∧y.kind≠2∧ApH ps bs vs y:=by
 obtain ⟨hjl,hk2⟩:=Pt hj
 obtain ⟨y,hy⟩:∃ y,bs[j]?=some y:=⟨_,gE hjl⟩
 rw [Hu hy] at hk2
 refine ⟨y,hy,hk2,Ady he hy hk2 fun h0 a ha a0 a1=>?_⟩
 have hsplit:Co bs=(Co bs).take t++j::(Co bs).drop (t+1):=by
  obtain ⟨hlt,he⟩:=gS.1 hj
  rw [←he,←dz hlt,ii]
 have hd:=AfY hsplit (a:=a) (by rw [Agl hy h0];exact ha)
 exact hv.at_ a.toNat (hd.imp (fun h=>⟨by omega,h⟩) id)
theorem AlT {P:Program} {G:World→Prop} {o:Oper} {F:Frm} {ts:Array TypeId} {x y z u:Operand} {k:IntKind} {p q r:Int} (ho:o.op=.call { callee:=.builtin .max,args:=#[x,y,z,u],argTypes:=ts }) (hx:F.ev x=.one (.d (.val (.int k p)))) (hy:F.ev y=.one (.d (.val (.int k q)))) (hz:F.ev z=.one (.d (.val (.int k r)))) (hu:F.ev u=.one (.d (.val (.int k s)))):AZ P G o F H (.one (.d (.val (.int k (max (max (max p q) r) s))))) []:=Ce fun b0 m a hp hcx hor=>by
 have ex:=DK (m:=m) (v:=a.eval x) (by rw [←hx];exact Bc hor (by rw [ho];simp [Op.operands,Call.operands]))
 have ey:=DK (m:=m) (v:=a.eval y) (by rw [←hy];exact Bc hor (by rw [ho];simp [Op.operands,Call.operands]))
 have ez:=DK (m:=m) (v:=a.eval z) (by rw [←hz];exact Bc hor (by rw [ho];simp [Op.operands,Call.operands]))
 have eu:=DK (m:=m) (v:=a.eval u) (by rw [←hu];exact Bc hor (by rw [ho];simp [Op.operands,Call.operands]))
 refine ⟨_,?_,Bx.val rfl⟩
 unfold execOp
 have key:∀ a b:Int,(if a<b then b else a)=max a b:=fun a b=>by split <;> omega
 simp [ho,resolve,invoke,builtin,ex,ey,ez,eu,Builtin.max_,Builtin.max2,key]
theorem Rd (h:p:=by
 exact Au rfl (.cons_ (rvW Aa rfl) .nil_)):p:=h
theorem Ou (n e:Int) (hs:DN n e):CV prog Ah 172 [.agg [dI n,dI e]] [aDy false (Af n 0 e).1 (Af n 0 e).2]:=by
 refine cvz func172 ntmps172 ?_
 have VA:=Sk n e
 rw [if_pos hs,if_pos hs] at VA
 repeat' (with_reducible first|refine qq ?_|(refine Tx 0 ?_;refine gN xBo <| gN (xAl Aj) ?_)|(refine Tx 1 ?_;refine gO xL <| gO (xCl func155 (VA)) <| gO xMt <| gO (by exact CQ rfl rfl rfl) <| gO xEx <| gN (xAl Aj) <| gZ (xSk Aa) <| gO xA ?_)|(refine Tx 2 ?_;refine gO xL <| gZ (xSk Aa) ?_))
 exact Rd
theorem UG (h:p:=by
 exact Au rfl (.cons_ (Db rfl rfl) .nil_)):p:=h
theorem ApI (h:p:=by first|exact xCl func126 (B1)|exact xCl func126 (B2)):p:=h
theorem UH (a:Iq) (n1:Nf a.1.1 a.1.2) (n2:Nf a.2.1 a.2.2) (l1:(Ac a.1.1.natAbs).length≤40000) (l2:(Ac a.2.1.natAbs).length≤40000):CV prog Ah 85 [aIw false a] [aB (Eu a)]:=by
 refine cvz func85 ntmps85 ?_
 have B1:=Oq a.1.1 a.1.2 n1 l1
 have B2:=Oq a.2.1 a.2.2 n2 l2
 have hm:decide ((4096:Int)<max (max (max ((Bj a.1.1.natAbs:Nat):Int) (a.1.2:Int)) ((Bj a.2.1.natAbs:Nat):Int)) (a.2.2:Int))=Eu a:=by unfold Eu EH Um;rw [ji,fj,decide_eq_true_eq,decide_eq_true_eq,decide_eq_true_eq];omega
 repeat' (with_reducible first|refine qq ?_|(refine Tx 0 ?_;refine gN xBo <| gO xA ?_)|(refine Bl (id:=1) AC (by kernel_rfl) ?_;refine gP xF <| gP xL <| gP ApI <| gP xF <| gP xF <| gP xD <| gP xF <| gP xL <| gP ApI <| gP xF <| gP xF <| gP xD <| gP (by first|exact AlT rfl rfl rfl rfl rfl|exact Lr rfl rfl rfl) <| gP (by first|exact Hk rfl rfl rfl hm|exact xGt) <| gP xA ?_;refine Ke ?_))
 exact UG
theorem Dk (t u:Bool) (y:Bk) (vals:List Iq) (k:Nat) {i:Nat} {p:Iq} (hk:y.args[k]?=some (i:Int)) (hp:vals[i]?=some p) (ha:y.args.length≤1000000) (hv:vals.length≤1000000):CV prog Ah 171 [aI (k:Int),.one (.ptr true [.row u 6 vals.length (An (dIw false) vals)]),.one (.ptr true (dBk t y))] [aIw false p]:=by
 refine cvz func171 ntmps171 ?_
 have l1:=(gS.1 hk).1
 have l2:=(gS.1 hp).1
 repeat' (with_reducible first|refine qq ?_|(refine Tx 0 ?_;refine gN (xAl Ai) ?_)|(refine Ax (id:=1) 8 AC (by kernel_rfl) ?_;dsimp only [List.take,List.drop];refine gP xD <| gP xF <| gP xD <| gP xM <| gP (by first|exact xIr Ae (Ay hk)|exact xIr Ae (Cu hp)) <| gP xD <| gP (xIr Ad (Cu hp)) <| gP xL ?_;refine Ke ?_;refine gZ (xSk Ab) ?_))
 exact BX
theorem HG (k:p') (h:Hd9 p'→p:=by with_reducible first|(intro Z9;refine qq ?_;exact Z9.o)|(intro Z9;refine Tx 0 ?_;refine gN xBo <| gN xBo <| gN xBo <| gN (xAl Ai) ?_;exact Z9.o)|(intro Z9;refine Tx 1 ?_;refine gO (by first|exact xMf [(2,0,none),(1,0,none)]|exact Dm rfl (by repeat' first|exact Br rfl rfl|refine AO rfl rfl rfl ?_)) <| gO xA ?_;exact Z9.o)|(intro Z9;refine Tx 2 ?_;refine gO xF <| gO xD ?_;exact Z9.o)|(intro Z9;refine Tx 3 ?_;refine gO xEq <| gO xA ?_;exact Z9.o)|fail):p:=h ⟨k⟩
theorem IZ (k:p') (h:Hd9 p'→p:=by with_reducible first|(intro Z9;refine Tx 6 ?_;refine gO xEq <| gO xA ?_;exact Z9.o)|fail):p:=h ⟨k⟩
theorem ApJ (h:p:=by first|exact xCl func172 (RV)|exact xCl func172 (RU)):p:=h
theorem ZZ (t:Bool) (ps:List Prt) (bs:List Bk) (os:List Int) (y:Bk) (vals l:List Iq) (hk:y.kind=0∨y.kind=1∨y.kind=3∨y.kind=4∨y.kind=5∨y.kind=6∨y.kind=7∨y.kind=8∨y.kind=9∨y.kind=10∨y.kind=11) (ha:y.args.length≤1000000) (hvl:vals.length≤1000000) (hpl:ps.length≤1000000)
  (hl:∀ k:Nat,(k=0∧y.kind≠0∧y.kind≠1∨k=1∧(y.kind=3∨y.kind=4∨y.kind=7∨y.kind=8∨y.kind=9))→∃ p i,l[k]?=some p∧y.args[k]?=some ((i:Nat):Int)∧vals[i]?=some p) (hs:∀ p∈l,IwS p 20000 20000)
  (hin:y.kind=0→∃ (i:Nat) (pp:Prt),y.args[0]?=some (i:Int)∧ps[i]?=some pp∧Qp pp)
  (hsv:(y.kind=1∨y.kind=6∨y.kind=11)→DN y.vn y.ve) (hsu:y.kind=11→DN y.un y.ue) (hcl:y.kind=11→Gf (Af y.vn 0 y.ve) (Af y.un 0 y.ue)≤0):CV prog Ah 86 [aDg t ps bs os,.agg (dBk t y),.one (.row true 6 vals.length (An (dIw false) vals))] [aIw false (Bs y l ps)]:=by
 refine cvz func86 ntmps86 ?_
 rcases hk with h|h|h|h|h|h|h|h|h|h|h
 ·
  obtain ⟨i0,pp,q0,w0,ps0⟩:=hin h
  have l1:=(gS.1 q0).1
  have l3:=(gS.1 w0).1
  have f0:=ps0.l0
  have f1:=ps0.le
  have f2:=ps0.h1
  have f3:=ps0.f0
  have f4:=ps0.f1
  have IN:=Uy pp.lo pp.hi (by omega) (by omega)
  have OF:=FS 1 (by decide) (by decide)
  have SH:=BW 1 0 (-pp.fr) ⟨by decide,fun h=>absurd rfl h⟩ (lT (Aw (k:=2) (by decide)) (by decide)) (by omega)
  have SC:=IA (CI [(pp.lo,0),(pp.hi,0)]) (Af 1 0 (-pp.fr)) (EK (LI pp.lo (by omega) (by decide)) (LI pp.hi (by omega) (by decide))).2.2 ((SF (by decide) (by decide) f3 f4).more (by decide) (by decide))
  rw [ps0.scale] at SC
  have hb:Bs y l ps=IK pp:=by unfold Bs;rw [if_pos h,q0];simp [w0]
  rw [hb]
  repeat' (with_reducible first|refine HG ?_|(refine Ax (id:=4) 9 AC (by kernel_rfl) ?_;dsimp only [List.take,List.drop];refine gP xF <| gP xD <| gP xF <| gP xD <| gP (xIr Ae (Ay q0)) <| gP xD <| gP (xIr Ci (IV w0)) <| gP xL <| gQ (xAl OV) ?_;refine Ke ?_;refine gZ (xSk Lv) ?_)|(refine Ax (id:=5) 11 AC (by kernel_rfl) ?_;dsimp only [List.take,List.drop];refine gP xF <| gP xD <| gP xF <| gP xD <| gP (xCl func133 (IN)) <| gP (xCl func123 (OF)) <| gP xF <| gP xD <| gP (by first|exact Xh rfl rfl (by omega)|exact Ahu rfl rfl) <| gP (xCl func27 (SH)) <| gP (xCl func132 (SC)) ?_;refine Ke ?_;refine gZ (xSk Ab) ?_))
  exact BX
 ·
  have hv:=hsv (by omega)
  have RV:=Ou y.vn y.ve hv
  have sv:=(EP hv).more LBx LBx
  have C:=DQ (Af y.vn 0 y.ve) sv.ok sv.lz
  have hb:Bs y l ps=((Af y.vn 0 y.ve),(Af y.vn 0 y.ve)):=by unfold Bs DB;simp [h]
  rw [hb]
  repeat' (with_reducible first|refine HG ?_|refine IZ ?_|(refine Tx 7 ?_;refine gO xF <| gO xL <| gO (xCl func172 (RV)) <| gO (xCl func79 (C)) <| gZ (xSk Ab) ?_))
  exact BX
 ·
  obtain ⟨p,i0,h0,q0,r0⟩:=hl 0 (by omega)
  have sp:=(hs p (gM h0))
  have A0:=Dk t true y vals 0 q0 r0 ha hvl
  obtain ⟨q,i1,h1,q1,r1⟩:=hl 1 (by omega)
  have sq:=(hs q (gM h1))
  have A1:=Dk t true y vals 1 q1 r1 ha hvl
  have C:=Su p q sp sq
  have hb:Bs y l ps=Aav p q:=by unfold Bs DB;simp [h,h0,h1]
  rw [hb]
  repeat' (with_reducible first|refine HG ?_|refine IZ ?_|(refine Tx 8 ?_;refine gO xEq <| gO xA ?_)|(refine Tx 9 ?_;refine gO xM <| gO (xCc func171 A0 (args:=[_]) rfl) <| gO xM <| gO (xCc func171 A1 (args:=[_]) rfl) <| gO (xCl func136 (C)) <| gZ (xSk Ab) ?_))
  exact BX
 ·
  obtain ⟨p,i0,h0,q0,r0⟩:=hl 0 (by omega)
  have sp:=(hs p (gM h0))
  have A0:=Dk t true y vals 0 q0 r0 ha hvl
  obtain ⟨q,i1,h1,q1,r1⟩:=hl 1 (by omega)
  have sq:=(hs q (gM h1))
  have A1:=Dk t true y vals 1 q1 r1 ha hvl
  have C:=Yd p q sp sq
  have hb:Bs y l ps=Agq p q:=by unfold Bs DB;simp [h,h0,h1]
  rw [hb]
  repeat' (with_reducible first|refine HG ?_|refine IZ ?_|(refine Tx 8 ?_;refine gO xEq <| gO xA ?_)|(refine Tx 10 ?_;refine gO xEq <| gO xA ?_)|(refine Tx 11 ?_;refine gO xM <| gO (xCc func171 A0 (args:=[_]) rfl) <| gO xM <| gO (xCc func171 A1 (args:=[_]) rfl) <| gO (xCl func137 (C)) <| gZ (xSk Ab) ?_))
  exact BX
 ·
  obtain ⟨p,i0,h0,q0,r0⟩:=hl 0 (by omega)
  have sp:=(hs p (gM h0))
  have A0:=Dk t true y vals 0 q0 r0 ha hvl
  have C:=Ss p sp
  have hb:Bs y l ps=ZS p:=by unfold Bs DB;simp [h,h0]
  rw [hb]
  repeat' (with_reducible first|refine HG ?_|refine IZ ?_|(refine Tx 8 ?_;refine gO xEq <| gO xA ?_)|(refine Tx 10 ?_;refine gO xEq <| gO xA ?_)|(refine Tx 12 ?_;refine gO xEq <| gO xA ?_)|(refine Tx 14 ?_;refine gO xEq <| gO xA ?_)|(refine Tx 15 ?_;refine gO xM <| gO (xCc func171 A0 (args:=[_]) rfl) <| gO (xCl func139 (C)) <| gZ (xSk Ab) ?_))
  exact BX
 ·
  obtain ⟨p,i0,h0,q0,r0⟩:=hl 0 (by omega)
  have sp:=(hs p (gM h0))
  have A0:=Dk t true y vals 0 q0 r0 ha hvl
  have hv:=hsv (by omega)
  have RV:=Ou y.vn y.ve hv
  have sv:=(EP hv).more LBx LBx
  have C:=IA p (Af y.vn 0 y.ve) sp sv
  have hb:Bs y l ps=IY p (Af y.vn 0 y.ve):=by unfold Bs DB;simp [h,h0]
  rw [hb]
  repeat' (with_reducible first|refine HG ?_|refine IZ ?_|(refine Tx 8 ?_;refine gO xEq <| gO xA ?_)|(refine Tx 10 ?_;refine gO xEq <| gO xA ?_)|(refine Tx 12 ?_;refine gO xEq <| gO xA ?_)|(refine Tx 14 ?_;refine gO xEq <| gO xA ?_)|(refine Tx 16 ?_;refine gO xEq <| gO xA ?_)|(refine Tx 18 ?_;refine gO xEq <| gO xA ?_)|(refine Ax (id:=19) 6 AC (by kernel_rfl) ?_;dsimp only [List.take,List.drop];refine gP xM <| gP (xCc func171 A0 (args:=[_]) rfl) <| gP xF <| gP xL <| gP (xCl func172 (RV)) <| gP (xCl func132 (C)) ?_;refine Ke ?_;refine gZ (xSk Ab) ?_))
  exact BX
 ·
  obtain ⟨p,i0,h0,q0,r0⟩:=hl 0 (by omega)
  have sp:=(hs p (gM h0))
  have A0:=Dk t true y vals 0 q0 r0 ha hvl
  obtain ⟨q,i1,h1,q1,r1⟩:=hl 1 (by omega)
  have sq:=(hs q (gM h1))
  have A1:=Dk t true y vals 1 q1 r1 ha hvl
  have C:=Sy p q sp sq
  have hb:Bs y l ps=AeS p q:=by unfold Bs DB;simp [h,h0,h1]
  rw [hb]
  repeat' (with_reducible first|refine HG ?_|refine IZ ?_|(refine Tx 8 ?_;refine gO xEq <| gO xA ?_)|(refine Tx 10 ?_;refine gO xEq <| gO xA ?_)|(refine Tx 12 ?_;refine gO xEq <| gO xA ?_)|(refine Tx 13 ?_;refine gO xM <| gO (xCc func171 A0 (args:=[_]) rfl) <| gO xM <| gO (xCc func171 A1 (args:=[_]) rfl) <| gO (xCl func138 (C)) <| gZ (xSk Ab) ?_))
  exact BX
 ·
  obtain ⟨p,i0,h0,q0,r0⟩:=hl 0 (by omega)
  have sp:=(hs p (gM h0))
  have A0:=Dk t true y vals 0 q0 r0 ha hvl
  obtain ⟨q,i1,h1,q1,r1⟩:=hl 1 (by omega)
  have sq:=(hs q (gM h1))
  have A1:=Dk t true y vals 1 q1 r1 ha hvl
  have C:=Sv p q sp sq
  have hb:Bs y l ps=Aaw p q:=by unfold Bs DB;simp [h,h0,h1]
  rw [hb]
  repeat' (with_reducible first|refine HG ?_|refine IZ ?_|(refine Tx 8 ?_;refine gO xEq <| gO xA ?_)|(refine Tx 10 ?_;refine gO xEq <| gO xA ?_)|(refine Tx 12 ?_;refine gO xEq <| gO xA ?_)|(refine Tx 14 ?_;refine gO xEq <| gO xA ?_)|(refine Tx 16 ?_;refine gO xEq <| gO xA ?_)|(refine Tx 18 ?_;refine gO xEq <| gO xA ?_)|(refine Tx 20 ?_;refine gO xEq <| gO xA ?_)|(refine Tx 21 ?_;refine gO xM <| gO (xCc func171 A0 (args:=[_]) rfl) <| gO xM <| gO (xCc func171 A1 (args:=[_]) rfl) <| gO (xCl func141 (C)) <| gZ (xSk Ab) ?_))
  exact BX
 ·
  obtain ⟨p,i0,h0,q0,r0⟩:=hl 0 (by omega)
  have sp:=(hs p (gM h0))
  have A0:=Dk t true y vals 0 q0 r0 ha hvl
  obtain ⟨q,i1,h1,q1,r1⟩:=hl 1 (by omega)
  have sq:=(hs q (gM h1))
  have A1:=Dk t true y vals 1 q1 r1 ha hvl
  have C:=Sw p q sp sq
  have hb:Bs y l ps=Aax p q:=by unfold Bs DB;simp [h,h0,h1]
  rw [hb]
  repeat' (with_reducible first|refine HG ?_|refine IZ ?_|(refine Tx 8 ?_;refine gO xEq <| gO xA ?_)|(refine Tx 10 ?_;refine gO xEq <| gO xA ?_)|(refine Tx 12 ?_;refine gO xEq <| gO xA ?_)|(refine Tx 14 ?_;refine gO xEq <| gO xA ?_)|(refine Tx 16 ?_;refine gO xEq <| gO xA ?_)|(refine Tx 18 ?_;refine gO xEq <| gO xA ?_)|(refine Tx 20 ?_;refine gO xEq <| gO xA ?_)|(refine Tx 22 ?_;refine gO xEq <| gO xA ?_)|(refine Tx 23 ?_;refine gO xM <| gO (xCc func171 A0 (args:=[_]) rfl) <| gO xM <| gO (xCc func171 A1 (args:=[_]) rfl) <| gO (xCl func142 (C)) <| gZ (xSk Ab) ?_))
  exact BX
 ·
  obtain ⟨p,i0,h0,q0,r0⟩:=hl 0 (by omega)
  have sp:=(hs p (gM h0))
  have A0:=Dk t true y vals 0 q0 r0 ha hvl
  have C:=Sz p sp
  have hb:Bs y l ps=QX p:=by unfold Bs DB;simp [h,h0]
  rw [hb]
  repeat' (with_reducible first|refine HG ?_|refine IZ ?_|(refine Tx 8 ?_;refine gO xEq <| gO xA ?_)|(refine Tx 10 ?_;refine gO xEq <| gO xA ?_)|(refine Tx 12 ?_;refine gO xEq <| gO xA ?_)|(refine Tx 14 ?_;refine gO xEq <| gO xA ?_)|(refine Tx 16 ?_;refine gO xEq <| gO xA ?_)|(refine Tx 17 ?_;refine gO xM <| gO (xCc func171 A0 (args:=[_]) rfl) <| gO (xCl func140 (C)) <| gZ (xSk Ab) ?_))
  exact BX
 ·
  obtain ⟨p,i0,h0,q0,r0⟩:=hl 0 (by omega)
  have sp:=(hs p (gM h0))
  have A0:=Dk t true y vals 0 q0 r0 ha hvl
  have hv:=hsv (by omega)
  have RV:=Ou y.vn y.ve hv
  have sv:=(EP hv).more LBx LBx
  have hu:=hsu h
  have RU:=Ou y.un y.ue hu
  have su:=(EP hu).more LBx LBx
  have C:=Uz p (Af y.vn 0 y.ve) (Af y.un 0 y.ue) sp sv su (hcl h)
  have hb:Bs y l ps=Qo p (Af y.vn 0 y.ve) (Af y.un 0 y.ue):=by unfold Bs DB;simp [h,h0]
  rw [hb]
  repeat' (with_reducible first|refine HG ?_|refine IZ ?_|(refine Tx 8 ?_;refine gO xEq <| gO xA ?_)|(refine Tx 10 ?_;refine gO xEq <| gO xA ?_)|(refine Tx 12 ?_;refine gO xEq <| gO xA ?_)|(refine Tx 14 ?_;refine gO xEq <| gO xA ?_)|(refine Tx 16 ?_;refine gO xEq <| gO xA ?_)|(refine Tx 18 ?_;refine gO xEq <| gO xA ?_)|(refine Tx 20 ?_;refine gO xEq <| gO xA ?_)|(refine Tx 22 ?_;refine gO xEq <| gO xA ?_)|(refine Im (id:=24) 13 [(13,11)] AC (by kernel_rfl) ?_;dsimp only [List.take,List.drop];refine gP xM <| gP (xCc func171 A0 (args:=[_]) rfl) <| gP xF <| gP xL <| gP ApJ <| gP xF <| gP xL <| gP ApJ <| gP (xCl func143 (C)) <| gP xMt <| gP (by exact CQ rfl rfl rfl) <| gP xEx <| gQ (xAl Ai) ?_;refine Ke ?_;refine gZ (xSk Ab) <| gO xA ?_)|(refine Tx 25 ?_;refine gO xL <| gZ (xSk Ab) ?_))
  exact BX
abbrev ivQ (q:Rv × Rv):Iq:=(rvP q.1,rvP q.2)
def Vn (qs:List (Rv × Rv)):D:=.row false 6 qs.length (An (dIr false) qs)
def AeT (l:List Iq):A:=.one (.row false 6 l.length (An (dIw false) l))
abbrev ivC (q:Rv × Rv):Bool:=ivR q.1 q.2
def rgE (ps:List Prt) (bs:List Bk) (os:List Int) (qs:List (Rv × Rv)):Int :=
 if AY ps bs os≠0 then AY ps bs os else if qs.length≠(AX bs).length then 11 else if qs.all ivC=false then 2 else if Dt ps bs (qs.map ivQ)=true then 4 else 0
section
variable {ps:List Prt} {bs:List Bk} {os:List Int} {qs:List (Rv × Rv)}
theorem rgE1 (h:AY ps bs os≠0):rgE ps bs os qs=AY ps bs os:=by unfold rgE;rw [if_pos h]
theorem rgE2 (h:AY ps bs os=0) (h2:qs.length≠(AX bs).length):rgE ps bs os qs=11:=by unfold rgE;rw [if_neg (not_not_intro h),if_pos h2]
theorem rgE3 (h:AY ps bs os=0) (h2:qs.length=(AX bs).length) (h3:qs.all ivC=false):rgE ps bs os qs=2:=by unfold rgE;rw [if_neg (not_not_intro h),if_neg (not_not_intro h2),if_pos h3]
theorem ArO (h:AY ps bs os=0) (h2:qs.length=(AX bs).length) (h3:¬ qs.all ivC=false):rgE ps bs os qs=if Dt ps bs (qs.map ivQ)=true then 4 else 0:=by unfold rgE;rw [if_neg (not_not_intro h),if_neg (not_not_intro h2),if_neg h3]
end
theorem PI {qs:List (Rv × Rv)} {k:Nat} (h:qs[k]?=some q):((An (dIr false) qs).drop (k*6)).take 6=dIr false q:=FE (f:=dIr false) (s:=6) (fun _=>rfl) h
theorem PJ (hr:RvL q.1) (hs:RvL q.2) (h:ivC q=true):IwS (ivQ q) 1280000 65536∧dIr false q=dIw false (ivQ q)∧(Ac (rvP q.1).1.natAbs).length≤40000∧(Ac (rvP q.2).1.natAbs).length≤40000:=by
 obtain ⟨e,n1,n2,g,k1,k2⟩:=Adn hr hs h
 exact ⟨⟨Adf (p:=rvP q.1) n1 (k:=40000) (k1 ▸ hr.2) (by decide),Adf (p:=rvP q.2) n2 (k:=40000) (k2 ▸ hs.2) (by decide),g⟩,e,k1 ▸ hr.2,k2 ▸ hs.2⟩
theorem Adz {qs:List (Rv × Rv)} {k:Nat} (h:qs[k]?=some q) (hv:ivC q=false):qs.all ivC=false:=by
 rw [List.all_eq_false]
 exact ⟨q,gM h,by rw [hv];decide⟩
theorem AdA {d:Nat} (h:IwS a n d):Gg a a=a:=by
 obtain ⟨e1,e2,e3⟩:=Gh h.s1 h.s2 h.s1 h.s2
 have hle:=h.le
 exact UA e3 h (by show gv (CI [a.1,a.2,a.1,a.2]).1=_;rw [e1];omega) (by show gv (CI [a.1,a.2,a.1,a.2]).2=_;rw [e2];omega)
theorem AdB (k:p') (h:Hd9 p'→p:=by with_reducible first|(intro Z9;refine Tx 0 ?_;refine gN xBo <| gO xA <| gO xA ?_;exact Z9.o)|(intro Z9;refine Tx 1 ?_;refine gO xL <| gO (xCl func36 (DL)) <| gO xMt <| gO xEx <| gO xEx <| gO xA <| gO xA ?_;exact Z9.o)|(intro Z9;refine Tx 2 ?_;refine gO xM <| gO (xNE Am) ?_;exact Z9.o)|fail):p:=h ⟨k⟩
theorem ApK (h:p:=by first|exact xIr Ae (Ay (LH hi))|exact xIr Ae (hra)|exact xIo (i:=i) Ae):p:=h
theorem Wv (h:p:=by first|exact xIr Ad (hra)|exact xIo (i:=i) Ad):p:=h
theorem Ail (k:p') (h:Hd9 p'→p:=by with_reducible first|(intro Z9;refine Tx 18 ?_;refine gO xM <| gO ApK <| gO xD <| gO xA <| gO xA ?_;exact Z9.o)|(intro Z9;refine Tx 19 ?_;refine gO xM <| gO xM <| gO Wv <| gO xL <| gO (xCl func85 (LG)) ?_;exact Z9.o)|fail):p:=h ⟨k⟩
theorem Aaa (h:p:=by first|exact AlR rfl rfl rfl rfl Ab tl stV|exact xSk Ab):p:=h
theorem ApL (h:p:=by first|exact xIr Ae (Ay (LH hj))|exact xIo (i:=j) Ae):p:=h
theorem ApM (h:p:=by first|exact xIr Ak (Dq hy)|exact xIo (i:=j) Ak):p:=h
theorem Aim (k:p') (h:Hd9 p'→p:=by with_reducible first|(intro Z9;refine Tx 25 ?_;refine gO ApL <| gO xD <| gO xA ?_;exact Z9.o)|(intro Z9;refine Ax (id:=26) 11 AC (by kernel_rfl) ?_;dsimp only [List.take,List.drop];refine gP xM <| gP xM <| gP xL <| gP xF <| gP xD <| gP xM <| gP ApM <| gP xL <| gP xM <| gP (xCl func86 BL (ha:=by with_unfolding_all first|((repeat' first|exact Br rfl rfl|refine AO rfl rfl ?_ ?_|refine Dn rfl rfl ?_|refine Cf rfl rfl ?_|exact Bi rfl (fun h=>by cases h)|exact Wt rfl rfl rfl) <;> fail)|fail)) <| gP (xIo (i:=j) Ad) ?_;refine Ke ?_;refine gZ Aaa ?_;exact Z9.o)|(intro Z9;refine Tx 27 ?_;refine gO xM <| gO xM <| gO (xIo (i:=j) Ad) <| gO (by first|exact Wu rfl rfl rfl hat Ab|exact xLa Ab) <| gO (xCl func85 (LG)) ?_;exact Z9.o)|fail):p:=h ⟨k⟩
theorem PK (h:p:=by
 exact Au rfl (.cons_ (.tmp (.one (GL rfl rfl))) (.cons_ (ZB rfl (by decide) rfl) .nil_))):p:=h
theorem Ain (h:p:=by
 refine ⟨_,_,Gw _ 2 ?_ ?_ ?_,_,by omega,k+1,by omega,rfl,hnx (PF TS hlg),Sn hgd hlg,rfl,rfl⟩
 ·rfl
 ·exact mB rfl rfl
 ·exact ⟨BS rfl,Ws,trivial⟩):p:=h
theorem Aio (h:p:=by
 refine ⟨_,_,Gw _ 2 ?_ ?_ ?_,_,by omega,k+1,by omega,rfl,Dr hnl2 hst hlg,rfl,rfl⟩
 ·rfl
 ·exact mB rfl rfl
 ·exact ⟨BS rfl,Ws,trivial⟩):p:=h
theorem Aip (h:p:=by
 refine ⟨_,_,Be 1,_,?_,k+1,by omega,rfl,Dr hv hq hb,rfl,rfl⟩
 ·omega):p:=h
theorem ApN (h:p:=by first|exact UD (n:=bs.length) rfl rfl rfl Ad Ai (by omega) (by decide)|exact BG rfl rfl rfl Ad Ai (by omega) (by decide)):p:=h
theorem Ww (h:p:=by first|exact xNt|exact xNg):p:=h
theorem UI (t:Bool) {ps:List Prt} {bs:List Bk} {os:List Int} (hl:Dx ps bs os) (qs:List (Rv × Rv)) (hw:∀ q∈qs,RvL q.1∧RvL q.2) (hrl:qs.length≤1000000):CV prog Ah 38 [aDg t ps bs os,.one (Vn qs)] [AeT (okQ (rgE ps bs os qs) (rgV ps bs (qs.map ivQ))),aE (rgE ps bs os qs)]:=by
 refine cvz func38 ntmps38 ?_
 have DL:=(Hr t hl (ps:=ps) (bs:=bs) (os:=os)).cv
 have OL:=(Sj t hl (ps:=ps) (bs:=bs) (os:=os)).cv
 have hnl:=BP (AX bs)
 have hol:=BP (Co bs)
 have hl1:=hl.l1
 have hl2:=hl.l2
 have hl3:=hl.l3
 have hob:=Sl (bs:=bs)
 have hdb:=Fp bs
 by_cases h0:AY ps bs os=0
 case neg =>
  rw [if_neg h0] at DL
  have hE:=rgE1 (qs:=qs) h0
  rw [hE,NN h0]
  repeat' (with_reducible first|refine qq ?_|refine AdB ?_|(refine Tx 3 ?_;refine gO xM <| gO xA <| gO xA ?_))
  exact Au rfl (.cons_ (.tmp (.one (GL rfl rfl))) (.cons_ (AbN rfl rfl) .nil_))
 rw [if_pos h0,h0] at DL
 rw [if_pos h0,h0] at OL
 by_cases hL:qs.length=(AX bs).length
 case neg =>
  have hE:=rgE2 (os:=os) h0 hL
  rw [hE,NN (by decide)]
  repeat' (with_reducible first|refine qq ?_|refine AdB ?_|(refine Tx 4 ?_;refine gO xM <| gO xN <| gO xM <| gO xN <| gO xNe ?_)|(refine Tx 5 ?_;refine gO (xMi underlying85) <| gO xA <| gO xA ?_))
  exact PK
 repeat' (with_reducible first|refine qq ?_|refine AdB ?_|(refine Tx 4 ?_;refine gO xM <| gO xN <| gO xM <| gO xN <| gO xNe ?_)|(refine Tx 6 ?_;refine gO xM <| gO xN <| gO xM ?_))
 refine AJ (Be 1) (Al (fun n Fr H=>∃ k:Nat,k≤qs.length∧n=qs.length - k∧(∀ q∈qs.take k,ivC q=true)∧Fr=ofL [(1,vd (Vn qs)),(2,vr 0),(6,vd (AU false (BU (AX bs)))),(30,vd (Vn qs)),(31,vi qs.length),(32,vi ((k:Nat)))]∧H=[.box 26 [.d (CY t ps),.d (Cw t bs),.d (AU t os)]]) (n0:=qs.length) ⟨0,ad _,rfl,(fun r hr=>by simp at hr),rfl,rfl⟩ ?_)
 rintro n Fr H ⟨k,hk,rfl,hv,rfl,rfl⟩
 by_cases hlt:k<qs.length
 case pos =>
  obtain ⟨q,hq⟩:∃ q,qs[k]?=some q:=⟨_,gE hlt⟩
  have hqm:=hw q (gM hq)
  have VA:CV prog Ah 57 [.agg (dIr false q)] [aB (ivC q)]:=Iz q.1 q.2 hqm.1 hqm.2
  cases hb:ivC q
  case false =>
   rw [hb] at VA
   have hE:=rgE3 (os:=os) h0 hL (Adz hq hb)
   rw [hE,NN (by decide)]
   repeat' (with_reducible first|refine qq ?_|(refine Tx 7 ?_;refine gO xLt ?_)|(refine Tx 8 ?_;refine gO (xIr Ad (PI hq)) <| gO xL <| gN (xAl Ai) <| gZ (xSk Ab) ?_)|(refine Tx 9 ?_;refine gO xL <| gO (xCl func57 (VA)) <| gO Ww ?_)|(refine Tx 10 ?_;refine gO (xMi underlying85) <| gO xA <| gO xA ?_))
   exact PK
  case true =>
   rw [hb] at VA
   repeat' (with_reducible first|refine qq ?_|(refine Tx 7 ?_;refine gO xLt ?_)|(refine Tx 8 ?_;refine gO (xIr Ad (PI hq)) <| gO xL <| gN (xAl Ai) <| gZ (xSk Ab) ?_)|(refine Tx 9 ?_;refine gO xL <| gO (xCl func57 (VA)) <| gO Ww ?_)|(refine Tx 11 ?_;refine gO xAd <| gO xM ?_))
   exact Aip
 obtain rfl:k=qs.length:=by omega
 rw [aq] at hv
 clear hlt hk
 have hva:¬ qs.all ivC=false:=by rw [gf];exact List.all_eq_true.2 hv
 have hE:=ArO (os:=os) h0 hL hva
 have hsl:(qs.map ivQ).length=(AX bs).length:=by rw [af];exact hL
 repeat' (with_reducible first|refine qq ?_|(refine Tx 7 ?_;refine gO xLt ?_)|(refine Tx 12 ?_;refine gO xL <| gO (xCl func35 (OL)) <| gO xMt <| gO xEx <| gO xEx <| gO xA <| gO xA ?_)|(refine Tx 13 ?_;refine gO xM <| gO (xNE Am) ?_)|(refine Tx 15 ?_;refine gO xF <| gO xD <| gO xN <| gN ApN <| gO xA ?_)|(refine Tx 16 ?_;refine gO xM <| gO xN <| gO xM ?_))
 refine AJ (Be 2 (h:=by rw [←hnl];exact mB rfl rfl)) (Al (fun n Fr H=>∃ k:Nat,k≤(AX bs).length∧n=(AX bs).length - k∧(∀ p∈(qs.map ivQ).take k,Eu p=false)∧Fr=ofL [(1,vd (Vn qs)),(2,vr 0),(6,vd (AU false (BU (AX bs)))),(10,vd (AU false (BU (Co bs)))),(11,vo 1 bs.length),(53,vd (AU false (BU (AX bs)))),(54,vi ((AX bs).length)),(55,vi ((k:Nat)))]∧H=[.box 26 [.d (CY t ps),.d (Cw t bs),.d (AU t os)],.row 45 6 bs.length (kWs (UF ((AX bs).take (k)) ((qs.map ivQ).take (k)) (List.replicate bs.length none)))]) (n0:=(AX bs).length) ⟨0,ad _,rfl,(fun r hr=>by simp at hr),rfl,rfl⟩ ?_)
 rintro n Fr H ⟨k,hk,rfl,hnl2,rfl,rfl⟩
 by_cases hlt:k<(AX bs).length
 case pos =>
  obtain ⟨i,hi⟩:∃ i,(AX bs)[k]?=some i:=⟨_,gE hlt⟩
  obtain ⟨q,hq⟩:∃ q,qs[k]?=some q:=⟨_,gE (by omega)⟩
  have hqm:=gM hq
  obtain ⟨sw,hdy,lw1,lw2⟩:=PJ (hw q hqm).1 (hw q hqm).2 (hv q hqm)
  have hst:(qs.map ivQ)[k]?=some (ivQ q):=by rw [ag,hq];rfl
  have hra:=PI hq
  rw [hdy] at hra
  have hil2:=(Hv hi).1
  have LG:=UH (ivQ q) sw.s1.ok sw.s2.ok lw1 lw2
  by_cases hlg:Eu (ivQ q)=true
  case pos =>
   rw [hlg] at LG
   rw [Ym hst hlg,if_pos rfl] at hE
   rw [hE,NN (by decide)]
   repeat' (with_reducible first|refine qq ?_|(refine Tx 17 ?_;refine gO xLt ?_)|refine Ail ?_|(refine Tx 20 ?_;refine gO (xMi underlying85) <| gO xA <| gO xA ?_))
   exact PK
  rw [ay] at hlg
  rw [hlg] at LG
  have sb:=(PF sw hlg)
  have sb2:=sb.more LBx LBx
  have HU:=PD (ivQ q) (ivQ q) sb2 sb2
  rw [AdA sb] at HU
  have tl:i<(UF ((AX bs).take (k)) ((qs.map ivQ).take (k)) (List.replicate bs.length none)).length:=by rw [Mv,ep];exact hil2
  have stV:(UF ((AX bs).take (k)) ((qs.map ivQ).take (k)) (List.replicate bs.length none)).set i (some (ivQ q))=(UF ((AX bs).take (k+1)) ((qs.map ivQ).take (k+1)) (List.replicate bs.length none)):=(PG _ hi hst).symm
  repeat' (with_reducible first|refine qq ?_|(refine Tx 17 ?_;refine gO xLt ?_)|refine Ail ?_|(refine Ax (id:=21) 12 AC (by kernel_rfl) ?_;dsimp only [List.take,List.drop];refine gP xM <| gP xM <| gP xM <| gP xM <| gP Wv <| gP xL <| gP xM <| gP xM <| gP Wv <| gP xL <| gP (xCl func82 (HU)) <| gP Wv ?_;refine Ke ?_;refine gZ Aaa ?_)|(refine Tx 22 ?_;refine gO xAd <| gO xM ?_))
  exact Aio
 obtain rfl:k=(AX bs).length:=by omega
 clear hlt hk
 rw [aj (by omega)] at hnl2
 have HD:=SN (bs:=bs) (st:=(qs.map ivQ)) (fun p hp=>by obtain ⟨q,hq,rfl⟩:=List.mem_map.1 hp;exact PF (PJ (hw q hq).1 (hw q hq).2 (hv q hq)).1 (hnl2 _ hp)) hsl
 rw [←Adx ps bs (qs.map ivQ)] at HD
 rw [aq,aj (l:=(qs.map ivQ)) (by omega),←Adx ps bs (qs.map ivQ)]
 repeat' (with_reducible first|refine qq ?_|(refine Tx 17 ?_;refine gO xLt ?_)|(refine Tx 23 ?_;refine gO xM <| gO xN <| gO xM ?_))
 refine AJ (Be 2 (h:=by rw [←hol];exact mB rfl rfl)) (Al (fun n Fr H=>∃ k:Nat,k≤(Co bs).length∧n=(Co bs).length - k∧Aay (rgS ps bs (qs.map ivQ) (k)) (AhU bs k)∧(∀ s,s<k→Eu (rgN ps bs (qs.map ivQ) s)=false)∧Fr=ofL [(1,vd (Vn qs)),(2,vr 0),(6,vd (AU false (BU (AX bs)))),(10,vd (AU false (BU (Co bs)))),(11,vo 1 bs.length),(79,vd (AU false (BU (Co bs)))),(80,vi ((Co bs).length)),(81,vi ((k:Nat)))]∧H=[.box 26 [.d (CY t ps),.d (Cw t bs),.d (AU t os)],.row 45 6 bs.length (kWs (rgS ps bs (qs.map ivQ) (k)))]) (n0:=(Co bs).length) ⟨0,ad _,rfl,HD,(fun s hs=>absurd hs (fo s)),rfl,rfl⟩ ?_)
 rintro n Fr H ⟨k,hk,rfl,HK,hgd,rfl,rfl⟩
 by_cases hlt:k<(Co bs).length
 case pos =>
  obtain ⟨j,hj⟩:∃ j,(Co bs)[k]?=some j:=⟨_,gE hlt⟩
  obtain ⟨y,hy,hk2,T⟩:=SO h0 hj HK
  have hjl:=(Pt hj).1
  have hvn:rgN ps bs (qs.map ivQ) k=Bs y (Gk (rgS ps bs (qs.map ivQ) (k)) y) ps:=by unfold rgN tkW;rw [hj];simp only [bf];rw [hy]
  have hgl:(gW (rgS ps bs (qs.map ivQ) (k))).length=bs.length:=by rw [Yk,Hz]
  have BL:=ZZ t ps bs os y (gW (rgS ps bs (qs.map ivQ) (k))) (Gk (rgS ps bs (qs.map ivQ) (k)) y) T.hk (by have:=T.len;omega) (by omega) (by omega) T.hl (fun p hp=>(T.hs p hp).more (by decide) (by decide)) T.hin T.hsv T.hsu T.hcl
  have TS:=T.sm
  rw [←hvn] at BL TS
  rw [hgl] at BL
  have LG:=UH (rgN ps bs (qs.map ivQ) k) TS.s1.ok TS.s2.ok TS.s1.lz TS.s2.lz
  have tl:j<(rgS ps bs (qs.map ivQ) (k)).length:=by rw [Hz];exact hjl
  have stV:(rgS ps bs (qs.map ivQ) (k)).set j (some (rgN ps bs (qs.map ivQ) k))=(rgS ps bs (qs.map ivQ) (k+1)):=(SJ hj).symm
  have hbad:=Yn (ps:=ps) (st:=(qs.map ivQ)) hlt
  have hnx:=PH HK hj
  have hat:(rgS ps bs (qs.map ivQ) (k+1))[j]?=some (some (rgN ps bs (qs.map ivQ) k)):=by rw [←stV,cn,if_pos rfl,if_pos tl]
  by_cases hlg:Eu (rgN ps bs (qs.map ivQ) k)=true
  case pos =>
   rw [hlg] at LG
   rw [hbad hlg,if_pos rfl] at hE
   rw [hE,NN (by decide)]
   repeat' (with_reducible first|refine qq ?_|(refine Tx 24 ?_;refine gO xLt ?_)|refine Aim ?_|(refine Tx 28 ?_;refine gO (xMi underlying85) <| gO xA <| gO xA ?_))
   exact PK
  rw [ay] at hlg
  rw [hlg] at LG
  repeat' (with_reducible first|refine qq ?_|(refine Tx 24 ?_;refine gO xLt ?_)|refine Aim ?_|(refine Tx 29 ?_;refine gO xAd <| gO xM ?_))
  exact Ain
 obtain rfl:k=(Co bs).length:=by omega
 clear hlt hk
 rw [Yo hnl2 hgd,if_neg (by decide)] at hE
 rw [hE,Un rfl]
 have hvE:(rgV ps bs (qs.map ivQ)).length=bs.length:=by unfold rgV;rw [Yk,Hz]
 unfold AeT
 rw [hvE]
 repeat' (with_reducible first|refine qq ?_|(refine Tx 24 ?_;refine gO xLt ?_)|(refine Tx 30 ?_;refine gO xM <| gO xA <| gO xA ?_))
 exact Au rfl (.cons_ (.tmp (.one (Wt rfl rfl rfl))) (.cons_ (Hc rfl rfl) .nil_))
section
variable {ps:List Prt} {bs:List Bk} {os:List Int} {qs:List (Rv × Rv)} {st:List Iq}
theorem AdC (h:Dt ps bs st=false):(∀ p∈st,Eu p=false)∧∀ t,t<(Co bs).length→Eu (rgN ps bs st t)=false:=by
 unfold Dt at h
 rw [lc] at h
 exact ⟨fun p hp=>by have:=List.any_eq_false.1 h.1 p hp;rwa [ay] at this,fun t ht=>by have:=List.any_eq_false.1 h.2 t (List.mem_range.2 ht);rwa [ay] at this⟩
theorem Aiq (hj:(Co bs)[t]?=some j) (hy:bs[j]?=some y):rgN ps bs st t=Bs y (Gk (rgS ps bs st t) y) ps:=by
 unfold rgN tkW
 rw [hj]
 simp only [bf]
 rw [hy]
theorem AlU (he:AY ps bs os=0) (hst:∀ p∈st,IwS p LB LB) (hl:st.length=(AX bs).length) (hb:Dt ps bs st=false):∀ t,t≤(Co bs).length→Aay (rgS ps bs st t) (AhU bs t):=fun t=>by
 induction t with
 | zero=>intro _;rw [Adx];exact SN hst hl
 | succ t ih =>
  intro ht
  obtain ⟨j,hj⟩:∃ j,(Co bs)[t]?=some j:=⟨_,gE ht⟩
  have h:=ih (by omega)
  obtain ⟨y,hy,_,T⟩:=SO he hj h
  have TS:=T.sm
  rw [←Aiq hj hy] at TS
  exact PH h hj (PF TS ((AdC hb).2 t ht))
theorem Yp (he:AY ps bs os=0) (hst:∀ p∈st,IwS p LB LB) (hl:st.length=(AX bs).length) (hb:Dt ps bs st=false) {i:Nat} (hi:i<bs.length):∃ p,(rgV ps bs st)[i]?=some p∧(rgS ps bs st (Co bs).length)[i]?=some (some p)∧IwS p LB LB:=by
 obtain ⟨p,hp,hs⟩:=AgH he (AlU he hst hl hb _ (aa _)) hi
 exact ⟨p,ApG hp,hp,hs⟩
theorem LL:(rgV ps bs st).length=bs.length:=by unfold rgV;rw [Yk,Hz]
end
def clOk (ps:List Prt) (bs:List Bk) (st:List Iq) (k:Nat):Bool :=
 iIn ((BB bs)[k]?.getD (0,0),(BB bs)[k]?.getD (0,0)) (st[k]?.getD iZ) && iIn ((rgV ps bs st)[AqP bs ((AX bs)[k]?.getD 0)]?.getD iZ) (st[k]?.getD iZ)
def Wx (ps:List Prt) (bs:List Bk) (st:List Iq):Bool:=(List.range (AX bs).length).all (clOk ps bs st)
theorem AgI {st:List Iq} (h:∀ k,k<(AX bs).length→clOk ps bs st k=true):Wx ps bs st=true:=List.all_eq_true.2 fun k hk=>h k (List.mem_range.1 hk)
abbrev pw (k:Int):Pq:=Af 1 0 k
theorem NQ {k:Int} (h0 : -(n:Int)≤k) (h1:k≤n) (hn:n≤65536):Sm (pw k) (n+1) n:=by
 unfold pw Af
 split
 ·exact (Sm.mk_nf (m:=1) (n:=n+1) (d:=n) (p:=0+(-(max (-65536) (min k 65536))).toNat) (by omega) (by omega) (Nat.one_lt_two_pow (by omega)))
 ·refine (Sm.mk_nf (n:=n+1) (d:=n) (p:=0) (by omega) (by omega) ?_)
  rw [Int.one_mul,fx]
  exact Nat.pow_lt_pow_right (by decide) (by omega)
theorem EL {k:Int} (h0 : -65536≤k) (h1:k≤65536):gv (pw k)=2 ^ (65536+k).toNat:=by
 by_cases hk:0≤k
 ·have:=Uo (p:=(1,0)) (n:=k.toNat) (ad _) (by omega)
  rw [show ((k.toNat:Nat):Int)=k by omega,Py,Int.one_mul,←ak] at this
  rw [show gv (pw k)=_ from this]
  congr 1
  show 65536+k.toNat=_
  omega
 ·have:=Up (p:=(1,0)) (n:=(-k).toNat) (by show 0+(-k).toNat≤65536;omega) (by omega)
  rw [show (-(((-k).toNat:Nat):Int))=k by omega,Py,Int.one_mul] at this
  refine jc (ic (Bf (-k).toNat)) ?_
  rw [this,←ak]
  congr 1
  show 65536=_
  omega
def upK (x:Pq):Int:=(Bj x.1.natAbs:Int) - 1 - x.2
def upP (x:Pq):Pq:=if x.1=0 then x else if x.1<0 then (if upK x < -30 then (0,0) else Em (pw (upK x))) else pw (max (if Gf (pw (upK x)) x<0 then upK x+1 else upK x) (-30))
theorem Ov (k:Int) (h0 : -65536≤k) (h1:k≤65536):CV prog Ah 167 [aI k] [aDy false (pw k).1 (pw k).2]:=by
 refine cvz func167 ntmps167 ?_
 have OF:=FS 1 (by decide) (by decide)
 have SH:=BW 1 0 k ⟨by decide,fun h=>absurd rfl h⟩ (lT (Aw (k:=2) (by decide)) (by decide)) (by omega)
 repeat' (with_reducible first|refine qq ?_|(refine Tx 0 ?_;refine gN (xAl Aj) ?_)|(refine Tx 1 ?_;refine gO (xCl func123 (OF)) <| gO xM <| gO (xCl func27 (SH)) <| gZ (xSk Aa) ?_))
 exact Rd
def EQ (a:Iq):Bool:=decide (0<Gf (Fu a) (pw 40))
theorem Yq (a:Iq) (h:IwS a 20000 20000):CV prog Ah 80 [aIw false a] [aB (EQ a)]:=by
 refine cvz func80 ntmps80 ?_
 have MG:=Mu a h
 have hm:=h.abs.s2
 have PW:=Ov 40 (by decide) (by decide)
 have hp:=NQ (k:=40) (n:=40) (by decide) (by decide) (by decide)
 have CM:=(Ck (Fu a).1 (Fu a).2 (pw 40).1 (pw 40).2 hm.ok hp.ok hm.lz hp.lz)
 have hf:decide (0<Gf (Fu a) (pw 40))=EQ a:=rfl
 repeat' (with_reducible first|refine qq ?_|(refine Tx 0 ?_;refine gN xBo <| gO xA ?_)|(refine Tx 1 ?_;refine gO xL <| gO (xCl func151 (MG)) <| gO (xCl func167 (PW)) <| gO (xCl func9 (CM)) <| gO (by first|exact Hk rfl rfl rfl hf|exact xGt) <| gO xA ?_))
 exact UG
def P2 (j:Nat):Int:=2 ^ (65506+j)
theorem ApO (h:P2 i≤P2 j):i≤j:=Nat.not_lt.1 fun hc=>by
 unfold P2 at h
 rw [show 65506+i=(65506+j)+((i - j - 1)+1) by omega,ak,fw] at h
 have q1:=Bf (65506+j)
 have q2:=Bf (i - j - 1)
 have:=jz (show (2:Int)≤2 ^ (i - j - 1)*2 by omega) (bg q1)
 omega
def inU (z:Int):Prop:=z=0∨∃ j:Nat,z=P2 j∨z = -P2 j
theorem SQ {x:Pq} (h0:x.1≠0):1≤Bj x.1.natAbs∧2 ^ (Bj x.1.natAbs - 1)≤x.1.natAbs∧x.1.natAbs<2 ^ Bj x.1.natAbs:=by
 have h1:1≤Bj x.1.natAbs:=Nat.one_le_iff_ne_zero.2 fun hc=>by
  have:Bj x.1.natAbs≤0:=by omega
  have:=Dj.1 this
  omega
 refine ⟨h1,Nat.not_lt.1 fun hc=>?_,Dj.1 (aa _)⟩
 have:=Dj.2 hc
 omega
theorem ArP {x:Pq} (h:Sm x n n) (hn:n≤65000) (h30:30≤n):Sm (upP x) (n+2) (n+1)∧gv x≤gv (upP x)∧inU (gv (upP x)):=by
 by_cases h0:x.1=0
 ·exact ⟨by unfold upP;rw [if_pos h0];exact h.more (by omega) (by omega),by unfold upP;rw [if_pos h0];exact ci _,by unfold upP gv;rw [if_pos h0,h0,Int.zero_mul];exact .inl rfl⟩
 ·obtain ⟨b1,b2,b3⟩:=SQ h0
  have bn:Bj x.1.natAbs≤n:=Dj.2 h.n
  have hd:=h.d
  have hk:upK x=(Bj x.1.natAbs:Int) - 1 - x.2:=rfl
  have ex:gv x=x.1*2 ^ (GQ - x.2):=rfl
  have hG:GQ=65536:=rfl
  have pk:gv (pw (upK x))=2 ^ (Bj x.1.natAbs - 1)*2 ^ (GQ - x.2):=by rw [EL (by omega) (by omega),←ak];congr 1;omega
  have pk1:gv (pw (upK x+1))=2 ^ Bj x.1.natAbs*2 ^ (GQ - x.2):=by rw [EL (by omega) (by omega),←ak];congr 1;omega
  have grid:∀ k:Int,-30≤k→k≤65536→gv (pw k)=P2 (k+30).toNat:=fun k k0 k1=>by rw [EL (by omega) k1];unfold P2;congr 1;omega
  have p0:=Bf (GQ - x.2)
  have c2:((2 ^ (Bj x.1.natAbs - 1):Nat):Int)=2 ^ (Bj x.1.natAbs - 1):=Int.natCast_pow ..
  have c3:((2 ^ Bj x.1.natAbs:Nat):Int)=2 ^ Bj x.1.natAbs:=Int.natCast_pow ..
  unfold upP
  rw [if_neg h0]
  by_cases h1:x.1<0
  ·rw [if_pos h1]
   by_cases h2:upK x < -30
   ·rw [if_pos h2]
    refine ⟨Sm.zero _ _,?_,by rw [GE];exact .inl rfl⟩
    rw [GE,ex]
    exact lh (bg h1) (bg p0)
   ·rw [if_neg h2]
    refine ⟨((NQ (n:=n) (by omega) (by omega) (by omega)).neg).more (by omega) (by omega),?_,?_⟩
    ·rw [El,pk,ex,←di]
     exact eh (by omega) (bg p0)
    ·rw [El,grid _ (by omega) (by omega)];exact .inr ⟨_,.inr rfl⟩
  ·rw [if_neg h1]
   have key:∀ k':Int,gv x≤gv (pw k')→k'≤n → -65536≤k'→Sm (pw (max k' (-30))) (n+2) (n+1)∧gv x≤gv (pw (max k' (-30)))∧inU (gv (pw (max k' (-30)))):=fun k' hk' hn' hl'=>by
    refine ⟨(NQ (n:=n) (by omega) (by omega) (by omega)).more (by omega) (by omega),Int.le_trans hk' ?_,.inr ⟨_,.inl (grid _ (by omega) (by omega))⟩⟩
    rw [EL hl' (by omega),EL (by omega) (by omega)]
    have hle:(65536+k').toNat≤(65536+max k' (-30)).toNat:=by omega
    rw [show (65536+max k' (-30)).toNat=(65536+k').toNat+((65536+max k' (-30)).toNat - (65536+k').toNat) by omega,ak]
    have q1:=Bf (65536+k').toNat
    have q2:=Bf ((65536+max k' (-30)).toNat - (65536+k').toNat)
    have:=jz (show (1:Int)≤2 ^ ((65536+max k' (-30)).toNat - (65536+k').toNat) by omega) (bg q1)
    rwa [Int.mul_one] at this
   have sk:=NQ (k:=upK x) (n:=n) (by omega) (by omega) (by omega)
   by_cases h3:Gf (pw (upK x)) x<0
   ·rw [if_pos h3]
    refine key _ ?_ (by omega) (by omega)
    rw [pk1,ex]
    exact eh (by omega) (bg p0)
   ·rw [if_neg h3]
    exact key _ ((Px sk.le h.le).1 (Int.not_lt.1 h3)) (by omega) (by omega)
theorem UJ (k:p') (h:Hd9 p'→p:=by with_reducible first|(intro Z9;refine qq ?_;exact Z9.o)|(intro Z9;refine Tx 0 ?_;refine gN xBo <| gN (xAl Aj) ?_;exact Z9.o)|(intro Z9;refine Tx 1 ?_;refine gO xL <| gO (xCl func28 (SG)) <| gO xEq ?_;exact Z9.o)|fail):p:=h ⟨k⟩
theorem Ys (k:p') (h:Hd9 p'→p:=by with_reducible first|(intro Z9;refine Bl (id:=3) AC (by kernel_rfl) ?_;refine gP xL <| gP (xCl func126 (BT)) <| gP xSb <| gP xF <| gP xD <| gP xSb <| gP xA ?_;refine Ke ?_;exact Z9.o)|(intro Z9;refine Tx 4 ?_;refine gO xL <| gO (xCl func28 (SG)) <| gO xLt ?_;exact Z9.o)|fail):p:=h ⟨k⟩
theorem Air (k:p') (h:Hd9 p'→p:=by with_reducible first|(intro Z9;refine Bl (id:=8) AC (by kernel_rfl) ?_;refine gP xM <| gP (xCl func167 (PW)) <| gP xL <| gP (xCl func9 (CM)) <| gP xLt ?_;refine Ke ?_;exact Z9.o)|(intro Z9;refine Tx 10 ?_;refine gO xM <| gO (by exact Lr rfl rfl rfl) <| gO (by first|exact xCl func167 (PM)|exact xCl func167 (PW)) <| gZ (xSk Aa) ?_;exact Z9.o)|fail):p:=h ⟨k⟩
theorem AdD (x:Pq) (h:Sm x 20000 20000):CV prog Ah 84 [aDy false x.1 x.2] [aDy false (upP x).1 (upP x).2]:=by
 refine cvz func84 ntmps84 ?_
 have hd:=h.d
 have hbn:Bj x.1.natAbs≤20000:=Dj.2 h.n
 have hl:(Ac x.1.natAbs).length≤40000:=lT (h.lenN 625 (by decide)) (by decide)
 have SG:=Ms x.1 x.2 h.ok hl
 have BT:=Oq x.1 x.2 h.ok hl
 have PW:=Ov (((Bj x.1.natAbs:Nat):Int) - 1 - (x.2:Int)) (by omega) (by omega)
 have sp:=NQ (k:=((Bj x.1.natAbs:Nat):Int) - 1 - (x.2:Int)) (n:=20001) (by omega) (by omega) (by decide)
 have lp:=lT (sp.lenN 626 (by decide)) (show 626≤40000 by decide)
 by_cases h0:x.1=0
 case pos =>
  rw [show upP x=x from if_pos h0]
  rw [show sgI x.1=0 by unfold sgI;(repeat' split) <;> omega] at SG
  repeat' (with_reducible first|refine UJ ?_|(refine Tx 2 ?_;refine gO xL <| gZ (xSk Aa) ?_))
  exact Rd
 have hk:upK x=((Bj x.1.natAbs:Nat):Int) - 1 - (x.2:Int):=rfl
 by_cases h1:x.1<0
 case pos =>
  rw [show sgI x.1 = -1 by unfold sgI;(repeat' split) <;> omega] at SG
  by_cases h2:((Bj x.1.natAbs:Nat):Int) - 1 - (x.2:Int) < -30
  case pos =>
   rw [show upP x=(0,0) by unfold upP;rw [if_neg h0,if_pos h1,if_pos (by omega)],Ht]
   repeat' (with_reducible first|refine UJ ?_|refine Ys ?_|(refine Tx 5 ?_;refine gO xM <| gO xLt ?_)|(refine Tx 6 ?_;refine gO (by exact AF rfl Ga rfl rfl) <| gZ (xSk Aa) ?_))
   exact Au rfl (.cons_ (ArK Aa rfl) .nil_)
  rw [show upP x=Em (pw (((Bj x.1.natAbs:Nat):Int) - 1 - (x.2:Int))) by unfold upP;rw [if_neg h0,if_pos h1,if_neg (by omega),hk]]
  have NG:=GA (pw (((Bj x.1.natAbs:Nat):Int) - 1 - (x.2:Int))).1 (pw (((Bj x.1.natAbs:Nat):Int) - 1 - (x.2:Int))).2 sp.ok lp
  repeat' (with_reducible first|refine UJ ?_|refine Ys ?_|(refine Tx 5 ?_;refine gO xM <| gO xLt ?_)|(refine Tx 7 ?_;refine gO xM <| gO (xCl func167 (PW)) <| gO (xCl func83 (NG)) <| gZ (xSk Aa) ?_))
  exact Rd
 rw [show sgI x.1=1 by unfold sgI;(repeat' split) <;> omega] at SG
 have CM:=Ck (pw (((Bj x.1.natAbs:Nat):Int) - 1 - (x.2:Int))).1 (pw (((Bj x.1.natAbs:Nat):Int) - 1 - (x.2:Int))).2 x.1 x.2 sp.ok h.ok lp hl
 by_cases h3:Bm (pw (((Bj x.1.natAbs:Nat):Int) - 1 - (x.2:Int))).1 (pw (((Bj x.1.natAbs:Nat):Int) - 1 - (x.2:Int))).2 x.1 x.2<0
 case pos =>
  have PM:=Ov (max (((Bj x.1.natAbs:Nat):Int) - 1 - (x.2:Int)+1) (-30)) (by omega) (by omega)
  rw [show upP x=pw (max (((Bj x.1.natAbs:Nat):Int) - 1 - (x.2:Int)+1) (-30)) by unfold upP;rw [if_neg h0,if_neg h1,hk,if_pos h3]]
  repeat' (with_reducible first|refine UJ ?_|refine Ys ?_|refine Air ?_|(refine Tx 9 ?_;refine gO xM <| gO xAd <| gO xA ?_))
  exact Rd
 case neg =>
  have PM:=Ov (max (((Bj x.1.natAbs:Nat):Int) - 1 - (x.2:Int)) (-30)) (by omega) (by omega)
  rw [show upP x=pw (max (((Bj x.1.natAbs:Nat):Int) - 1 - (x.2:Int)) (-30)) by unfold upP;rw [if_neg h0,if_neg h1,hk,if_neg h3]]
  repeat' (with_reducible first|refine UJ ?_|refine Ys ?_|refine Air ?_)
  exact Rd
def UL:List Int:=0::((List.range 71).map P2++(List.range 71).map fun j => -P2 j)
def phi (z:Int):Nat:=UL.countP fun m=>decide (m<z)
def psi (z:Int):Nat:=UL.countP fun m=>decide (z<m)
theorem Ais:UL.length=143:=by unfold UL;rw [bw,ao,af,af,fb]
theorem ApP (z:Int):phi z≤143:=by have:=List.countP_le_length (p:=fun m=>decide (m<z)) (l:=UL);rw [Ais] at this;exact this
theorem ApQ (z:Int):psi z≤143:=by have:=List.countP_le_length (p:=fun m=>decide (z<m)) (l:=UL);rw [Ais] at this;exact this
theorem SR {α:Type} {p q:α→Bool} {m:α} (h:∀ x,p x=true→q x=true) (h1:p m=false) (h2:q m=true):∀ {l:List α},m∈l→l.countP p<l.countP q
 | [],hm=>by cases hm
 | x::l,hm=>by
  have hle:l.countP p≤l.countP q:=List.countP_mono_left fun y _ hy=>h y hy
  rw [List.countP_cons,List.countP_cons]
  rcases List.mem_cons.1 hm with rfl|hm
  ·rw [h1,h2];simp;omega
  ·have ih:=SR h h1 h2 hm
   cases hp:p x with
   | true=>rw [h x hp];omega
   | false=>simp;cases q x <;> simp <;> omega
theorem AdE {z:Int} (h:inU z) (h1 : -P2 70≤z) (h2:z≤P2 70):z∈UL:=by
 unfold UL
 rcases h with rfl|⟨j,rfl|rfl⟩
 ·exact ig ..
 ·have:=ApO h2
  exact gd _ (List.mem_append_left _ (kc (List.mem_range.2 (by omega))))
 ·have:=ApO (i:=j) (j:=70) (by omega)
  exact gd _ (List.mem_append_right _ (kc (f:=fun j => -P2 j) (List.mem_range.2 (by omega))))
theorem ApR {z z':Int} (hm:z'∈UL) (h:z'<z):phi z'<phi z:=SR (p:=fun m=>decide (m<z')) (q:=fun m=>decide (m<z)) (m:=z') (fun x hx=>decide_eq_true (by have:=of_decide_eq_true hx;omega)) (decide_eq_false (by omega)) (decide_eq_true h) hm
theorem ApS {z z':Int} (hm:z'∈UL) (h:z<z'):psi z'<psi z:=SR (p:=fun m=>decide (z'<m)) (q:=fun m=>decide (z<m)) (m:=z') (fun x hx=>decide_eq_true (by have:=of_decide_eq_true hx;omega)) (decide_eq_false (by omega)) (decide_eq_true h) hm
theorem AdF {d:Nat} (h:IwS a n d) (hf:EQ a=false) : -P2 70≤gv a.1∧gv a.1≤P2 70 ∧ -P2 70≤gv a.2∧gv a.2≤P2 70:=by
 have hp:=NQ (k:=40) (n:=40) (by decide) (by decide) (by decide)
 have h1:=of_decide_eq_false hf
 have h2:=(Hx (p:=Fu a) (q:=pw 40) h.abs.s2.le hp.le).1 (Int.not_lt.1 h1)
 rw [EL (by decide) (by decide),show gv (Fu a)=_ from (Wn h).2] at h2
 have e:(2:Int) ^ (65536+(40:Int)).toNat=P2 70:=by unfold P2;congr 1
 rw [e] at h2
 omega
theorem SS {p:Pq} {d den:Nat} (h:Sm p n d) (hd:den≤65536):Sm (QW p den) n den:=by
 unfold QW Bo
 split
 ·exact ⟨h.ok,h.n,by assumption⟩
 ·exact Sm.mk_nf (aa _) hd (gk Uv h.n)
theorem AgJ {d den:Nat} (h:IwS a n d) (hd:den≤65536):IwS (GO a den) n den∧gv (GO a den).1≤gv a.1∧gv a.2≤gv (GO a den).2:=by
 have f1:=Sq (p:=a.1) (den:=den) h.s1.le hd
 have f2:=Sq (p:=Em a.2) (den:=den) h.s2.neg.le hd
 rw [El] at f2
 have g1:gv (GO a den).1≤gv a.1:=f1.1
 have g2:gv a.2≤gv (GO a den).2:=by
  show _≤gv (Em (QW (Em a.2) den))
  rw [El]
  have f3:gv (QW (Em a.2) den) ≤ -gv a.2:=f2.1
  omega
 exact ⟨⟨SS h.s1 hd,(SS h.s2.neg hd).neg,by have:=h.le;omega⟩,g1,g2⟩
def Cc (inv r:Iq):Iq:=GO (Gg inv r) 64
def loC (inv r:Iq):Bool:=decide (¬ (Cc inv r).1=inv.1)
def hiC (inv r:Iq):Bool:=decide (¬ (Cc inv r).2=inv.2)
def Du (w:Bool) (inv r:Iq):Iq:=(if (w && loC inv r)=true then Em (upP (Em (Cc inv r).1)) else (Cc inv r).1,if (w && hiC inv r)=true then upP (Cc inv r).2 else (Cc inv r).2)
theorem AdG {b:Iq} {d:Nat} (h:IwS a n d) (k:IwS b n d):gv (Gg a b).1=min (gv a.1) (gv b.1)∧gv (Gg a b).2=max (gv a.2) (gv b.2):=by
 obtain ⟨e1,e2,e3⟩:=Gh h.s1 h.s2 k.s1 k.s2
 have h1:=h.le
 have h2:=k.le
 exact ⟨by show gv (CI [a.1,a.2,b.1,b.2]).1=_;rw [e1];omega,by show gv (CI [a.1,a.2,b.1,b.2]).2=_;rw [e2];omega⟩
theorem Re (h:IwS a LB LB) (k:IwS r LB LB):IwS (Cc a r) LB 64∧gv (Cc a r).1≤gv a.1∧gv (Cc a r).1≤gv r.1∧gv a.2≤gv (Cc a r).2∧gv r.2≤gv (Cc a r).2:=by
 obtain ⟨e1,e2⟩:=AdG h k
 obtain ⟨s,r1,r2⟩:=AgJ (h.hull k) (den:=64) (by decide)
 exact ⟨s,by show gv (GO (Gg a r) 64).1≤_;omega,by show gv (GO (Gg a r) 64).1≤_;omega,by show _≤gv (GO (Gg a r) 64).2;omega,by show _≤gv (GO (Gg a r) 64).2;omega⟩
theorem Nl {p:Pq} (h:Sm p LB 64):Sm (upP p) 20000 20000∧gv p≤gv (upP p)∧inU (gv (upP p)):=by
 obtain ⟨h1,h2,h3⟩:=ArP (h.more (aa LB) (show 64≤LB by decide)) (by decide) (by decide)
 exact ⟨h1.more (by decide) (by decide),h2,h3⟩
theorem PN (h:IwS a LB LB) (k:IwS r LB LB):IwS (Du w a r) 20000 20000∧gv (Du w a r).1≤gv a.1∧gv a.2≤gv (Du w a r).2 ∧
  (w=true→((loC a r=false∧(Du w a r).1=a.1)∨(gv (Du w a r).1<gv a.1∧inU (gv (Du w a r).1)))∧((hiC a r=false∧(Du w a r).2=a.2)∨(gv a.2<gv (Du w a r).2∧inU (gv (Du w a r).2)))):=by
 obtain ⟨s,r1,r2,r3,r4⟩:=Re h k
 have hh:=h.le
 obtain ⟨u1,u2,u3⟩:Sm (upP (Em (Cc a r).1)) 20000 20000∧gv (Em (Cc a r).1)≤gv (upP (Em (Cc a r).1))∧inU (gv (upP (Em (Cc a r).1))):=Nl s.s1.neg
 obtain ⟨v1,v2,v3⟩:=Nl s.s2
 rw [show gv (Em (Cc a r).1) = -gv (Cc a r).1 from El _] at u2
 have q1:Sm (Du w a r).1 20000 20000∧gv (Du w a r).1≤gv a.1∧(w=true→((loC a r=false∧(Du w a r).1=a.1)∨(gv (Du w a r).1<gv a.1∧inU (gv (Du w a r).1)))):=by
  show Sm (if (w && loC a r)=true then _ else _) _ _∧gv (if (w && loC a r)=true then _ else _)≤_∧(w=true→((_∧(if (w && loC a r)=true then _ else _)=_)∨(gv (if (w && loC a r)=true then _ else _)<_∧inU (gv (if (w && loC a r)=true then _ else _)))))
  by_cases hc:(w && loC a r)=true
  ·rw [if_pos hc]
   rw [ai] at hc
   have hne:¬ (Cc a r).1=a.1:=of_decide_eq_true hc.2
   have hlt:gv (Cc a r).1<gv a.1:=Int.lt_iff_le_and_ne.2 ⟨r1,fun e=>hne (Nu s.s1.ok h.s1.ok e)⟩
   rw [El]
   refine ⟨u1.neg,by omega,fun _=>.inr ⟨by omega,?_⟩⟩
   rcases u3 with e|⟨j,e|e⟩
   ·exact .inl (by omega)
   ·exact .inr ⟨j,.inr (by omega)⟩
   ·exact .inr ⟨j,.inl (by omega)⟩
  ·rw [if_neg hc]
   refine ⟨s.s1.more (by decide) (by decide),r1,fun hw=>.inl ?_⟩
   rw [hw,dq,ay] at hc
   exact ⟨hc,bu fun hn=>by rw [show loC a r=true from decide_eq_true hn] at hc;cases hc⟩
 have q2:Sm (Du w a r).2 20000 20000∧gv a.2≤gv (Du w a r).2∧(w=true→((hiC a r=false∧(Du w a r).2=a.2)∨(gv a.2<gv (Du w a r).2∧inU (gv (Du w a r).2)))):=by
  show Sm (if (w && hiC a r)=true then _ else _) _ _∧_≤gv (if (w && hiC a r)=true then _ else _)∧(w=true→((_∧(if (w && hiC a r)=true then _ else _)=_)∨(_<gv (if (w && hiC a r)=true then _ else _)∧inU (gv (if (w && hiC a r)=true then _ else _)))))
  by_cases hc:(w && hiC a r)=true
  ·rw [if_pos hc]
   rw [ai] at hc
   have hne:¬ (Cc a r).2=a.2:=of_decide_eq_true hc.2
   have hlt:gv a.2<gv (Cc a r).2:=Int.lt_iff_le_and_ne.2 ⟨r3,fun e=>hne (Nu h.s2.ok s.s2.ok e).symm⟩
   exact ⟨v1,by omega,fun _=>.inr ⟨by omega,v3⟩⟩
  ·rw [if_neg hc]
   refine ⟨s.s2.more (by decide) (by decide),r3,fun hw=>.inl ?_⟩
   rw [hw,dq,ay] at hc
   exact ⟨hc,bu fun hn=>by rw [show hiC a r=true from decide_eq_true hn] at hc;cases hc⟩
 exact ⟨⟨q1.1,q2.1,by have:=q1.2.1;have:=q2.2.1;omega⟩,q1.2.1,q2.2.1,fun hw=>⟨q1.2.2 hw,q2.2.2 hw⟩⟩
def rgA (ps:List Prt) (bs:List Bk) (l:List Iq) (k:Nat):Iq:=(rgV ps bs l)[AqP bs ((AX bs)[k]?.getD 0)]?.getD iZ
def nxI (ps:List Prt) (bs:List Bk) (w:Bool) (l:List Iq) (k:Nat):Iq:=Du w (l[k]?.getD iZ) (rgA ps bs l k)
def Cv (ps:List Prt) (bs:List Bk) (w:Bool) (l:List Iq):List Iq:=(List.range (AX bs).length).map (nxI ps bs w l)
def AqQ (ps:List Prt) (bs:List Bk) (l:List Iq) (k:Nat):Bool:=loC (l[k]?.getD iZ) (rgA ps bs l k) || hiC (l[k]?.getD iZ) (rgA ps bs l k)
def Tk (ps:List Prt) (bs:List Bk) (l:List Iq) (k:Nat):Bool:=(List.range k).any (AqQ ps bs l)
def FM (ps:List Prt) (bs:List Bk) (rd:Int):Nat→Nat→List Iq→Option (Int × List Iq)
 | 0,_,_=>none
 | f+1,r,l=>if Dt ps bs l=true then some (4,[]) else if Tk ps bs l (AX bs).length=false then some (0,l)
  else if (Cv ps bs (decide (rd<(r:Int))) l).any EQ=true then some (22,[]) else FM ps bs rd f (r+1) (Cv ps bs (decide (rd<(r:Int))) l)
structure PP (bs:List Bk) (l:List Iq):Prop where
 len:l.length=(AX bs).length
 iw:∀ a∈l,IwS a 20000 20000
 far:∀ a∈l,EQ a=false
 st:∀ k,k<(AX bs).length→gv (l[k]?.getD iZ).1≤gv ((BB bs)[k]?.getD (0,0))∧gv ((BB bs)[k]?.getD (0,0))≤gv (l[k]?.getD iZ).2
theorem IB {α:Type} {l:List α} {k:Nat} (h:k<l.length) (z:α):l[k]?.getD z∈l:=by rw [gE h,bf];exact fu h
section
variable {ps:List Prt} {bs:List Bk} {os:List Int} {l:List Iq} {rd:Int}
theorem UK (w:Bool):(Cv ps bs w l).length=(AX bs).length:=by unfold Cv;rw [af,fb]
theorem Yt (w:Bool) {k:Nat} (hk:k<(AX bs).length):(Cv ps bs w l)[k]?=some (nxI ps bs w l k):=by unfold Cv;rw [ag,jf hk];rfl
theorem PP.lb (h:PP bs l) (hb:Dt ps bs l=false):∀ a∈l,IwS a LB LB:=fun a ha=>PF (h.iw a ha) ((AdC hb).1 a ha)
theorem UM (he:AY ps bs os=0) (h:PP bs l) (hb:Dt ps bs l=false) {k:Nat} (hk:k<(AX bs).length):IwS (rgA ps bs l k) LB LB:=by
 obtain ⟨i,hi⟩:∃ i,(AX bs)[k]?=some i:=⟨_,gE hk⟩
 have hid:=Hv hi
 obtain ⟨y,hy⟩:∃ y,bs[i]?=some y:=⟨_,gE hid.1⟩
 obtain ⟨b,hA0,hbl⟩:=Wj he hy (by rw [←Hu hy];exact hid.2)
 obtain ⟨r,hr,_,hrs⟩:=Yp he (h.lb hb) h.len hb hbl
 unfold rgA
 rw [hi,bf,Wl hy hA0,hr]
 exact hrs
theorem PP.next (he:AY ps bs os=0) (h:PP bs l) (hb:Dt ps bs l=false) (w:Bool) (hf:(Cv ps bs w l).any EQ=false):PP bs (Cv ps bs w l):=by
 have key:∀ k,k<(AX bs).length→IwS (nxI ps bs w l k) 20000 20000∧gv (nxI ps bs w l k).1≤gv (l[k]?.getD iZ).1∧gv (l[k]?.getD iZ).2≤gv (nxI ps bs w l k).2:=fun k hk=>by
  have:=PN (w:=w) (h.lb hb _ (IB (by rw [h.len];exact hk) iZ)) (UM he h hb hk)
  exact ⟨this.1,this.2.1,this.2.2.1⟩
 refine ⟨UK w,fun a ha=>?_,fun a ha=>?_,fun k hk=>?_⟩
 ·obtain ⟨k,hk,rfl⟩:=List.mem_map.1 ha
  exact (key k (List.mem_range.1 hk)).1
 ·have:=List.any_eq_false.1 hf a ha
  rwa [ay] at this
 ·rw [Yt w hk,bf]
  obtain ⟨_,k1,k2⟩:=key k hk
  obtain ⟨s1,s2⟩:=h.st k hk
  exact ⟨Int.le_trans k1 s1,Int.le_trans s2 k2⟩
theorem AgK (h:Tk ps bs l (AX bs).length=false) {k:Nat} (hk:k<(AX bs).length):loC (l[k]?.getD iZ) (rgA ps bs l k)=false∧hiC (l[k]?.getD iZ) (rgA ps bs l k)=false:=by
 have:=List.any_eq_false.1 h k (List.mem_range.2 hk)
 rw [ay] at this
 exact Bool.or_eq_false_iff.1 this
theorem AdH (he:AY ps bs os=0) (h:PP bs l) (hb:Dt ps bs l=false) (hc:Tk ps bs l (AX bs).length=false):Wx ps bs l=true:=AgI fun k hk=>by
 have hl:=h.lb hb _ (IB (l:=l) (k:=k) (by rw [h.len];exact hk) iZ)
 have hr:=UM he h hb hk
 have hst:=Iw he
 have hs:=DA hst.sm k
 obtain ⟨s1,s2⟩:=h.st k hk
 obtain ⟨c1,c2⟩:=AgK hc hk
 have e1:(Cc (l[k]?.getD iZ) (rgA ps bs l k)).1=(l[k]?.getD iZ).1:=bu fun hn=>by rw [show loC _ _=true from decide_eq_true hn] at c1;cases c1
 have e2:(Cc (l[k]?.getD iZ) (rgA ps bs l k)).2=(l[k]?.getD iZ).2:=bu fun hn=>by rw [show hiC _ _=true from decide_eq_true hn] at c2;cases c2
 obtain ⟨_,_,r2,_,r4⟩:=Re hl hr
 rw [e1] at r2
 rw [e2] at r4
 show (iIn _ _ && iIn (rgA ps bs l k) _)=true
 rw [Mq (IwS.pt hs) hl,Mq hr hl,decide_eq_true (show _∧_ from ⟨s1,s2⟩),decide_eq_true (show _∧_ from ⟨r2,r4⟩)]
 rfl
theorem Yu (he:AY ps bs os=0):∀ (f r:Nat) (l:List Iq) (e:Int) (l':List Iq),PP bs l→FM ps bs rd f r l=some (e,l')→(e=0∧PP bs l'∧Dt ps bs l'=false∧Wx ps bs l'=true)∨((e=4∨e=22)∧l'=[])
 | 0,r,l,e,l',h,hi=>by cases hi
 | f+1,r,l,e,l',h,hi=>by
  unfold FM at hi
  by_cases h1:Dt ps bs l=true
  ·rw [if_pos h1] at hi;cases hi;exact .inr ⟨.inl rfl,rfl⟩
  ·rw [if_neg h1] at hi
   rw [ay] at h1
   by_cases h2:Tk ps bs l (AX bs).length=false
   ·rw [if_pos h2] at hi;cases hi;exact .inl ⟨rfl,h,h1,AdH he h h1 h2⟩
   ·rw [if_neg h2] at hi
    by_cases h3:(Cv ps bs (decide (rd<(r:Int))) l).any EQ=true
    ·rw [if_pos h3] at hi;cases hi;exact .inr ⟨.inr rfl,rfl⟩
    ·rw [if_neg h3] at hi
     rw [ay] at h3
     exact Yu he f (r+1) _ e l' (h.next he h1 _ h3) hi
def mI (a:Iq):Nat:=phi (gv a.1)+psi (gv a.2)
def mL (bs:List Bk) (l:List Iq):Nat:=((List.range (AX bs).length).map fun k=>mI (l[k]?.getD iZ)).sum
theorem Ait {α:Type} {f:α→Nat} {B:Nat} (h:∀ k,f k≤B):∀ L:List α,(L.map f).sum≤B*L.length
 | []=>by simp
 | x::L=>by
  have:=Ait h L
  have:=h x
  rw [bp,List.sum_cons,bw,Nat.mul_succ]
  omega
theorem Aiu {f g:Nat→Nat}:∀ {L:List Nat},(∀ k∈L,f k≤g k)→((L.map f).sum≤(L.map g).sum)∧((∃ k∈L,f k<g k)→(L.map f).sum<(L.map g).sum)
 | [],h=>⟨aa _,fun ⟨k,hk,_⟩=>by cases hk⟩
 | x::L,h=>by
  obtain ⟨i1,i2⟩:=Aiu (L:=L) fun k hk=>h k (gd _ hk)
  have hx:=h x (ig ..)
  rw [bp,bp,List.sum_cons,List.sum_cons]
  refine ⟨by omega,fun ⟨k,hk,hlt⟩=>?_⟩
  rcases List.mem_cons.1 hk with rfl|hk
  ·omega
  ·have:=i2 ⟨k,hk,hlt⟩;omega
theorem ArQ:mL bs l≤286*(AX bs).length:=by
 have:=Ait (f:=fun k=>mI (l[k]?.getD iZ)) (B:=286) (fun k=>by have:=ApP (gv (l[k]?.getD iZ).1);have:=ApQ (gv (l[k]?.getD iZ).2);unfold mI;omega) (List.range (AX bs).length)
 rwa [fb] at this
theorem ArR (he:AY ps bs os=0) (h:PP bs l) (hb:Dt ps bs l=false) (hc:¬ Tk ps bs l (AX bs).length=false) (hf:(Cv ps bs true l).any EQ=false):mL bs (Cv ps bs true l)<mL bs l:=by
 have hn:=h.next he hb true hf
 have key:∀ k,k<(AX bs).length→mI ((Cv ps bs true l)[k]?.getD iZ)≤mI (l[k]?.getD iZ)∧(AqQ ps bs l k=true→mI ((Cv ps bs true l)[k]?.getD iZ)<mI (l[k]?.getD iZ)):=fun k hk=>by
  have hm:=IB (l:=Cv ps bs true l) (k:=k) (by rw [hn.len];exact hk) iZ
  obtain ⟨f1,f2,f3,f4⟩:=AdF (hn.iw _ hm) (hn.far _ hm)
  have hs:=PN (w:=true) (h.lb hb _ (IB (by rw [h.len];exact hk) iZ)) (UM he h hb hk)
  have e:(Cv ps bs true l)[k]?.getD iZ=Du true (l[k]?.getD iZ) (rgA ps bs l k):=by rw [Yt true hk];rfl
  rw [e] at f1 f2 f3 f4 ⊢
  obtain ⟨_,_,_,h4⟩:=hs
  obtain ⟨a1,a2⟩:=h4 rfl
  have hcb:AqQ ps bs l k=(loC (l[k]?.getD iZ) (rgA ps bs l k) || hiC (l[k]?.getD iZ) (rgA ps bs l k)):=rfl
  have b1:phi (gv (Du true (l[k]?.getD iZ) (rgA ps bs l k)).1)≤phi (gv (l[k]?.getD iZ).1)∧(loC (l[k]?.getD iZ) (rgA ps bs l k)=true→phi (gv (Du true (l[k]?.getD iZ) (rgA ps bs l k)).1)<phi (gv (l[k]?.getD iZ).1)):=by
   rcases a1 with ⟨c,e⟩|⟨c,u⟩
   ·rw [e,c];exact ⟨aa _,fun h=>by cases h⟩
   ·have:=ApR (AdE u f1 f2) c
    exact ⟨by omega,fun _=>this⟩
  have b2:psi (gv (Du true (l[k]?.getD iZ) (rgA ps bs l k)).2)≤psi (gv (l[k]?.getD iZ).2)∧(hiC (l[k]?.getD iZ) (rgA ps bs l k)=true→psi (gv (Du true (l[k]?.getD iZ) (rgA ps bs l k)).2)<psi (gv (l[k]?.getD iZ).2)):=by
   rcases a2 with ⟨c,e⟩|⟨c,u⟩
   ·rw [e,c];exact ⟨aa _,fun h=>by cases h⟩
   ·have:=ApS (AdE u f3 f4) c
    exact ⟨by omega,fun _=>this⟩
  unfold mI
  refine ⟨by omega,fun hch=>?_⟩
  rw [hcb,fj] at hch
  rcases hch with hch|hch
  ·have:=b1.2 hch;omega
  ·have:=b2.2 hch;omega
 rw [gf] at hc
 obtain ⟨k,hk,hck⟩:=List.any_eq_true.1 hc
 exact (Aiu fun k hk=>(key k (List.mem_range.1 hk)).1).2 ⟨k,hk,(key k (List.mem_range.1 hk)).2 hck⟩
theorem Rf (he:AY ps bs os=0):∀ (f r:Nat) (l:List Iq),PP bs l→rd<(r:Int)→mL bs l<f→∃ res,FM ps bs rd f r l=some res
 | 0,r,l,h,hr,hm=>absurd hm (fo _)
 | f+1,r,l,h,hr,hm=>by
  unfold FM
  by_cases h1:Dt ps bs l=true
  ·rw [if_pos h1];exact ⟨_,rfl⟩
  ·rw [if_neg h1]
   rw [ay] at h1
   by_cases h2:Tk ps bs l (AX bs).length=false
   ·rw [if_pos h2];exact ⟨_,rfl⟩
   ·rw [if_neg h2,decide_eq_true hr]
    by_cases h3:(Cv ps bs true l).any EQ=true
    ·rw [if_pos h3];exact ⟨_,rfl⟩
    ·rw [if_neg h3]
     rw [ay] at h3
     have:=ArR he h h1 h2 h3
     exact Rf he f (r+1) _ (h.next he h1 _ h3) (by omega) (by omega)
theorem Rg (he:AY ps bs os=0):∀ (d f r:Nat) (l:List Iq),PP bs l→rd<(r:Int)+d→d+286*(AX bs).length<f→∃ res,FM ps bs rd f r l=some res
 | 0,f,r,l,h,hr,hf=>Rf he f r l h (by omega) (by have:=ArQ (bs:=bs) (l:=l);omega)
 | d+1,0,r,l,h,hr,hf=>absurd hf (fo _)
 | d+1,f+1,r,l,h,hr,hf=>by
  unfold FM
  by_cases h1:Dt ps bs l=true
  ·rw [if_pos h1];exact ⟨_,rfl⟩
  ·rw [if_neg h1]
   rw [ay] at h1
   by_cases h2:Tk ps bs l (AX bs).length=false
   ·rw [if_pos h2];exact ⟨_,rfl⟩
   ·rw [if_neg h2]
    by_cases h3:(Cv ps bs (decide (rd<(r:Int))) l).any EQ=true
    ·rw [if_pos h3];exact ⟨_,rfl⟩
    ·rw [if_neg h3]
     rw [ay] at h3
     exact Rg he d f (r+1) _ (h.next he h1 _ h3) (by omega) (by omega)
def BZ (bs:List Bk):List Iq:=(BB bs).map fun p=>(p,p)
theorem Nm (he:AY ps bs os=0) (hf:(BZ bs).any EQ=false):PP bs (BZ bs):=by
 have hst:=Iw he
 refine ⟨by unfold BZ;rw [af];exact hst.len,fun a ha=>?_,fun a ha=>?_,fun k hk=>?_⟩
 ·obtain ⟨p,hp,rfl⟩:=List.mem_map.1 ha
  exact (IwS.pt (hst.sm p hp)).more (by decide) (by decide)
 ·have:=List.any_eq_false.1 hf a ha
  rwa [ay] at this
 ·obtain ⟨p,hp⟩:∃ p,(BB bs)[k]?=some p:=⟨_,gE (by rw [hst.len];exact hk)⟩
  unfold BZ
  rw [ag,hp]
  exact ⟨ci _,ci _⟩
end
def Rh (a:Iq):Rv × Rv:=(DU a.1,DU a.2)
theorem LM (l:List Iq):Vn (l.map Rh)=.row false 6 l.length (An (dIw false) l):=by
 unfold Vn An
 rw [af,dp]
 congr 2
 refine fc fun a _=>?_
 show dRv false (DU a.1)++dRv false (DU a.2)=dIw false a
 rw [Fo,Fo]
 rfl
theorem IC (l:List Iq):(l.map Rh).map ivQ=l:=by
 rw [dp]
 refine (fc fun a _=>?_).trans (List.map_id l)
 show (rvP (DU a.1),rvP (DU a.2))=a
 rw [GP,GP]
section
variable {ps:List Prt} {bs:List Bk} {os:List Int} {l:List Iq} {rd:Int}
theorem Ri {d:Nat} (h:∀ a∈l,IwS a n d) (hn:n≤1280000):∀ q∈l.map Rh,RvL q.1∧RvL q.2:=fun q hq=>by
 obtain ⟨a,ha,rfl⟩:=List.mem_map.1 hq
 exact ⟨Gi (h a ha).s1 hn,Gi (h a ha).s2 hn⟩
theorem Yv {d:Nat} (h0:AY ps bs os=0) (h:∀ a∈l,IwS a n d) (hl:l.length=(AX bs).length):rgE ps bs os (l.map Rh)=if Dt ps bs l=true then 4 else 0:=by
 rw [ArO h0 (by rw [af];exact hl) (by rw [gf];exact List.all_eq_true.2 fun q hq=>by obtain ⟨a,ha,rfl⟩:=List.mem_map.1 hq;exact ZU (h a ha)),IC]
def nxS (ps:List Prt) (bs:List Bk) (w:Bool) (l:List Iq) (k:Nat):List (Option Iq):=(List.range (AX bs).length).map fun j=>if j<k then some (nxI ps bs w l j) else none
theorem AdI {k:Nat}:(nxS ps bs w l k).length=(AX bs).length:=by unfold nxS;rw [af,fb]
theorem ArS:List.replicate (AX bs).length none=nxS ps bs w l 0:=by
 unfold nxS
 refine ef fun i=>?_
 rw [ag,jm]
 by_cases hi:i<(AX bs).length
 ·rw [jf hi,if_pos hi];rfl
 ·rw [dr (by rw [fb];omega),if_neg hi];rfl
theorem AlV {k:Nat} (hk:k<(AX bs).length):(nxS ps bs w l k).set k (some (nxI ps bs w l k))=nxS ps bs w l (k+1):=by
 refine ef fun i=>?_
 rw [cn,AdI]
 unfold nxS
 rw [ag,ag]
 by_cases hi:i<(AX bs).length
 ·rw [jf hi,dc,dc]
  by_cases hik:k=i
  ·subst hik
   rw [if_pos rfl,if_pos hk,if_pos (by omega)]
  ·rw [if_neg hik]
   by_cases h2:i<k
   ·rw [if_pos h2,if_pos (by omega)]
   ·rw [if_neg h2,if_neg (by omega)]
 ·rw [dr (by rw [fb];omega),if_neg (by omega)];rfl
theorem AlW:kWs (nxS ps bs w l (AX bs).length)=(An (dIw false) (Cv ps bs w l)).map C.d:=by
 unfold kWs nxS An Cv
 rw [List.map_flatten,dp,dp,dp]
 congr 1
 refine fc fun j hj=>?_
 show kW (if j<_ then _ else _)=_
 rw [if_pos (List.mem_range.1 hj)]
 rfl
theorem UO {k b:Nat} (hi:(AX bs)[k]?=some i) (hy:bs[i]?=some y) (hA:y.args[0]?=some (b:Int)) (ha:l[k]?=some a) (hr:(rgV ps bs l)[b]?=some r):Tk ps bs l (k+1)=(Tk ps bs l k || loC a r || hiC a r)∧(∀ w,nxI ps bs w l k=Du w a r):=by
 have e1:rgA ps bs l k=r:=by unfold rgA;rw [hi,bf,Wl hy hA,hr,bf]
 refine ⟨?_,fun w=>by unfold nxI;rw [ha,bf,e1]⟩
 unfold Tk
 rw [dk,List.any_append,List.any_cons,List.any_nil,Bool.or_false]
 unfold AqQ
 rw [ha,bf,e1,Bool.or_assoc]
theorem Aiv {p q:Pq} {d n' d':Nat} (hp:Sm p n d) (hq:Sm q n' d'):(Bm p.1 p.2 q.1 q.2 != 0)=decide (¬ p=q):=by
 rw [ji,bne_iff_ne,decide_eq_true_eq]
 refine not_congr ((AhW hp.le hq.le).trans ⟨fun h=>Nu hp.ok hq.ok h,fun h=>by rw [h]⟩)
def La (ps:List Prt) (bs:List Bk) (rd:Int) (f:Nat):Option (Int × List Iq):=if (BZ bs).any EQ=true then some (22,[]) else FM ps bs rd f 1 (BZ bs)
theorem Gl {l:List Iq} {k:Nat} {p:Iq} (h:l[k]?=some p):(An (dIw false) (l.take k)).map C.d++(dIw false p).map C.d=(An (dIw false) (l.take (k+1))).map C.d∧(l.take k).length+1=(l.take (k+1)).length∧(l.take k).length≤k:=by
 refine ⟨?_,?_,by rw [em];omega⟩
 ·rw [bh,h,fp,OW,gc];rfl
 ·rw [bh,h,ao];rfl
end
theorem Aiw (k:p') (h:Hd9 p'→p:=by with_reducible first|(intro Z9;refine Tx 12 ?_;refine gO (xIr Ag (AfX hp)) <| gO xL <| gN (xAl Aj) <| gZ (xSk Aa) ?_;exact Z9.o)|(intro Z9;refine Tx 13 ?_;refine gO xL <| gO (xCl func79 (PT)) <| gN (xAl Ai) <| gZ (xSk Ab) ?_;exact Z9.o)|(intro Z9;refine Tx 14 ?_;refine gO xL <| gO (xCl func80 (FR)) ?_;exact Z9.o)|fail):p:=h ⟨k⟩
theorem Aab (t:Bool) {ps:List Prt} {bs:List Bk} {os:List Int} (hl:Dx ps bs os) (h0:AY ps bs os=0) (rd:Int) (r0:1≤rd) (r1:rd≤16) (res:Int × List Iq) (f:Nat) (hf:f≤1000000000) (hres:La ps bs rd f=some res):CV prog Ah 37 [aDg t ps bs os,aI rd] [AeT res.2,aE res.1]:=by
 refine cvz func37 ntmps37 ?_
 have SC:=AcR t hl (ps:=ps) (bs:=bs) (os:=os)
 have DL:=(Hr t hl (ps:=ps) (bs:=bs) (os:=os)).cv
 rw [h0,Un rfl] at SC
 rw [if_pos h0,h0] at DL
 unfold AmK at SC
 have hnl:=BP (AX bs)
 have hl2:=hl.l2
 have hdb:=Fp bs
 have hso:=Iw h0
 have hsl:=hso.len
 have hsi:(BZ bs).length=(BB bs).length:=af ..
 repeat' (with_reducible first|refine qq ?_|(refine Tx 0 ?_;refine gN xBo <| gO xA <| gO xA ?_)|(refine Tx 1 ?_;refine gO xL <| gO (xCl func25 (SC)) <| gO xMt <| gO xEx <| gO xEx <| gO xA <| gO xA ?_)|(refine Tx 2 ?_;refine gO xM <| gO (xNE Am) ?_)|(refine Tx 4 ?_;refine gO xM <| gO xLt <| gO xM ?_;(first|iterate 2 refine Jd ?_|(refine Jy xM1 ?_;refine Jy xGt ?_));refine gO xPk ?_)|(refine Tx 6 ?_;refine gO xL <| gO (xCl func36 (DL)) <| gO xMt <| gO xEx <| gO xEx <| gO xA <| gO xA ?_)|(refine Tx 7 ?_;refine gO xM <| gO (xNE Am) ?_)|(refine Tx 9 ?_;refine gO xA ?_)|(refine Tx 10 ?_;refine gO xM <| gO xN <| gO xM ?_))
 refine AJ (Fh 9 45 6 rfl) ?_
 refine AJ (Be 2) (Al (fun n Fr H=>∃ k:Nat,k≤(BB bs).length∧n=(BB bs).length - k∧(∀ p∈((BZ bs).take (k)),EQ p=false)∧Fr=ofL [(1,vd (.val (.int .i64 rd))),(2,vr 0),(8,vd (AU false (BU (AX bs)))),(9,vo 1 (((BZ bs).take k).length)),(49,vd (.row false 3 (BB bs).length (An dyP (BB bs)))),(50,vi ((BB bs).length)),(51,vi ((k:Nat)))]∧H=[.box 26 [.d (CY t ps),.d (Cw t bs),.d (AU t os)],.row 45 6 ((BZ bs).take (k)).length ((An (dIw false) ((BZ bs).take (k))).map C.d)]) (n0:=(BB bs).length) ⟨0,ad _,rfl,(fun p hp=>by simp at hp),rfl,rfl⟩ ?_)
 rintro n Fr H ⟨k,hk,rfl,hnf,rfl,rfl⟩
 by_cases hlt:k<(BB bs).length
 case pos =>
  obtain ⟨p,hp⟩:∃ p,(BB bs)[k]?=some p:=⟨_,gE hlt⟩
  have hsm:=hso.sm p (gM hp)
  have lp:=lT (hsm.lenN 128 (by decide)) (show 128≤40000 by decide)
  have PT:=DQ p hsm.ok lp
  have FR:=Yq (p,p) ((IwS.pt hsm).more (by decide) (by decide))
  have hsp:(BZ bs)[k]?=some (p,p):=by unfold BZ;rw [ag,hp];rfl
  obtain ⟨hap,hap2,hoL⟩:=Gl hsp
  cases hf:EQ (p,p)
  case true =>
   rw [hf] at FR
   have hany:(BZ bs).any EQ=true:=List.any_eq_true.2 ⟨_,gM hsp,hf⟩
   rw [show La ps bs rd f=some (22,[]) from if_pos hany] at hres
   cases hres
   repeat' (with_reducible first|refine qq ?_|(refine Tx 11 ?_;refine gO xLt ?_)|refine Aiw ?_|(refine Tx 15 ?_;refine gO (xMi underlying85) <| gO xA <| gO xA ?_))
   exact PK
  case false =>
   rw [hf] at FR
   repeat' (with_reducible first|refine qq ?_|(refine Tx 11 ?_;refine gO xLt ?_)|refine Aiw ?_|(refine Tx 16 ?_;refine gO xM <| gO xL <| gN (by exact BH rfl Ad Ai rfl rfl (by decide) (by decide)) <| gT (by exact Mj rfl rfl rfl rfl rfl rfl Ad Ai (by omega) (by decide) (by decide) rfl hap hap2) <| gO xA ?_)|(refine Tx 17 ?_;refine gO xAd <| gO xM ?_))
   refine ⟨_,_,Be 2,_,?_,k+1,by omega,rfl,Dr hnf hsp hf,rfl,rfl⟩
   ·omega
 obtain rfl:k=(BB bs).length:=by omega
 clear hlt hk
 have htk:(BZ bs).take (BB bs).length=BZ bs:=by rw [←hsi,aq]
 rw [htk] at hnf ⊢
 have hany:(BZ bs).any EQ=false:=List.any_eq_false.2 fun p hp=>by rw [hnf p hp];decide
 rw [show La ps bs rd f=FM ps bs rd f 1 (BZ bs) from if_neg (by rw [hany];decide)] at hres
 have hI0:=Nm h0 hany
 repeat' (with_reducible first|refine qq ?_|(refine Tx 11 ?_;refine gO xLt ?_)|(refine Tx 18 ?_;refine gO xA ?_))
 refine AJ (EG (ds:=An (dIw false) (BZ bs)) 9 1 rfl rfl) ?_
 refine AJ (Be 1) (Al (fun n Fr H=>∃ (r:Nat) (l:List Iq),FM ps bs rd n r l=some res∧PP bs l∧r+n≤1+f∧Fr=ofL [(1,vd (.val (.int .i64 rd))),(2,vr 0),(8,vd (AU false (BU (AX bs)))),(9,vd (.row false 6 l.length (An (dIw false) l))),(13,vi ((r:Nat)))]∧H=[.box 26 [.d (CY t ps),.d (Cw t bs),.d (AU t os)]]) (n0:=f) ⟨1,_,hres,hI0,aa _,rfl,rfl⟩ ?_)
 clear hres hI0 hnf hany htk
 rintro n Fr H ⟨r,l,hres,hI,hrn,rfl,rfl⟩
 cases n
 case zero =>
  cases hres
 rename_i n
 case succ =>
  unfold FM at hres
  have hll:=hI.len
  have EV:=UI t hl (l.map Rh) (Ri hI.iw (by decide)) (by rw [af];omega)
  rw [Yv h0 hI.iw hll,IC,LM] at EV
  by_cases hb:Dt ps bs l=true
  case pos =>
   rw [if_pos hb] at hres
   cases hres
   rw [if_pos hb,NN (by decide)] at EV
   repeat' (with_reducible first|refine qq ?_|(refine Tx 20 ?_;refine gO xL <| gO xM <| gO (xCl func38 (EV)) <| gO xMt <| gO xEx <| gO xEx <| gO xA <| gO xA ?_)|(refine Tx 21 ?_;refine gO xM <| gO (xNE Am) ?_)|(refine Tx 22 ?_;refine gO xM <| gO xA <| gO xA ?_))
   exact PK
  rw [if_neg hb] at hres
  rw [if_neg hb,Un rfl] at EV
  rw [ay] at hb
  unfold AeT at EV
  have hlb:=hI.lb hb
  have hvl:(rgV ps bs l).length=bs.length:=LL
  obtain ⟨w,hwd⟩:∃ w,decide (rd<(r:Int))=w:=⟨_,rfl⟩
  rw [hwd] at hres
  repeat' (with_reducible first|refine qq ?_|(refine Tx 20 ?_;refine gO xL <| gO xM <| gO (xCl func38 (EV)) <| gO xMt <| gO xEx <| gO xEx <| gO xA <| gO xA ?_)|(refine Tx 21 ?_;refine gO xM <| gO (xNE Am) ?_)|(refine Tx 23 ?_;refine gO xA ?_)|(refine Tx 24 ?_;refine gO xM <| gO xN <| gN (by first|exact UD (n:=l.length) rfl rfl rfl Ad Ai (by omega) (by decide)|exact BG rfl rfl rfl Ad Ai (by omega) (by decide)) <| gO xA ?_)|(refine Tx 25 ?_;refine gO xM <| gO xN <| gO xM ?_))
  refine AJ (Be 2 (hH:=by rw [←ArS,←hll];rfl) (h:=by rw [←hnl];exact mB rfl rfl)) (Al (fun n Fr H=>∃ k:Nat,k≤(AX bs).length∧n=(AX bs).length - k∧Fr=ofL [(1,vd (.val (.int .i64 rd))),(2,vr 0),(8,vd (AU false (BU (AX bs)))),(9,vd (.row false 6 l.length (An (dIw false) l))),(13,vi ((r:Nat))),(14,vd (.row false 6 (rgV ps bs l).length (An (dIw false) (rgV ps bs l)))),(16,vd (.val (.bool (Tk ps bs l k)))),(17,vo 1 l.length),(79,vd (AU false (BU (AX bs)))),(80,vi ((AX bs).length)),(81,vi ((k:Nat)))]∧H=[.box 26 [.d (CY t ps),.d (Cw t bs),.d (AU t os)],.row 45 6 l.length (kWs (nxS ps bs w l (k)))]) (n0:=(AX bs).length) ⟨0,ad _,rfl,rfl,rfl⟩ ?_)
  rintro m Fr H ⟨k,hk,rfl,rfl,rfl⟩
  by_cases hlt:k<(AX bs).length
  case pos =>
   obtain ⟨i,hi⟩:∃ i,(AX bs)[k]?=some i:=⟨_,gE hlt⟩
   have hid:=Hv hi
   have hil:=hid.1
   obtain ⟨y,hy⟩:∃ y,bs[i]?=some y:=⟨_,gE hil⟩
   have hk2:=hid.2
   rw [Hu hy] at hk2
   obtain ⟨b,hA0,hbl⟩:=Wj h0 hy hk2
   obtain ⟨rr,hr,_,hrs⟩:=Yp h0 hlb hll hb hbl
   have hal:=(gS.1 hA0).1
   obtain ⟨a,ha⟩:∃ a,l[k]?=some a:=⟨_,gE (by omega)⟩
   have has:=hlb a (gM ha)
   have has2:=has.more LBx LBx
   have hrs2:=hrs.more LBx LBx
   have HU:=PD a rr has2 hrs2
   have RO:CV prog Ah 81 [aIw false (Gg a rr),aI (64:Int)] [aIw false (Cc a rr),aE 0]:=ZW (Gg a rr) 64 (has2.hull hrs2) (by decide)
   obtain ⟨hq,_,_,_,_⟩:=Re has hrs
   have q1:=hq.s1
   have q2:=hq.s2
   have l1:=lT (q1.lenN 128 (by decide)) (show 128≤40000 by decide)
   have l2:=lT (q2.lenN 128 (by decide)) (show 128≤40000 by decide)
   have m1:=lT (has.s1.lenN 128 (by decide)) (show 128≤40000 by decide)
   have m2:=lT (has.s2.lenN 128 (by decide)) (show 128≤40000 by decide)
   have C1:=Ck (Cc a rr).1.1 (Cc a rr).1.2 a.1.1 a.1.2 q1.ok has.s1.ok l1 m1
   have C2:=Ck (Cc a rr).2.1 (Cc a rr).2.2 a.2.1 a.2.2 q2.ok has.s2.ok l2 m2
   have hb1:(Bm (Cc a rr).1.1 (Cc a rr).1.2 a.1.1 a.1.2 != 0)=loC a rr:=Aiv q1 has.s1
   have hb2:(Bm (Cc a rr).2.1 (Cc a rr).2.2 a.2.1 a.2.2 != 0)=hiC a rr:=Aiv q2 has.s2
   have NG1:=GA (Cc a rr).1.1 (Cc a rr).1.2 q1.ok l1
   obtain ⟨u1,_,_⟩:Sm (upP (Em (Cc a rr).1)) 20000 20000∧gv (Em (Cc a rr).1)≤gv (upP (Em (Cc a rr).1))∧inU (gv (upP (Em (Cc a rr).1))):=Nl q1.neg
   have UP1:=AdD (Em (Cc a rr).1) (q1.neg.more (by decide) (by decide))
   have NG2:=GA (upP (Em (Cc a rr).1)).1 (upP (Em (Cc a rr).1)).2 u1.ok u1.lz
   have UP2:=AdD (Cc a rr).2 (q2.more (by decide) (by decide))
   obtain ⟨hck,hnx⟩:=UO hi hy hA0 ha hr
   have tl:k<(nxS ps bs w l k).length:=by rw [AdI];exact hlt
   have stV:=AlV (ps:=ps) (bs:=bs) (w:=w) (l:=l) hlt
   rw [hnx w,show Du w a rr=(if (decide (rd<(r:Int)) && loC a rr)=true then Em (upP (Em (Cc a rr).1)) else (Cc a rr).1,if (decide (rd<(r:Int)) && hiC a rr)=true then upP (Cc a rr).2 else (Cc a rr).2) from by rw [hwd];rfl] at stV
   clear hq
   generalize upP (Em (Cc a rr).1)=u at *
   generalize upP (Cc a rr).2=v at *
   generalize Cc a rr=q at *
   repeat' (with_reducible first|refine qq ?_|(refine Tx 26 ?_;refine gO xLt ?_)|(refine Tx 27 ?_;refine gO xM <| gO (by first|exact xIr Ae (Ay (LH hi))|exact xIr Ae (Cu ha)) <| gO xD <| gO xA <| gO xA ?_)|(refine Im (id:=28) 21 [(21,19)] AC (by kernel_rfl) ?_;dsimp only [List.take,List.drop];refine gP xM <| gP xM <| gP (xIr Ad (Cu ha)) <| gP xL <| gP xM <| gP xF <| gP xD <| gP xM <| gP (by first|exact xIr Ak (Dq hy)|exact xIr Ak (Cu ha)) <| gP xF <| gP xD <| gP (by first|exact xIr Ae (Ay hA0)|exact xIr Ae (Cu ha)) <| gP xD <| gP (by first|exact xIr Ad (Cu hr)|exact xIr Ad (Cu ha)) <| gP xL <| gP (xCl func82 (HU)) <| gP (xCl func81 (RO)) <| gP xMt <| gP (by exact CQ rfl rfl rfl) <| gP xEx <| gQ (xAl Ai) ?_;refine Ke ?_;refine gZ (xSk Ab) <| gO xA ?_)|(refine Tx 29 ?_;refine gO xM <| gO (xNE Am) ?_)|(refine Bl (id:=31) AC (by kernel_rfl) ?_;refine gP xF <| gP xL <| gP xM <| gP xM <| gP (xIr Ad (Cu ha)) <| gP xF <| gP xL <| gP (xCl func9 (C1)) <| gP (by first|exact VP rfl rfl rfl hb1|exact xNe) <| gP xF <| gP xL <| gP xM <| gP xM <| gP (xIr Ad (Cu ha)) <| gP xF <| gP xL <| gP (xCl func9 (C2)) <| gP (by first|exact VP rfl rfl rfl hb2|exact xNe) <| gP xA <| gP xA ?_;refine Ke ?_))
   refine AJ (F':=ofL [(1,vd (.val (.int .i64 rd))),(2,vr 0),(8,vd (AU false (BU (AX bs)))),(9,vd (.row false 6 l.length (An (dIw false) l))),(13,vi ((r:Nat))),(14,vd (.row false 6 (rgV ps bs l).length (An (dIw false) (rgV ps bs l)))),(16,vd (.val (.bool (Tk ps bs l k)))),(17,vo 1 l.length),(79,vd (AU false (BU (AX bs)))),(80,vi ((AX bs).length)),(81,vi ((k:Nat))),(18,vi ((k:Nat))),(20,vr 2),(22,vd (.val (.bool (loC a rr)))),(23,vd (.val (.bool (hiC a rr))))]) (H':=[.box 26 [.d (CY t ps),.d (Cw t bs),.d (AU t os)],.row 45 6 l.length (kWs (nxS ps bs w l k)),.box 45 ((dIw false q).map C.d)]) (Be 3) ?_
   clear hb1 hb2 C1 C2 HU RO m1 m2 SC EV DL
   cases hb1:loC a rr <;> cases hb2:hiC a rr <;> cases hc:Tk ps bs l k <;> by_cases hw:rd<(r:Int)
   all_goals
    rw [hb1,hb2] at stV
    simp only [hw,decide_true,decide_false,dq,eg,fz,if_true,if_false] at stV
    skip
    repeat' (with_reducible first|refine qq ?_|(refine Tx 32 ?_;refine gO xM <| gO xM ?_;(first|refine Jd ?_|refine Jy xM1 ?_);refine gO xPk <| gO xM ?_;(first|refine Jd ?_|refine Jy xM1 ?_);refine gO xPk <| gO xA ?_)|(refine Tx 33 ?_;refine gO xM <| gO xM <| gO xGt <| gO xM ?_;(first|refine Jd ?_|refine Jy xM1 ?_);refine gO xPk ?_)|(refine Tx 34 ?_;refine gO xF <| gO xL <| gO (xCl func83 (NG1)) <| gO (xCl func84 (UP1)) <| gO (xCl func83 (NG2)) <| gO xF <| gZ (xSk Aa) ?_)|(refine Tx 35 ?_;refine gO xM <| gO xM <| gO xGt <| gO xM ?_;(first|refine Jd ?_|refine Jy xM1 ?_);refine gO xPk ?_)|(refine Tx 36 ?_;refine gO xF <| gO xL <| gO (xCl func84 (UP2)) <| gO xF <| gZ (xSk Aa) ?_)|(refine Tx 37 ?_;refine gO xM <| gO xM <| gO xL <| gO (xIo (i:=k) Ad) <| gZ Aaa ?_)|(refine Tx 38 ?_;refine gO xAd <| gO xM ?_))
    refine ⟨_,_,Be 2 (h:=by rw [hck,hc,hb1,hb2];exact mB rfl rfl),_,?_,k+1,by omega,rfl,rfl,rfl⟩
    ·omega
  obtain rfl:k=(AX bs).length:=by omega
  clear hlt hk
  rw [AlW]
  have hnL:(Cv ps bs w l).length=(AX bs).length:=UK w
  by_cases hch:Tk ps bs l (AX bs).length=false
  case pos =>
   rw [if_pos hch] at hres
   cases hres
   rw [hch]
   repeat' (with_reducible first|refine qq ?_|(refine Tx 26 ?_;refine gO xLt ?_)|(refine Tx 39 ?_;refine gO xM <| gO Ww ?_)|(refine Tx 40 ?_;refine gO xM <| gO xA <| gO xA ?_))
   exact Au rfl (.cons_ (.tmp (.one (Bi rfl fun _=>.row (BV (f:=dIw false) Eh l)))) (.cons_ (Hc rfl rfl) .nil_))
  rw [if_neg hch] at hres
  rw [gf] at hch
  rw [hch]
  repeat' (with_reducible first|refine qq ?_|(refine Tx 26 ?_;refine gO xLt ?_)|(refine Tx 39 ?_;refine gO xM <| gO Ww ?_))
  refine AJ (EG (ds:=An (dIw false) (Cv ps bs w l)) 17 1 rfl rfl) ?_
  repeat' (with_reducible first|refine qq ?_|(refine Tx 41 ?_;refine gO xM <| gO xN <| gO xM ?_))
  refine AJ (Be 1 (h:=by rw [hnL,←hll];exact mB rfl rfl)) (Al (fun n Fr H=>∃ k:Nat,k≤(Cv ps bs w l).length∧n=(Cv ps bs w l).length - k∧(∀ p∈(Cv ps bs w l).take k,EQ p=false)∧Fr=ofL [(1,vd (.val (.int .i64 rd))),(2,vr 0),(8,vd (AU false (BU (AX bs)))),(13,vi ((r:Nat))),(17,vd (.row false 6 (Cv ps bs w l).length (An (dIw false) (Cv ps bs w l)))),(164,vd (.row false 6 (Cv ps bs w l).length (An (dIw false) (Cv ps bs w l)))),(165,vi ((Cv ps bs w l).length)),(166,vi ((k:Nat)))]∧H=[.box 26 [.d (CY t ps),.d (Cw t bs),.d (AU t os)]]) (n0:=(Cv ps bs w l).length) ⟨0,ad _,rfl,(fun p hp=>by simp at hp),rfl,rfl⟩ ?_)
  rintro m Fr H ⟨k,hk,rfl,hnf,rfl,rfl⟩
  by_cases hlt:k<(Cv ps bs w l).length
  case pos =>
   obtain ⟨x,hx⟩:∃ x,(Cv ps bs w l)[k]?=some x:=⟨_,gE hlt⟩
   have hxs:IwS x 20000 20000:=by
    obtain ⟨j,hj,rfl⟩:=List.mem_map.1 (gM hx)
    have hj:=List.mem_range.1 hj
    exact (PN (hlb _ (IB (by omega) iZ)) (UM h0 hI hb hj)).1
   have FR:=Yq x hxs
   cases hf:EQ x
   case true =>
    rw [hf] at FR
    have hany:(Cv ps bs w l).any EQ=true:=List.any_eq_true.2 ⟨_,gM hx,hf⟩
    rw [if_pos hany] at hres
    cases hres
    repeat' (with_reducible first|refine qq ?_|(refine Tx 42 ?_;refine gO xLt ?_)|(refine Tx 43 ?_;refine gO (xIr Ad (Cu hx)) <| gO xL <| gN (xAl Ai) <| gZ (xSk Ab) ?_)|(refine Tx 44 ?_;refine gO xL <| gO (xCl func80 (FR)) ?_)|(refine Tx 45 ?_;refine gO (xMi underlying85) <| gO xA <| gO xA ?_))
    exact PK
   case false =>
    rw [hf] at FR
    repeat' (with_reducible first|refine qq ?_|(refine Tx 42 ?_;refine gO xLt ?_)|(refine Tx 43 ?_;refine gO (xIr Ad (Cu hx)) <| gO xL <| gN (xAl Ai) <| gZ (xSk Ab) ?_)|(refine Tx 44 ?_;refine gO xL <| gO (xCl func80 (FR)) ?_)|(refine Tx 46 ?_;refine gO xAd <| gO xM ?_))
    refine ⟨_,_,Be 1,_,?_,k+1,by omega,rfl,Dr hnf hx hf,rfl,rfl⟩
    ·omega
  obtain rfl:k=(Cv ps bs w l).length:=by omega
  clear hlt hk
  rw [aq] at hnf
  have hany:(Cv ps bs w l).any EQ=false:=List.any_eq_false.2 fun p hp=>by rw [hnf p hp];decide
  rw [if_neg (by rw [hany];decide)] at hres
  repeat' (with_reducible first|refine qq ?_|(refine Tx 42 ?_;refine gO xLt ?_)|(refine Tx 47 ?_;refine gO xM <| gO xA ?_)|(refine Tx 19 ?_;refine gO xM <| gO xAd <| gO xA ?_))
  refine ⟨_,_,Be 1,n,jn n,r+1,(Cv ps bs w l),hres,hI.next h0 hb w hany,by omega,rfl,rfl⟩
theorem UQ (p:Prt) (h:Qp p):CV prog Ah 109 [.agg (Ahz p)] [aIw false (IK p)]:=by
 refine cvz func109 ntmps109 ?_
 have f0:=h.l0
 have f1:=h.le
 have f2:=h.h1
 have f3:=h.f0
 have f4:=h.f1
 have P1:=Acz p p.lo (by omega) (by omega) (by omega) (by omega)
 have P2:=Acz p p.hi (by omega) (by omega) (by omega) (by omega)
 repeat' (with_reducible first|refine qq ?_|(refine Tx 0 ?_;refine gN xBo <| gN (xAl Ai) ?_)|(refine Ax (id:=1) 9 AC (by kernel_rfl) ?_;dsimp only [List.take,List.drop];refine gP xL <| gP xF <| gP xD <| gP (xCl func181 (P1)) <| gP xL <| gP xF <| gP xD <| gP (xCl func181 (P2)) <| gP (by exact AF rfl BR rfl rfl) ?_;refine Ke ?_;refine gZ (xSk Ab) ?_))
 exact BX
theorem Lb (k:p') (h:Hd9 p'→p:=by with_reducible first|(intro Z9;refine qq ?_;exact Z9.o)|(intro Z9;refine Tx 0 ?_;refine gN xBo <| gN (xAl Ai) ?_;exact Z9.o)|(intro Z9;refine Tx 1 ?_;refine gO xF <| gO xD ?_;exact Z9.o)|(intro Z9;refine Tx 2 ?_;refine gO xEq <| gO xA ?_;exact Z9.o)|fail):p:=h ⟨k⟩
theorem ApT (h:p:=by first|exact xCl func173 (RV)|exact xCl func173 (RU)):p:=h
theorem Rj (t u:Bool) (y:Bk) (l:List Iq) (hll:l.length≤1000000) (hk:y.kind=1∨y.kind=3∨y.kind=4∨y.kind=5∨y.kind=6∨y.kind=7∨y.kind=8∨y.kind=9∨y.kind=10∨y.kind=11) (h1l:y.kind≠1→1≤l.length) (h2l:(y.kind=3∨y.kind=4∨y.kind=7∨y.kind=8∨y.kind=9)→2≤l.length) (hs:∀ p∈l,IwS p 20000 20000)
  (hsv:(y.kind=1∨y.kind=6∨y.kind=11)→DN y.vn y.ve) (hsu:y.kind=11→DN y.un y.ue) (hcl:y.kind=11→Gf (Af y.vn 0 y.ve) (Af y.un 0 y.ue)≤0):CV prog Ah 110 [.agg (dBk t y),.one (.row u 6 l.length (An (dIw false) l))] [aIw false (DB y l)]:=by
 refine cvz func110 ntmps110 ?_
 rcases hk with h|h|h|h|h|h|h|h|h|h
 ·
  have RVs:=hsv (by omega)
  have RV:=(EF (G:=Ah) y.vn y.ve (by have:=RVs.1;omega) (by have:=RVs.2.1;omega)).cv
  have RVm:=(EP RVs).more LBx LBx
  have C:=Fd (Af y.vn 0 y.ve) RVm.ok RVm.lz
  have hb:DB y l=((Af y.vn 0 y.ve),(Af y.vn 0 y.ve)):=by unfold DB;simp [h]
  rw [hb]
  repeat' (with_reducible first|refine Lb ?_|(refine Tx 3 ?_;refine gO xF <| gO (by first|exact DG (i:=0) rfl rfl rfl rfl Ad (by omega) (by decide) (Cu h0)|exact xLa AM) <| gO (xCl func173 (RV)) <| gO (xCl func101 (C)) <| gZ (xSk Ab) ?_))
  exact BX
 ·
  have l0:=h1l (by omega)
  obtain ⟨p,h0⟩:∃ p,l[0]?=some p:=⟨_,gE (by omega)⟩
  have sp:=hs p (gM h0)
  have l1:=h2l (by omega)
  obtain ⟨q,h1⟩:∃ q,l[1]?=some q:=⟨_,gE (by omega)⟩
  have sq:=hs q (gM h1)
  have C:=Yf p q sp sq
  have hb:DB y l=Aav p q:=by unfold DB;simp [h,h0,h1]
  rw [hb]
  repeat' (with_reducible first|refine Lb ?_|(refine Tx 4 ?_;refine gO xEq <| gO xA ?_)|(refine Ax (id:=5) 7 AC (by kernel_rfl) ?_;dsimp only [List.take,List.drop];refine gP xM <| gP (by exact DG (i:=0) rfl rfl rfl rfl Ad (by omega) (by decide) (Cu h0)) <| gP xL <| gP xM <| gP (by exact DG (i:=1) rfl rfl rfl rfl Ad (by omega) (by decide) (Cu h1)) <| gP xL <| gP (xCl func182 (C)) ?_;refine Ke ?_;refine gZ (xSk Ab) ?_))
  exact BX
 ·
  have l0:=h1l (by omega)
  obtain ⟨p,h0⟩:∃ p,l[0]?=some p:=⟨_,gE (by omega)⟩
  have sp:=hs p (gM h0)
  have l1:=h2l (by omega)
  obtain ⟨q,h1⟩:∃ q,l[1]?=some q:=⟨_,gE (by omega)⟩
  have sq:=hs q (gM h1)
  have C:=AgG p q sp sq
  have hb:DB y l=Agq p q:=by unfold DB;simp [h,h0,h1]
  rw [hb]
  repeat' (with_reducible first|refine Lb ?_|(refine Tx 4 ?_;refine gO xEq <| gO xA ?_)|(refine Tx 6 ?_;refine gO xEq <| gO xA ?_)|(refine Ax (id:=7) 7 AC (by kernel_rfl) ?_;dsimp only [List.take,List.drop];refine gP xM <| gP (by exact DG (i:=0) rfl rfl rfl rfl Ad (by omega) (by decide) (Cu h0)) <| gP xL <| gP xM <| gP (by exact DG (i:=1) rfl rfl rfl rfl Ad (by omega) (by decide) (Cu h1)) <| gP xL <| gP (xCl func183 (C)) ?_;refine Ke ?_;refine gZ (xSk Ab) ?_))
  exact BX
 ·
  have l0:=h1l (by omega)
  obtain ⟨p,h0⟩:∃ p,l[0]?=some p:=⟨_,gE (by omega)⟩
  have sp:=hs p (gM h0)
  have C:=Ye p sp
  have hb:DB y l=ZS p:=by unfold DB;simp [h,h0]
  rw [hb]
  repeat' (with_reducible first|refine Lb ?_|(refine Tx 4 ?_;refine gO xEq <| gO xA ?_)|(refine Tx 6 ?_;refine gO xEq <| gO xA ?_)|(refine Tx 8 ?_;refine gO xEq <| gO xA ?_)|(refine Tx 9 ?_;refine gO xM <| gO (by exact DG (i:=0) rfl rfl rfl rfl Ad (by omega) (by decide) (Cu h0)) <| gO xL <| gO (xCl func184 (C)) <| gZ (xSk Ab) ?_))
  exact BX
 ·
  have l0:=h1l (by omega)
  obtain ⟨p,h0⟩:∃ p,l[0]?=some p:=⟨_,gE (by omega)⟩
  have sp:=hs p (gM h0)
  have RVs:=hsv (by omega)
  have RV:=(EF (G:=Ah) y.vn y.ve (by have:=RVs.1;omega) (by have:=RVs.2.1;omega)).cv
  have RVm:=(EP RVs).more LBx LBx
  have C:=ZY p (Af y.vn 0 y.ve) sp RVm
  have hb:DB y l=IY p (Af y.vn 0 y.ve):=by unfold DB;simp [h,h0]
  rw [hb]
  repeat' (with_reducible first|refine Lb ?_|(refine Tx 4 ?_;refine gO xEq <| gO xA ?_)|(refine Tx 6 ?_;refine gO xEq <| gO xA ?_)|(refine Tx 8 ?_;refine gO xEq <| gO xA ?_)|(refine Tx 10 ?_;refine gO xEq <| gO xA ?_)|(refine Ax (id:=11) 7 AC (by kernel_rfl) ?_;dsimp only [List.take,List.drop];refine gP xM <| gP (by exact DG (i:=0) rfl rfl rfl rfl Ad (by omega) (by decide) (Cu h0)) <| gP xL <| gP xF <| gP xL <| gP (xCl func173 (RV)) <| gP (xCl func185 (C)) ?_;refine Ke ?_;refine gZ (xSk Ab) ?_))
  exact BX
 ·
  have l0:=h1l (by omega)
  obtain ⟨p,h0⟩:∃ p,l[0]?=some p:=⟨_,gE (by omega)⟩
  have sp:=hs p (gM h0)
  have l1:=h2l (by omega)
  obtain ⟨q,h1⟩:∃ q,l[1]?=some q:=⟨_,gE (by omega)⟩
  have sq:=hs q (gM h1)
  have C:=Yi p q sp sq
  have hb:DB y l=AeS p q:=by unfold DB;simp [h,h0,h1]
  rw [hb]
  repeat' (with_reducible first|refine Lb ?_|(refine Tx 4 ?_;refine gO xEq <| gO xA ?_)|(refine Tx 6 ?_;refine gO xEq <| gO xA ?_)|(refine Tx 8 ?_;refine gO xEq <| gO xA ?_)|(refine Tx 10 ?_;refine gO xEq <| gO xA ?_)|(refine Tx 12 ?_;refine gO xEq <| gO xA ?_)|(refine Ax (id:=13) 7 AC (by kernel_rfl) ?_;dsimp only [List.take,List.drop];refine gP xM <| gP (by exact DG (i:=0) rfl rfl rfl rfl Ad (by omega) (by decide) (Cu h0)) <| gP xL <| gP xM <| gP (by exact DG (i:=1) rfl rfl rfl rfl Ad (by omega) (by decide) (Cu h1)) <| gP xL <| gP (xCl func186 (C)) ?_;refine Ke ?_;refine gZ (xSk Ab) ?_))
  exact BX
 ·
  have l0:=h1l (by omega)
  obtain ⟨p,h0⟩:∃ p,l[0]?=some p:=⟨_,gE (by omega)⟩
  have sp:=hs p (gM h0)
  have l1:=h2l (by omega)
  obtain ⟨q,h1⟩:∃ q,l[1]?=some q:=⟨_,gE (by omega)⟩
  have sq:=hs q (gM h1)
  have C:=Yg p q sp sq
  have hb:DB y l=Aaw p q:=by unfold DB;simp [h,h0,h1]
  rw [hb]
  repeat' (with_reducible first|refine Lb ?_|(refine Tx 4 ?_;refine gO xEq <| gO xA ?_)|(refine Tx 6 ?_;refine gO xEq <| gO xA ?_)|(refine Tx 8 ?_;refine gO xEq <| gO xA ?_)|(refine Tx 10 ?_;refine gO xEq <| gO xA ?_)|(refine Tx 12 ?_;refine gO xEq <| gO xA ?_)|(refine Tx 14 ?_;refine gO xEq <| gO xA ?_)|(refine Ax (id:=15) 7 AC (by kernel_rfl) ?_;dsimp only [List.take,List.drop];refine gP xM <| gP (by exact DG (i:=0) rfl rfl rfl rfl Ad (by omega) (by decide) (Cu h0)) <| gP xL <| gP xM <| gP (by exact DG (i:=1) rfl rfl rfl rfl Ad (by omega) (by decide) (Cu h1)) <| gP xL <| gP (xCl func187 (C)) ?_;refine Ke ?_;refine gZ (xSk Ab) ?_))
  exact BX
 ·
  have l0:=h1l (by omega)
  obtain ⟨p,h0⟩:∃ p,l[0]?=some p:=⟨_,gE (by omega)⟩
  have sp:=hs p (gM h0)
  have l1:=h2l (by omega)
  obtain ⟨q,h1⟩:∃ q,l[1]?=some q:=⟨_,gE (by omega)⟩
  have sq:=hs q (gM h1)
  have C:=Yh p q sp sq
  have hb:DB y l=Aax p q:=by unfold DB;simp [h,h0,h1]
  rw [hb]
  repeat' (with_reducible first|refine Lb ?_|(refine Tx 4 ?_;refine gO xEq <| gO xA ?_)|(refine Tx 6 ?_;refine gO xEq <| gO xA ?_)|(refine Tx 8 ?_;refine gO xEq <| gO xA ?_)|(refine Tx 10 ?_;refine gO xEq <| gO xA ?_)|(refine Tx 12 ?_;refine gO xEq <| gO xA ?_)|(refine Tx 14 ?_;refine gO xEq <| gO xA ?_)|(refine Tx 16 ?_;refine gO xEq <| gO xA ?_)|(refine Ax (id:=17) 7 AC (by kernel_rfl) ?_;dsimp only [List.take,List.drop];refine gP xM <| gP (by exact DG (i:=0) rfl rfl rfl rfl Ad (by omega) (by decide) (Cu h0)) <| gP xL <| gP xM <| gP (by exact DG (i:=1) rfl rfl rfl rfl Ad (by omega) (by decide) (Cu h1)) <| gP xL <| gP (xCl func188 (C)) ?_;refine Ke ?_;refine gZ (xSk Ab) ?_))
  exact BX
 ·
  have l0:=h1l (by omega)
  obtain ⟨p,h0⟩:∃ p,l[0]?=some p:=⟨_,gE (by omega)⟩
  have sp:=hs p (gM h0)
  have C:=Yj p sp
  have hb:DB y l=QX p:=by unfold DB;simp [h,h0]
  rw [hb]
  repeat' (with_reducible first|refine Lb ?_|(refine Tx 4 ?_;refine gO xEq <| gO xA ?_)|(refine Tx 6 ?_;refine gO xEq <| gO xA ?_)|(refine Tx 8 ?_;refine gO xEq <| gO xA ?_)|(refine Tx 10 ?_;refine gO xEq <| gO xA ?_)|(refine Tx 12 ?_;refine gO xEq <| gO xA ?_)|(refine Tx 14 ?_;refine gO xEq <| gO xA ?_)|(refine Tx 16 ?_;refine gO xEq <| gO xA ?_)|(refine Tx 18 ?_;refine gO xEq <| gO xA ?_)|(refine Tx 19 ?_;refine gO xM <| gO (by exact DG (i:=0) rfl rfl rfl rfl Ad (by omega) (by decide) (Cu h0)) <| gO xL <| gO (xCl func189 (C)) <| gZ (xSk Ab) ?_))
  exact BX
 ·
  have l0:=h1l (by omega)
  obtain ⟨p,h0⟩:∃ p,l[0]?=some p:=⟨_,gE (by omega)⟩
  have sp:=hs p (gM h0)
  have RVs:=hsv (by omega)
  have RV:=(EF (G:=Ah) y.vn y.ve (by have:=RVs.1;omega) (by have:=RVs.2.1;omega)).cv
  have RVm:=(EP RVs).more LBx LBx
  have RUs:=hsu h
  have RU:=(EF (G:=Ah) y.un y.ue (by have:=RUs.1;omega) (by have:=RUs.2.1;omega)).cv
  have RUm:=(EP RUs).more LBx LBx
  have C:=Adu p (Af y.vn 0 y.ve) (Af y.un 0 y.ue) sp RVm RUm (hcl h)
  have hb:DB y l=Qo p (Af y.vn 0 y.ve) (Af y.un 0 y.ue):=by unfold DB;simp [h,h0]
  rw [hb]
  repeat' (with_reducible first|refine Lb ?_|(refine Tx 4 ?_;refine gO xEq <| gO xA ?_)|(refine Tx 6 ?_;refine gO xEq <| gO xA ?_)|(refine Tx 8 ?_;refine gO xEq <| gO xA ?_)|(refine Tx 10 ?_;refine gO xEq <| gO xA ?_)|(refine Tx 12 ?_;refine gO xEq <| gO xA ?_)|(refine Tx 14 ?_;refine gO xEq <| gO xA ?_)|(refine Tx 16 ?_;refine gO xEq <| gO xA ?_)|(refine Tx 18 ?_;refine gO xEq <| gO xA ?_)|(refine Im (id:=20) 14 [(14,12)] AC (by kernel_rfl) ?_;dsimp only [List.take,List.drop];refine gP xM <| gP (by exact DG (i:=0) rfl rfl rfl rfl Ad (by omega) (by decide) (Cu h0)) <| gP xL <| gP xF <| gP xL <| gP ApT <| gP xF <| gP xL <| gP ApT <| gP (xCl func190 (C)) <| gP xMt <| gP (by exact CQ rfl rfl rfl) <| gP xEx <| gQ (xAl Ai) ?_;refine Ke ?_;refine gZ (xSk Ab) <| gO xA ?_)|(refine Tx 21 ?_;refine gO xL <| gZ (xSk Ab) ?_))
  exact BX
theorem Aix (k:p') (h:Hd9 p'→p:=by with_reducible first|(intro Z9;refine qq ?_;exact Z9.o)|(intro Z9;refine Tx 0 ?_;refine gN xBo <| gO xA ?_;exact Z9.o)|(intro Z9;refine Tx 1 ?_;refine gO xF <| gO xL <| gO (xCl func180 (B1)) <| gO xM ?_;(first|iterate 3 refine Jd ?_|(refine Jy (xFa AI Aa) ?_;refine Jy (xLa Aa) ?_;refine Jy (xCl func180 (B2)) ?_));refine gO xPk <| gO xA ?_;exact Z9.o)|fail):p:=h ⟨k⟩
theorem UR (a:Iq) (n1:Nf a.1.1 a.1.2) (n2:Nf a.2.1 a.2.2) (l1:(Ac a.1.1.natAbs).length≤40000) (l2:(Ac a.2.1.natAbs).length≤40000):CV prog Ah 108 [aIw false a] [aB (Eu a)]:=by
 refine cvz func108 ntmps108 ?_
 have B1:=XQ a.1.1 a.1.2 n1 l1
 have B2:=XQ a.2.1 a.2.2 n2 l2
 have hl:Eu a=(Um a.1.1.natAbs a.1.2 || Um a.2.1.natAbs a.2.2):=rfl
 rw [hl]
 cases h1:Um a.1.1.natAbs a.1.2
 case false =>
  rw [h1] at B1
  repeat' (with_reducible first|refine Aix ?_)
  exact UG
 case true =>
  rw [h1] at B1
  repeat' (with_reducible first|refine Aix ?_)
  exact UG
theorem US (l:List Iq) (hl:∀ a∈l,IwS a 1280000 65536) (hll:l.length≤1000000):CV prog Ah 45 [.one (.row false 6 l.length (An (dIw false) l)),.one (.row false 6 l.length (An (dIw false) l))] [aB true]:=by
 refine cvz func45 ntmps45 ?_
 repeat' (with_reducible first|refine qq ?_|(refine Tx 0 ?_;refine gO xA ?_)|(refine Tx 1 ?_;refine gO xM <| gO xN <| gO xM <| gO xN <| gO xNe ?_)|(refine Tx 3 ?_;refine gO xM <| gO xN <| gO xM ?_))
 refine AJ (Be 0) (Al (fun n Fr H=>∃ k:Nat,k≤l.length∧n=l.length - k∧Fr=ofL [(0,vd (.row false 6 l.length (An (dIw false) l))),(1,vd (.row false 6 l.length (An (dIw false) l))),(12,vi l.length),(13,vi ((k:Nat)))]∧H=[]) (n0:=l.length) ⟨0,ad _,rfl,rfl,rfl⟩ ?_)
 rintro n Fr H ⟨k,hk,rfl,rfl,rfl⟩
 by_cases hlt:k<l.length
 case pos =>
  obtain ⟨x,hx⟩:∃ x,l[k]?=some x:=⟨_,gE hlt⟩
  have hm:=(hl x (gM hx)).L (aa _)
  have SM:=Adq x x hm hm
  rw [decide_eq_true rfl] at SM
  repeat' (with_reducible first|refine qq ?_|(refine Tx 4 ?_;refine gO xLt ?_)|(refine Tx 5 ?_;refine gO xM <| gO xA ?_)|(refine Bl (id:=6) AC (by kernel_rfl) ?_;refine gP xM <| gP xM <| gP (xIr Ad (Cu hx)) <| gP xL <| gP xM <| gP xM <| gP (xIr Ad (Cu hx)) <| gP xL <| gP (xCl func98 (SM)) <| gP Ww ?_;refine Ke ?_)|(refine Tx 8 ?_;refine gO xAd <| gO xM ?_))
  refine ⟨_,_,Be 0,_,?_,k+1,by omega,rfl,rfl,rfl⟩
  ·omega
 obtain rfl:k=l.length:=by omega
 repeat' (with_reducible first|refine qq ?_|(refine Tx 4 ?_;refine gO xLt ?_)|(refine Tx 9 ?_;refine gO xA ?_))
 exact UG
theorem AdJ {vs:List (Option Iq)} (h:y.kind≠0):(Gk vs y).length=y.args.length:=by unfold Gk;rw [if_neg h,af]
theorem Yw {p:Pq} (h:Sm p LB LB):EH p=false:=by
 have h1:=Dj.2 h.n
 have h2:=h.d
 unfold LB at h1 h2
 exact decide_eq_false (by omega)
theorem AgL (h:IwS a LB LB):Eu a=false:=by unfold Eu;rw [Yw h.s1,Yw h.s2];rfl
theorem AdK {l:List Iq} (h:y.kind≠0):Bs y l ps=DB y l:=by unfold Bs;rw [if_neg h]
theorem Aiy (k:p') (h:Hd9 p'→p:=by with_reducible first|(intro Z9;refine Tx 13 ?_;refine gO xM <| gO ApK <| gO xD <| gO xA <| gO xA ?_;exact Z9.o)|(intro Z9;refine Tx 14 ?_;refine gO xM <| gO xM <| gO xM <| gO xM <| gO Wv <| gO xL <| gO Wv <| gZ Aaa ?_;exact Z9.o)|(intro Z9;refine Tx 15 ?_;refine gO xM <| gO xM <| gO Wv <| gO xL <| gO (xCl func108 (LG)) ?_;exact Z9.o)|fail):p:=h ⟨k⟩
theorem Aiz (k:p') (h:Hd9 p'→p:=by with_reducible first|(intro Z9;refine Tx 20 ?_;refine gO ApL <| gO xD <| gO xA ?_;exact Z9.o)|(intro Z9;refine Tx 21 ?_;refine gO xF <| gO xD <| gO xM <| gO ApM <| gO xL <| gN (xAl Bu) <| gZ (xSk Bh) ?_;exact Z9.o)|(intro Z9;refine Tx 22 ?_;refine gO xF <| gO xD <| gO xEq ?_;exact Z9.o)|fail):p:=h ⟨k⟩
theorem AiA (k:p') (h:Hd9 p'→p:=by with_reducible first|(intro Z9;refine Tx 30 ?_;refine gO xM <| gO xM <| gO xL <| gO xM <| gO (xCl func110 BL (ha:=by with_unfolding_all first|((repeat' first|exact Br rfl rfl|refine AO rfl rfl ?_ ?_|refine Dn rfl rfl ?_|refine Cf rfl rfl ?_|exact Bi rfl (fun h=>by cases h)|exact AlQ Eh rfl rfl rfl) <;> fail)|fail)) <| gO (xIo (i:=j) Ad) <| gZ Aaa ?_;exact Z9.o)|(intro Z9;refine Tx 31 ?_;refine gO xM <| gO xM <| gO (xIo (i:=j) Ad) <| gO (by first|exact Wu rfl rfl rfl hat2 Ab|exact xLa Ab) <| gO (xCl func108 (LG)) ?_;exact Z9.o)|fail):p:=h ⟨k⟩
theorem Yx (h:p:=by
 exact Au rfl (.cons_ (.tmp (.one (GL rfl rfl))) (.cons_ (Lw rfl rfl) .nil_))):p:=h
theorem UT (t:Bool) {ps:List Prt} {bs:List Bk} {os:List Int} (hl:Dx ps bs os) (h0:AY ps bs os=0) (qs:List (Rv × Rv)) (hw:∀ q∈qs,RvL q.1∧RvL q.2) (hrl:qs.length≤1000000):CV prog Ah 48 [aDg t ps bs os,.one (Vn qs)] [AeT (okQ (rgE ps bs os qs) (rgV ps bs (qs.map ivQ))),aI (rgE ps bs os qs)]:=by
 refine cvz func48 ntmps48 ?_
 have DL:=(Iy t hl (ps:=ps) (bs:=bs) (os:=os)).cv
 have OL:=(Ut t hl h0 (ps:=ps) (bs:=bs) (os:=os)).cv
 have hnl:=BP (AX bs)
 have hol:=BP (Co bs)
 have hl1:=hl.l1
 have hl2:=hl.l2
 have hl3:=hl.l3
 have hob:=Sl (bs:=bs)
 have hdb:=Fp bs
 by_cases hL:qs.length=(AX bs).length
 case neg =>
  have hE:=rgE2 (os:=os) h0 hL
  rw [hE,NN (by decide)]
  repeat' (with_reducible first|refine qq ?_|(refine Tx 0 ?_;refine gN xBo <| gO xA <| gO xA ?_)|(refine Tx 1 ?_;refine gO xL <| gO (xCl func44 (DL)) <| gO xA ?_)|(refine Tx 2 ?_;refine gO xM <| gO xN <| gO xM <| gO xN <| gO xNe ?_)|(refine Tx 3 ?_;refine gO xA <| gO xA ?_))
  exact Yx
 repeat' (with_reducible first|refine qq ?_|(refine Tx 0 ?_;refine gN xBo <| gO xA <| gO xA ?_)|(refine Tx 1 ?_;refine gO xL <| gO (xCl func44 (DL)) <| gO xA ?_)|(refine Tx 2 ?_;refine gO xM <| gO xN <| gO xM <| gO xN <| gO xNe ?_)|(refine Tx 4 ?_;refine gO xM <| gO xN <| gO xM ?_))
 refine AJ (Be 1) (Al (fun n Fr H=>∃ k:Nat,k≤qs.length∧n=qs.length - k∧(∀ q∈qs.take k,ivC q=true)∧Fr=ofL [(1,vd (Vn qs)),(2,vr 0),(6,vd (AU false (BU (AX bs)))),(25,vd (Vn qs)),(26,vi qs.length),(27,vi ((k:Nat)))]∧H=[.box 26 [.d (CY t ps),.d (Cw t bs),.d (AU t os)]]) (n0:=qs.length) ⟨0,ad _,rfl,(fun r hr=>by simp at hr),rfl,rfl⟩ ?_)
 rintro n Fr H ⟨k,hk,rfl,hv,rfl,rfl⟩
 by_cases hlt:k<qs.length
 case pos =>
  obtain ⟨q,hq⟩:∃ q,qs[k]?=some q:=⟨_,gE hlt⟩
  have hqm:=hw q (gM hq)
  have VA:CV prog Ah 107 [.agg (dIr false q)] [aB (ivC q)]:=Nk q.1 q.2 hqm.1 hqm.2
  cases hb:ivC q
  case false =>
   rw [hb] at VA
   have hE:=rgE3 (os:=os) h0 hL (Adz hq hb)
   rw [hE,NN (by decide)]
   repeat' (with_reducible first|refine qq ?_|(refine Tx 5 ?_;refine gO xLt ?_)|(refine Tx 6 ?_;refine gO (xIr Ad (PI hq)) <| gO xL <| gN (xAl Ai) <| gZ (xSk Ab) ?_)|(refine Tx 7 ?_;refine gO xL <| gO (xCl func107 (VA)) <| gO Ww ?_)|(refine Tx 8 ?_;refine gO xA <| gO xA ?_))
   exact Yx
  case true =>
   rw [hb] at VA
   repeat' (with_reducible first|refine qq ?_|(refine Tx 5 ?_;refine gO xLt ?_)|(refine Tx 6 ?_;refine gO (xIr Ad (PI hq)) <| gO xL <| gN (xAl Ai) <| gZ (xSk Ab) ?_)|(refine Tx 7 ?_;refine gO xL <| gO (xCl func107 (VA)) <| gO Ww ?_)|(refine Tx 9 ?_;refine gO xAd <| gO xM ?_))
   exact Aip
 obtain rfl:k=qs.length:=by omega
 rw [aq] at hv
 clear hlt hk
 have hva:¬ qs.all ivC=false:=by rw [gf];exact List.all_eq_true.2 hv
 have hE:=ArO (os:=os) h0 hL hva
 have hsl:(qs.map ivQ).length=(AX bs).length:=by rw [af];exact hL
 repeat' (with_reducible first|refine qq ?_|(refine Tx 5 ?_;refine gO xLt ?_)|(refine Tx 10 ?_;refine gO xF <| gO xD <| gO xN <| gN ApN <| gO xA ?_)|(refine Tx 11 ?_;refine gO xM <| gO xN <| gO xM ?_))
 refine AJ (Be 2 (h:=by rw [←hnl];exact mB rfl rfl)) (Al (fun n Fr H=>∃ k:Nat,k≤(AX bs).length∧n=(AX bs).length - k∧(∀ p∈(qs.map ivQ).take k,Eu p=false)∧Fr=ofL [(1,vd (Vn qs)),(2,vr 0),(6,vd (AU false (BU (AX bs)))),(9,vo 1 bs.length),(39,vd (AU false (BU (AX bs)))),(40,vi ((AX bs).length)),(41,vi ((k:Nat)))]∧H=[.box 26 [.d (CY t ps),.d (Cw t bs),.d (AU t os)],.row 45 6 bs.length (kWs (UF ((AX bs).take (k)) ((qs.map ivQ).take (k)) (List.replicate bs.length none)))]) (n0:=(AX bs).length) ⟨0,ad _,rfl,(fun r hr=>by simp at hr),rfl,rfl⟩ ?_)
 rintro n Fr H ⟨k,hk,rfl,hnl2,rfl,rfl⟩
 by_cases hlt:k<(AX bs).length
 case pos =>
  obtain ⟨i,hi⟩:∃ i,(AX bs)[k]?=some i:=⟨_,gE hlt⟩
  obtain ⟨q,hq⟩:∃ q,qs[k]?=some q:=⟨_,gE (by omega)⟩
  have hqm:=gM hq
  obtain ⟨sw,hdy,lw1,lw2⟩:=PJ (hw q hqm).1 (hw q hqm).2 (hv q hqm)
  have hst:(qs.map ivQ)[k]?=some (ivQ q):=by rw [ag,hq];rfl
  have hra:=PI hq
  rw [hdy] at hra
  have hil2:=(Hv hi).1
  have LG:=UR (ivQ q) sw.s1.ok sw.s2.ok lw1 lw2
  have tl:i<(UF ((AX bs).take (k)) ((qs.map ivQ).take (k)) (List.replicate bs.length none)).length:=by rw [Mv,ep];exact hil2
  have stV:(UF ((AX bs).take (k)) ((qs.map ivQ).take (k)) (List.replicate bs.length none)).set i (some (ivQ q))=(UF ((AX bs).take (k+1)) ((qs.map ivQ).take (k+1)) (List.replicate bs.length none)):=(PG _ hi hst).symm
  by_cases hlg:Eu (ivQ q)=true
  case pos =>
   rw [hlg] at LG
   rw [Ym hst hlg,if_pos rfl] at hE
   rw [hE,NN (by decide)]
   repeat' (with_reducible first|refine qq ?_|(refine Tx 12 ?_;refine gO xLt ?_)|refine Aiy ?_|(refine Tx 16 ?_;refine gO xA <| gO xA ?_))
   exact Yx
  rw [ay] at hlg
  rw [hlg] at LG
  repeat' (with_reducible first|refine qq ?_|(refine Tx 12 ?_;refine gO xLt ?_)|refine Aiy ?_|(refine Tx 17 ?_;refine gO xAd <| gO xM ?_))
  exact Aio
 obtain rfl:k=(AX bs).length:=by omega
 clear hlt hk
 rw [aj (by omega)] at hnl2
 have HD:=SN (bs:=bs) (st:=(qs.map ivQ)) (fun p hp=>by obtain ⟨q,hq,rfl⟩:=List.mem_map.1 hp;exact PF (PJ (hw q hq).1 (hw q hq).2 (hv q hq)).1 (hnl2 _ hp)) hsl
 rw [←Adx ps bs (qs.map ivQ)] at HD
 rw [aq,aj (l:=(qs.map ivQ)) (by omega),←Adx ps bs (qs.map ivQ)]
 repeat' (with_reducible first|refine qq ?_|(refine Tx 12 ?_;refine gO xLt ?_)|(refine Tx 18 ?_;refine gO xL <| gO (xCl func43 (OL)) <| gO xN <| gO xM ?_))
 refine AJ (Be 2 (h:=by rw [←hol];exact mB rfl rfl)) (Al (fun n Fr H=>∃ k:Nat,k≤(Co bs).length∧n=(Co bs).length - k∧Aay (rgS ps bs (qs.map ivQ) (k)) (AhU bs k)∧(∀ s,s<k→Eu (rgN ps bs (qs.map ivQ) s)=false)∧Fr=ofL [(2,vr 0),(9,vo 1 bs.length),(60,vd (AU false (BU (Co bs)))),(61,vi ((Co bs).length)),(62,vi ((k:Nat)))]∧H=[.box 26 [.d (CY t ps),.d (Cw t bs),.d (AU t os)],.row 45 6 bs.length (kWs (rgS ps bs (qs.map ivQ) (k)))]) (n0:=(Co bs).length) ⟨0,ad _,rfl,HD,(fun s hs=>absurd hs (fo s)),rfl,rfl⟩ ?_)
 rintro n Fr H ⟨k,hk,rfl,HK,hgd,rfl,rfl⟩
 by_cases hlt:k<(Co bs).length
 case pos =>
  obtain ⟨j,hj⟩:∃ j,(Co bs)[k]?=some j:=⟨_,gE hlt⟩
  obtain ⟨y,hy,hk2,T⟩:=SO h0 hj HK
  have hjl:=(Pt hj).1
  have TS:=T.sm
  have hvn:=Aiq (ps:=ps) (st:=(qs.map ivQ)) hj hy
  rw [←hvn] at TS
  have tl:j<(rgS ps bs (qs.map ivQ) (k)).length:=by rw [Hz];exact hjl
  have stV:(rgS ps bs (qs.map ivQ) (k)).set j (some (rgN ps bs (qs.map ivQ) k))=(rgS ps bs (qs.map ivQ) (k+1)):=(SJ hj).symm
  have hnx:=PH HK hj
  by_cases k0:y.kind=0
  case pos =>
   obtain ⟨i0,pp,q0,w0,ps0⟩:=T.hin k0
   have m1:=(gS.1 q0).1
   have m3:=(gS.1 w0).1
   have hb:Bs y (Gk (rgS ps bs (qs.map ivQ) (k)) y) ps=IK pp:=by unfold Bs;rw [if_pos k0,q0];simp [w0]
   rw [hb] at hvn
   have PO:=UQ pp ps0
   have hsm:IwS (IK pp) LB LB:=ps0.iw.more (by decide) (by decide)
   have hsn:Eu (rgN ps bs (qs.map ivQ) k)=false:=by rw [hvn];exact AgL hsm
   have hnx:=hnx (by rw [hvn];exact hsm)
   rw [hvn] at stV
   repeat' (with_reducible first|refine qq ?_|(refine Tx 19 ?_;refine gO xLt ?_)|refine Aiz ?_|(refine Ax (id:=23) 12 AC (by kernel_rfl) ?_;dsimp only [List.take,List.drop];refine gP xM <| gP xM <| gP xF <| gP xD <| gP xF <| gP xD <| gP (by first|exact xIr Ae (Ay q0)|exact xIo (i:=j) Ae) <| gP xD <| gP (by first|exact xIo (i:=j) Ci|exact xIr Ci (IV w0)) <| gP xL <| gP (xCl func109 (PO)) <| gP (xIo (i:=j) Ad) ?_;refine Ke ?_;refine gZ Aaa ?_)|(refine Tx 33 ?_;refine gO xAd <| gO xM ?_))
   refine ⟨_,_,Be 2,_,by omega,k+1,by omega,rfl,hnx,Sn hgd hsn,rfl,rfl⟩
  have hA:=GB h0 hy
  have hmo:EE ps.length bs.length y.kind=bs.length:=if_neg k0
  rw [hmo] at hA
  have hal:=T.len
  have hXL:=AdJ (vs:=(rgS ps bs (qs.map ivQ) (k))) k0
  have hVL:(rgS ps bs (qs.map ivQ) (k)).length=bs.length:=Hz _ _ _ _
  rw [AdK k0] at hvn
  repeat' (with_reducible first|refine qq ?_|(refine Tx 19 ?_;refine gO xLt ?_)|refine Aiz ?_|(refine Tx 24 ?_;refine gO xA ?_))
  refine AJ (Fh 15 45 6 rfl) ?_
  repeat' (with_reducible first|refine qq ?_|(refine Tx 25 ?_;refine gO xF <| gO xD <| gO xN <| gO xM ?_))
  refine AJ (Be 4) (Al (fun n Fr H=>∃ u:Nat,u≤y.args.length∧n=y.args.length - u∧Fr=ofL [(2,vr 0),(9,vo 1 bs.length),(60,vd (AU false (BU (Co bs)))),(61,vi ((Co bs).length)),(62,vi ((k:Nat))),(13,vi ((j:Nat))),(14,vr 2),(15,vo 3 (((Gk (rgS ps bs (qs.map ivQ) k) y).take u).length)),(87,vd (AU t y.args)),(88,vi y.args.length),(89,vi ((u:Nat)))]∧H=[.box 26 [.d (CY t ps),.d (Cw t bs),.d (AU t os)],.row 45 6 bs.length (kWs (rgS ps bs (qs.map ivQ) (k))),.box 65 ((dBk t y).map C.d),.row 45 6 ((Gk (rgS ps bs (qs.map ivQ) (k)) y).take (u)).length ((An (dIw false) ((Gk (rgS ps bs (qs.map ivQ) (k)) y).take (u))).map C.d)]) (n0:=y.args.length) ⟨0,ad _,rfl,rfl,rfl⟩ ?_)
  rintro n Fr H ⟨u,hu,rfl,rfl,rfl⟩
  by_cases hlu:u<y.args.length
  case pos =>
   obtain ⟨a,ha⟩:∃ a,y.args[u]?=some a:=⟨_,gE hlu⟩
   obtain ⟨p,a0,a1,hp,hat⟩:=T.args k0 u a ha
   have hae:a=((a.toNat:Nat):Int):=by omega
   obtain ⟨hap,hap2,hoL⟩:=Gl hat
   repeat' (with_reducible first|refine qq ?_|(refine Tx 26 ?_;refine gO xLt ?_)|(refine Tx 27 ?_;refine gO (by first|exact xIr Ae (Ay ha)|exact IU (i:=a.toNat) rfl rfl rfl rfl hae Ae (by omega) (by decide)) <| gO xD <| gO xA ?_)|(refine Tx 28 ?_;refine gO xM <| gO xM <| gO xM <| gO (by exact IU (i:=a.toNat) rfl rfl rfl rfl hae Ad (by omega) (by decide)) <| gO (by first|exact Wu rfl rfl rfl hp Ab|exact xLa Ab) <| gN (by exact BH rfl Ad Ai rfl rfl (by decide) (by decide)) <| gT (by exact Mj rfl rfl rfl rfl rfl rfl Ad Ai (by omega) (by decide) (by decide) rfl hap hap2) <| gO xA ?_)|(refine Tx 29 ?_;refine gO xAd <| gO xM ?_))
   refine ⟨_,_,Be 4,_,by omega,u+1,by omega,rfl,rfl,rfl⟩
  obtain rfl:u=y.args.length:=by omega
  clear hlu hu
  rw [←hXL,aq]
  have BL:=Rj t true y (Gk (rgS ps bs (qs.map ivQ) (k)) y) (by omega) (by have:=T.hk;omega) (fun h=>by rw [hXL];have h1:=hA.1;have h2:=hA.2.1;have:=T.hk;unfold Bw at h1 h2;(repeat' split at h2) <;> omega) (fun h=>by rw [hXL];have h1:=hA.1;have h2:=hA.2.1;unfold Bw at h1 h2;(repeat' split at h2) <;> omega) (fun p hp=>(T.hs p hp).more (by decide) (by decide)) T.hsv T.hsu T.hcl
  rw [←hvn] at BL
  have hbad:=Yn (ps:=ps) (st:=(qs.map ivQ)) hlt
  have hat2:(rgS ps bs (qs.map ivQ) (k+1))[j]?=some (some (rgN ps bs (qs.map ivQ) k)):=by rw [←stV,cn,if_pos rfl,if_pos tl]
  have LG:=UR (rgN ps bs (qs.map ivQ) k) TS.s1.ok TS.s2.ok TS.s1.lz TS.s2.lz
  by_cases hlg:Eu (rgN ps bs (qs.map ivQ) k)=true
  case pos =>
   rw [hlg] at LG
   rw [hbad hlg,if_pos rfl] at hE
   rw [hE,NN (by decide)]
   repeat' (with_reducible first|refine qq ?_|(refine Tx 26 ?_;refine gO xLt ?_)|refine AiA ?_|(refine Tx 32 ?_;refine gO xA <| gO xA ?_))
   exact Yx
  rw [ay] at hlg
  rw [hlg] at LG
  repeat' (with_reducible first|refine qq ?_|(refine Tx 26 ?_;refine gO xLt ?_)|refine AiA ?_|(refine Tx 33 ?_;refine gO xAd <| gO xM ?_))
  exact Ain
 obtain rfl:k=(Co bs).length:=by omega
 clear hlt hk
 rw [Yo hnl2 hgd,if_neg (by decide)] at hE
 rw [hE,Un rfl]
 have hvE:(rgV ps bs (qs.map ivQ)).length=bs.length:=by unfold rgV;rw [Yk,Hz]
 unfold AeT
 rw [hvE]
 repeat' (with_reducible first|refine qq ?_|(refine Tx 19 ?_;refine gO xLt ?_)|(refine Tx 34 ?_;refine gO xM <| gO xA <| gO xA ?_))
 exact Au rfl (.cons_ (.tmp (.one (Wt rfl rfl rfl))) (.cons_ (Lw rfl rfl) .nil_))
theorem ApU (n e f:Int):CVF prog Ah 52 [.agg [dI n,dI e],aI f] [aI (ZD n e f),aE (Ed n e f)]:=fun w S vs hg hlt ha=>by
 obtain ⟨v,vs',rfl,h1,ha⟩:=ha.uncons
 obtain ⟨u,hu,h2⟩:=BM ha
 subst hu
 obtain ⟨xs,rfl,h3⟩:=h1
 have h4:=Ir (vs:=[.int .i64 n,.int .i64 e]) h3
 subst h4
 cases h2
 refine (AfK n e f w hg).mono fun r w' ⟨he,hb⟩=>?_
 exact ⟨_,he,Na (Bx.val rfl) (Bx.val (Afx _)),hb⟩
def flP:List Prt:=[⟨-1,1,0⟩]
def flB:List Bk:=[⟨0,none,[0],0,0,0,0,0⟩,⟨6,none,[3],0,1,-1,0,0⟩,⟨3,none,[0,1],0,0,0,0,0⟩,⟨2,none,[2],0,0,0,0,0⟩]
def flO:List Int:=[2]
theorem AdL:CV prog Ah 31 [] [aDg false flP flB flO]:=by
 refine cvz func31 ntmps31 ?_
 repeat' (with_reducible first|refine qq ?_|(refine Tx 0 ?_;refine gN (xAl QI) ?_)|(refine Tx 1 ?_;refine gO (by exact AF rfl Akv rfl rfl) <| gN (by exact BH rfl Ci OV rfl rfl (by decide) (by decide)) <| gN (by exact BH rfl Ae CC rfl rfl (by decide) (by decide)) <| gN (by exact BH rfl Ae CC rfl rfl (by decide) (by decide)) <| gO (by exact AF rfl Od rfl rfl) <| gN (by exact BH rfl Ae CC rfl rfl (by decide) (by decide)) <| gO (by exact AF rfl Hj rfl rfl) <| gO (by exact AF rfl Od rfl rfl) <| gN (by exact Fj rfl Ae CC rfl rfl rfl rfl (by decide) (by decide)) <| gO (by exact AF rfl Od rfl rfl) <| gN (by exact BH rfl Ae CC rfl rfl (by decide) (by decide)) <| gO (by exact AF rfl Od rfl rfl) <| gN (by exact ED rfl rfl Ak Bu (by decide) (by decide) (by decide) rfl rfl rfl) <| gO (by exact AF rfl Zr rfl rfl) <| gZ (xSk DM) ?_))
 exact Au rfl (.cons_ (AhA rfl rfl DM rfl rfl (by first|((repeat' first|exact Br rfl rfl|refine AO rfl rfl ?_ ?_|refine Dn rfl rfl ?_|refine Cf rfl rfl ?_|exact Bi rfl (fun _=>DY.val _)|exact GL rfl rfl|exact cexp_e rfl rfl|refine Dc rfl rfl rfl ?_) <;> fail)|fail)) .nil_)
theorem AdM {α:Type} {p:α→Bool} {l:List α} {k:Nat} {x:α} (h:l[k]?=some x) (hp:p x=false):l.all p=false:=List.all_eq_false.2 ⟨x,gM h,by rw [hp];exact Bool.false_ne_true⟩
theorem AdN (h0:AY ps bs os=0) (hl:Dx ps bs os) (rd:Int) (r1:rd≤16):∃ (f:Nat) (e:Int) (l:List Iq),f≤1000000000∧La ps bs rd f=some (e,l)∧((e=0∧PP bs l∧Dt ps bs l=false∧Wx ps bs l=true)∨((e=4∨e=22)∧l=[])):=by
 have hdb:=Fp bs
 have hl2:=hl.l2
 refine ⟨300000000,?_⟩
 unfold La
 by_cases hf:(BZ bs).any EQ=true
 ·exact ⟨22,[],by decide,by rw [if_pos hf],.inr ⟨.inr rfl,rfl⟩⟩
 ·rw [if_neg hf]
  rw [ay] at hf
  have hI:=Nm h0 hf
  obtain ⟨⟨e,l⟩,hr⟩:=Rg (rd:=rd) h0 20 300000000 1 (BZ bs) hI (by omega) (by omega)
  exact ⟨e,l,by decide,hr,Yu h0 _ _ _ _ _ hI hr⟩
section
variable {ps:List Prt} {bs:List Bk} {os:List Int} {st:List Iq}
def CZ (V:List Iq) (y:Bk):List Iq:=if y.kind=0 then [] else y.args.map fun a=>V[a.toNat]?.getD iZ
theorem AdO (h:y.kind≠0):(CZ V y).length=y.args.length:=by unfold CZ;rw [if_neg h,af]
theorem CB (h:y.kind≠0) {k:Nat} {a:Int} (ha:y.args[k]?=some a) {p:Iq} (hp:V[a.toNat]?=some p):(CZ V y)[k]?=some p:=by
 unfold CZ
 rw [if_neg h,ag,ha,dc,hp]
 rfl
theorem Ei (hV:∀ p∈V,IwS p LB LB):∀ p∈CZ V y,IwS p LB LB:=fun p hp=>by
 unfold CZ at hp
 split at hp
 ·cases hp
 ·obtain ⟨a,_,rfl⟩:=List.mem_map.1 hp
  exact BE hV _
theorem Wy (he:AY ps bs os=0) (hs:∀ p∈st,IwS p LB LB) (hl:st.length=(AX bs).length) (hb:Dt ps bs st=false):∀ p∈rgV ps bs st,IwS p LB LB:=fun p hp=>by
 obtain ⟨i,hi⟩:=List.mem_iff_getElem?.1 hp
 have hil:=(gS.1 hi).1
 rw [LL] at hil
 obtain ⟨q,hq,_,hs⟩:=Yp he hs hl hb hil
 rw [hi] at hq
 cases hq
 exact hs
end
structure Ct where
 F:List Int
 R:List Iq
 E:List Pq
def dCt (u:Bool) (c:Ct):List D:=[AU u c.F,.row false 6 c.R.length (An (dIw false) c.R),.row false 3 c.E.length (An dyP c.E)]
def rowE (E:List Pq):D:=.row false 3 E.length (An dyP E)
abbrev eG (E:List Pq) (a:Int):Pq:=E[a.toNat]?.getD (0,0)
abbrev rG (R:List Iq) (a:Int):Iq:=R[a.toNat]?.getD iZ
abbrev sG (F:List Int) (a:Int):Int:=scA F a.toNat
def inK (k:Int):Bool:=decide (-62≤k∧k≤30)
def frB (f:Int):Bool:=decide (0≤f∧f≤30)
def rwB (n e f:Int):Bool:=decide (Ed n e f=0)
def Mw (ps:List Prt) (F:List Int) (y:Bk) (s:Int):Bool :=
 if y.kind=0 then inK (s - XS ps (De y))
 else if y.kind=1 then rwB y.vn y.ve s
 else if y.kind=6 then inK (s - sG F (De y)+y.ve)
 else if y.kind=7 then inK (s - sG F (De y) - sG F (FV y))
 else if y.kind=2 then inK (s - sG F (De y)) && rwB y.vn y.ve s
 else if y.kind=11 then inK (s - sG F (De y)) && rwB y.vn y.ve s && rwB y.un y.ue s
 else y.args.all fun a=>inK (s - sG F a)
def Cl (ps:List Prt) (F:List Int) (y:Bk) (i:Nat):Bool :=
 frB (scA F i) && ((decide (y.kind=0) || y.args.all fun a=>frB (sG F a)) && Mw ps F y (scA F i))
def LO (ps:List Prt) (R:List Iq) (y:Bk):Iq :=
 if y.kind=2 then Gg (Af y.vn 0 y.ve,Af y.vn 0 y.ve) (rG R (De y)) else Bs y (CZ R y) ps
def Da (ps:List Prt) (R:List Iq) (y:Bk) (i:Nat):Bool:=iIn (LO ps R y) (R[i]?.getD iZ)
def Bn (n e f:Int):Bool:=decide ((GN (Af n 0 e) f).2=0)
def ixP (b:Bool) (s:Int):Pq:=if b=true then pw (-s) else (0,0)
def mvP (F:List Int) (E:List Pq) (s a:Int):Pq:=if sG F a≤s then eG E a else DP (eG E a) (pw (-s))
def AP (ps:List Prt) (F:List Int) (R:List Iq) (E:List Pq) (y:Bk) (s:Int):Pq :=
 if y.kind=0 then ixP (decide (s<XS ps (De y))) s
 else if y.kind=1 then ixP (!Bn y.vn y.ve s) s
 else if y.kind=3∨y.kind=4 then DP (mvP F E s (De y)) (mvP F E s (FV y))
 else if y.kind=5∨y.kind=10 then mvP F E s (De y)
 else if y.kind=8∨y.kind=9 then GG (mvP F E s (De y)) (mvP F E s (FV y))
 else if y.kind=6 then DP (CG (GF (Af y.vn 0 y.ve)) (eG E (De y))) (ixP (decide (s - sG F (De y)+y.ve<0)) s)
 else if y.kind=7 then DP (DP (DP (CG (Fu (rG R (De y))) (eG E (FV y))) (CG (Fu (rG R (FV y))) (eG E (De y)))) (CG (eG E (De y)) (eG E (FV y)))) (ixP (decide (s - sG F (De y) - sG F (FV y)<0)) s)
 else if y.kind=11 then GG (mvP F E s (De y)) (ixP (!Bn y.vn y.ve s || !Bn y.un y.ue s) s)
 else GG (mvP F E s (De y)) (ixP (!Bn y.vn y.ve s) s)
def GS (x:Pq) (f:Int):Bool:=decide (Gf (GN x f) (2147483647,0)≤0)
def AeU (F:List Int) (R:List Iq) (E:List Pq) (y:Bk) (i:Nat):Bool :=
 GS (DP (Fu (R[i]?.getD iZ)) (E[i]?.getD (0,0))) (scA F i) && (!decide (y.kind=11) || GS (DP (rG R (De y)).2 (eG E (De y))) (scA F i))
def IL (ps:List Prt) (bs:List Bk) (c:Ct) (i:Nat):Int :=
 let y:=AqO bs i
 if Cl ps c.F y i=false then 1 else if Da ps c.R y i=false then 2
 else if Gf (c.E[i]?.getD (0,0)) (AP ps c.F c.R c.E y (scA c.F i))<0 then 3 else if AeU c.F c.R c.E y i=false then 4 else 0
def upQ (x:Pq):Pq:=ZR x 62
def Rk (x:Pq):Bool:=decide (0<Gf x (1099511627776,0))
structure AqR (bs:List Bk) (c:Ct):Prop where
 lF:c.F.length=bs.length
 lR:c.R.length=bs.length
 lE:c.E.length=bs.length
 sR:∀ p∈c.R,IwS p LB LB
 sE:∀ p∈c.E,Sm p LB LB
 nE:∀ p∈c.E,0≤gv p
theorem Fy {d:Nat} (h:∀ p∈E,Sm p n d) (a:Int):Sm (eG E a) n d:=DA h _
theorem AlX {R:List Iq} {d:Nat} (h:∀ p∈R,IwS p n d) (a:Int):IwS (rG R a) n d:=BE h _
theorem UU (h0:0≤s) (h1:s≤30):Sm (pw (-s)) 31 30:=NQ (n:=30) (by omega) (by omega) (by decide)
theorem ArT (h0:0≤s) (h1:s≤30):gv (pw (-s))=2 ^ (65536 - s.toNat):=by rw [EL (by omega) (by omega)];congr 1;omega
theorem Mx {b:Bool} (h0:0≤s) (h1:s≤30):Sm (ixP b s) 31 30:=by
 unfold ixP
 split
 ·exact UU h0 h1
 ·exact Sm.zero _ _
theorem Ev {F:List Int} (h0:0≤s) (h1:s≤30) (hE:∀ p∈E,Sm p LB LB) (a:Int):Sm (mvP F E s a) 8200 LB:=by
 unfold mvP
 split
 ·exact (Fy hE a).more (by decide) (by decide)
 ·exact (Sm.sum (Fy hE a) ((UU h0 h1).more (n':=LB) (d':=LB) (by decide) (by decide)) (by decide)).more (by decide) (by decide)
theorem Fq {p:Pq} {d:Nat} (h:Sm p n d) {f:Int} (f0:0≤f) (f1:f≤30):Sm (GN p f) (n+30) d:=by
 show Sm (Af p.1 p.2 f) (n+30) d
 unfold Af
 rw [show max (-65536) (min f 65536)=f by omega,if_neg (by omega)]
 refine Sm.mk_nf h.d h.ok.le ?_
 rw [gl,fx,show Int.natAbs 2=2 from rfl,bi]
 have h1:2 ^ f.toNat≤2 ^ 30:=au (by decide) (by omega)
 have h2:(0:Nat)<2 ^ f.toNat:=bd _
 exact al (jk h.n h2) (gi _ h1)
theorem Lc {d:Nat} (h:IwS a n d):Sm (Fu a) n d:=h.abs.s2
theorem ST {F:List Int} {R:List Iq} (h0:0≤s) (h1:s≤30) (hR:∀ p∈R,IwS p LB LB) (hE:∀ p∈E,Sm p LB LB) (hv:y.kind=6→DN y.vn y.ve):Sm (AP ps F R E y s) 40064 9000:=by
 have ix:∀ b,Sm (ixP b s) 16000 8192:=fun b=>(Mx h0 h1).more (by decide) (by decide)
 have mv:∀ a,Sm (mvP F E s a) 8200 LB:=Ev h0 h1 hE
 unfold AP
 split
 ·exact (ix _).more (by decide) (by decide)
 split
 ·exact (ix _).more (by decide) (by decide)
 split
 ·exact (Sm.sum (mv _) (mv _) (by decide)).more (by decide) (by decide)
 split
 ·exact (mv _).more (by decide) (by decide)
 split
 ·exact (Sm.max (mv _) (mv _)).more (by decide) (by decide)
 split
 ·next h=>exact (Sm.sum ((Sm.mul (EP (hv h)).abs (Fy hE _) (by decide)).more (n':=16000) (d':=8192) (by decide) (by decide)) (ix _) (by decide)).more (by decide) (by decide)
 split
 ·have m1:∀ a b,Sm (CG (Fu (rG R a)) (eG E b)) 8192 8192:=fun a b=>Sm.mul (Lc (AlX hR a)) (Fy hE b) (by decide)
  have m2:∀ a b,Sm (CG (eG E a) (eG E b)) 8192 8192:=fun a b=>Sm.mul (Fy hE a) (Fy hE b) (by decide)
  have s1:=Sm.sum (m1 (De y) (FV y)) (m1 (FV y) (De y)) (by decide)
  have s2:=Sm.sum s1 ((m2 (De y) (FV y)).more (n':=16385) (d':=8192) (by decide) (by decide)) (by decide)
  exact (Sm.sum s2 ((Mx h0 h1).more (n':=24578) (d':=8192) (by decide) (by decide)) (by decide)).more (by decide) (by decide)
 split
 ·exact (Sm.max (mv _) ((Mx h0 h1).more (by decide) (by decide))).more (by decide) (by decide)
 ·exact (Sm.max (mv _) ((Mx h0 h1).more (by decide) (by decide))).more (by decide) (by decide)
theorem ApV {x:Pq} (h:x.2≤GQ):gv x≤gv (upQ x)∧gv (upQ x)<gv x+2 ^ (GQ - 62)∧∃ k:Int,gv (upQ x)=k*2 ^ (GQ - 62):=by
 obtain ⟨a,b,k,c⟩:=Sq (p:=(-x.1,x.2)) (den:=62) h (by decide)
 have e:gv (upQ x) = -gv (Bo (-x.1) x.2 62):=El _
 have f:gv (-x.1,x.2) = -gv x:=El x
 dsimp only at a b c
 rw [f] at a b
 rw [e]
 generalize gv (Bo (-x.1) x.2 62)=w at *
 refine ⟨by omega,by omega,-k,?_⟩
 rw [c,di]
end Go.Proofs.YtjlkgfeepocjfaaGreatDoor
