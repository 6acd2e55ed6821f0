/- What the proofs of this claim share, part 13. No conditions. -/
import Derived.Test.YtmdfjbpggbhgnaaGreatDoorZt12
import Derived.Test.YtmdfjbpggbhgnaaGreatDoorZt6
import Derived.Test.YtmdfjbpggbhgnaaGreatDoorZt10
set_option maxRecDepth 100000
set_option maxHeartbeats 4000000
set_option linter.unusedVariables false
set_option linter.unusedSimpArgs false
set_option linter.unusedSectionVars false
namespace Go.Proofs.YtmdfjbpggbhgnaaGreatDoor
open Go.RowKit
theorem FU {N:Nat} {F:Frm} {H:List Ob} {ty s n:Nat} {ds:List D} (t id:Nat) (h:F t=.one (.own id n)) (hH:H[id]?=some (.row ty s n (ds.map C.d))):Wk N F H (F.put (some t) (.one (.d (.row false s n ds)))) (H.set id .dead):=fun b0 w0 S0 a m hm hs=>by
 subst hm
 have hv:=hs.frame t
 rw [h] at hv
 obtain ⟨xs,hE,hat,hl⟩:=Hi hs.cx hv hH
 generalize hvv:a.tmps.getD t undef=v at hv hE hat
 have hidl:=(List.getElem?_eq_some_iff.1 hH).1
 have hset:∀ i ob,(m.H.set id .dead)[i]?=some ob→(i=id∧ob=.dead)∨(i≠id∧m.H[i]?=some ob):=fun i ob hi=>by
  rw [List.getElem?_set] at hi
  by_cases e:id=i
  ·rw [if_pos e,if_pos (by omega)] at hi
   exact .inl ⟨e.symm,(Option.some.inj hi).symm⟩
  ·rw [if_neg e] at hi
   exact .inr ⟨fun h=>e h.symm,hi⟩
 have hget:∀ i e,(if i=id then none else m.E i)=some e→i≠id∧m.E i=some e:=fun i e hi=>by
  by_cases q:i=id
  ·rw [if_pos q] at hi;cases hi
  ·rw [if_neg q] at hi;exact ⟨q,hi⟩
 have hle:Le m { m with S:=fun t b=>m.S t b∨(t=false∧v.ownBlock=some b),H:=m.H.set id .dead,E:=fun i=>if i=id then none else m.E i }:=by
  refine ⟨fun t b h=>.inl h,?_,fun _ _ _=>rfl,fun i ob hob=>?_⟩
  ·funext b
   simp
  ·by_cases q:i=id
   ·subst q
    exact ⟨.dead,by show (m.H.set i .dead)[i]?=_;rw [List.getElem?_set,if_pos rfl,if_pos hidl],fun k hk=>by cases hk⟩
   ·exact ⟨ob,by show (m.H.set id .dead)[i]?=_;rw [List.getElem?_set,if_neg (fun h=>q h.symm)];exact hob,Ie.same fun e he=>by show (if i=id then none else m.E i)=some e;rw [if_neg q];exact he⟩
 refine ⟨{ m with S:=fun t b=>m.S t b∨(t=false∧v.ownBlock=some b),H:=m.H.set id .dead,E:=fun i=>if i=id then none else m.E i },rfl,rfl,⟨⟨fun i e hi=>?_,fun i j e e' hij hi hj=>?_,fun i e g t' hi hg=>?_,fun t' b hb=>?_⟩,fun i ob hob hk=>?_,fun t'=>?_,hs.size,hs.defers,hs.below,hs.base,fun b hb=>?_,?_⟩⟩
 ·obtain ⟨q,hi⟩:=hget i e hi
  obtain ⟨h1,ob,h2,h3⟩:=hs.cx.each i e hi
  exact ⟨h1,ob,by show (m.H.set id .dead)[i]?=_;rw [List.getElem?_set,if_neg (fun h=>q h.symm)];exact h2,h3.le hle⟩
 ·exact hs.cx.apart i j e e' hij (hget i e hi).2 (hget j e' hj).2
 ·obtain ⟨q,hi⟩:=hget i e hi
  rintro (hb|⟨rfl,hb⟩)
  ·exact hs.cx.far i e g t' hi hg hb
  ·exact hs.cx.apart i id e _ q hi hE g hg hb
 ·rcases hb with hb|⟨_,hb⟩
  ·exact hs.cx.lt t' b hb
  ·exact (World.ownsRow.lt hat b hb).2
 ·rcases hset i ob hob with ⟨_,rfl⟩|⟨q,h1⟩
  ·cases hk
  ·show (if i=id then none else m.E i).isSome=true
   rw [if_neg q]
   exact hs.tot i ob h1 hk
 ·rw [LU]
  split
  ·rename_i ht
   cases ht
   rw [hvv]
   have hld:Bv (BE m.w m.S) ds xs:=⟨by have:=hl.1;simpa using this,fun j x y hx hy=>hl.2 j (.d x) y (by simp [hx]) hy⟩
   show BE _ _ (.row false s n ds) v
   rcases hat.2 with ⟨rfl,h0⟩|⟨g,cap,cur,rfl,hb,hg,hnc,_,hcur,hxs⟩
   ·subst h0
    have hx0:xs=[]:=List.eq_nil_of_length_eq_zero (by have:=hat.1;simpa using this)
    subst hx0
    have hd0:ds=[]:=List.eq_nil_of_length_eq_zero (by have:=hld.1;simpa using this)
    subst hd0
    exact .row [] (Nat.le_refl _) (fun _=>rfl) (by simp) rfl (fun h=>absurd rfl h) (fun j u x hu=>by simp at hu)
   ·refine .row xs hnc (by simp) (by rw [hld.1];exact hat.1) hld.1 (fun _=>⟨g,0,rfl,.inr ⟨rfl,rfl⟩,fun j x hj=>?_⟩) (fun j u x hu hx=>BE.le hle (hld.2 j u x hu hx))
    rw [Nat.zero_add,cell_of_row _ g j _ ty (0,0) hg]
    have hj':(cur.toList.take (n*s))[j]?=some x:=by rw [hxs];exact hj
    rw [List.getElem?_take] at hj'
    split at hj'
    ·simpa using hj'
    ·cases hj'
  ·exact (hs.frame t').le hle
 ·rcases hb with hb|⟨_,hb⟩
  ·exact hs.S b hb
  ·exact .inr (World.ownsRow.lt hat b hb).1
 ·exact hle.T.trans hs.T
def wdN (n:Nat):List D:=(w32 (Ad n)).map D.val
def EK (t:Bool) (n:Nat):D:=.row t 1 (Ad n).length (wdN n)
theorem WN (n:Nat):wdN n=(Ad n).map dW:=Un _
theorem NI {n k p:Nat} (h:(Ad n)[k]?=some p):((wdN n).drop (k*1)).take 1=[dW p]:=by
 rw [WN]
 exact Fl h
theorem Afm (ws:List Nat):cW ws=(ws.map dW).map C.d:=by simp [cW]
theorem Lx {w:World} {S:Eu} {t:Bool} {n:Nat} {ws:List Nat} {v:Value} (h:BE w S (.row t 1 n (ws.map dW)) v) (hS:∀ t b,S t b→b<w.heap.size) (hn:n=ws.length):∃ A c,v=.slice A ws.length c∧(A=none→c=0)∧ws.length≤c∧Am w w.heap.size A (w32 ws)∧(ws≠[]→∃ b off,A=some ⟨b,off,none⟩∧S t b∧∀ (j:Nat) (x:Value),(w32 ws)[j]?=some x→w.cell? ⟨b,off+j,none⟩=some x):=by
 subst hn
 cases h with
 | @row _ _ _ c cs A xs hc hA hl hx hm hr =>
  have hw:xs=w32 ws:=Lp (vs:=w32 ws) (by rw [Un];exact ⟨hx,hr⟩)
  subst hw
  refine ⟨A,c,rfl,hA,hc,fun hne=>?_,fun hne=>hm fun h=>hne (List.map_eq_nil_iff.1 h)⟩
  obtain ⟨b,off,rfl,hb,hcell⟩:=hm (fun h=>hne (by rw [List.map_eq_nil_iff.1 h];rfl))
  exact ⟨b,off,rfl,hS _ _ hb,hS _ _ hb,hcell⟩
theorem Ace {w:World} {S:Eu} {t:Bool} {n:Nat} {v:Value} (h:BE w S (EK t n) v) (hS:∀ t b,S t b→b<w.heap.size):WdR w w.heap.size v n:=by
 unfold EK at h
 rw [WN] at h
 obtain ⟨A,c,rfl,h1,h2,h3,_⟩:=Lx h hS rfl
 exact ⟨A,c,rfl,h1,h2,h3⟩
theorem WO {w:World} {S:Eu} {t:Bool} {A:Option Addr} {c n:Nat} {ws:List Nat} (hn:n=ws.length) (hc:n≤c) (hA:A=none→c=0) (hm:ws≠[]→∃ b off,A=some ⟨b,off,none⟩∧S t b∧∀ (j:Nat) (x:Value),(w32 ws)[j]?=some x→w.cell? ⟨b,off+j,none⟩=some x):BE w S (.row t 1 n (ws.map dW)) (.slice A n c):=by
 subst hn
 refine .row (w32 ws) hc hA (by simp) (by simp [w32]) (fun hne=>hm fun h=>hne (by rw [h];rfl)) (fun j u x hu hx=>?_)
 rw [←Un,List.getElem?_map,hx] at hu
 cases hu
 exact .val (Rt (List.mem_of_getElem? hx))
section
variable {G:World→Prop}
theorem Ly (ws:List Nat) (n:Nat) (hn:n=ws.length) (hw:Az ws) (hl:ws.length≤1000000):CV Tryz.prog G 161 [.one (.row false 1 n (ws.map dW))] [.one (EK false (AO ws))]:=fun w S vs hg hlt ha=>by
 obtain ⟨u,hu,h2⟩:=BW ha
 subst hu
 obtain ⟨A,c,rfl,h1,h3,h4,h5⟩:=Lx h2 hlt hn
 refine (ER A ws c w.heap.size w h4 h3 hl).mono fun r w' ⟨he,hww⟩=>?_
 subst hww
 refine ⟨_,he,?_,Below.refl _ _⟩
 show BE _ _ (EK false (AO ws)) _
 have hcan:=Cv hw
 have hle:(GI ws).length≤ws.length:=by rw [Ci];exact Dz _ _
 unfold EK
 rw [WN,←hcan]
 refine WO rfl (by omega) h1 fun hne=>?_
 obtain ⟨b,off,hA,hb,hc⟩:=h5 (fun h=>hne (by rw [h];rfl))
 refine ⟨b,off,hA,⟨rfl,.inl hb⟩,fun j x hj=>hc j x ?_⟩
 have:w32 (GI ws)=(w32 ws).take (Dr ws ws.length):=by unfold w32 GI;rw [List.map_take]
 rw [this,List.getElem?_take] at hj
 split at hj
 ·exact hj
 ·cases hj
theorem EE (x:Int) (d:Nat) (hn:Nf x d) (hl:(Ad x.natAbs).length≤100000):CV Tryz.prog G 69 [aDy false x d] [aB (decide (x<0)),.one (EK false x.natAbs),aI (d:Int)]:=fun w S vs hg hlt ha=>by
 obtain ⟨u,hu,h3⟩:=BW ha
 subst hu
 have hD:=GS h3 hlt hn
 obtain ⟨xs,rfl,h4⟩:=h3
 obtain ⟨a,l1,rfl,q0,h5⟩:=h4.uncons
 obtain ⟨b,l2,rfl,q1,h6⟩:=h5.uncons
 obtain ⟨c,l3,rfl,q2,h7⟩:=h6.uncons
 rw [h7.unnil] at hD ⊢
 refine (Es hD (Nat.le_refl _) hl).mono fun r w' ⟨nb,A,L,cc,e,he,hb⟩=>?_
 injection e with e
 have e2:=congrArg Array.toList e
 simp only [List.cons.injEq,and_true] at e2
 obtain ⟨rfl,rfl,rfl⟩:=e2
 refine ⟨_,he,⟨[_,_,_],rfl,.cons_ ?_ (.cons_ ?_ (.cons_ ?_ .nil_))⟩,hb⟩
 ·cases q0;exact BE.val rfl
 ·have h8:BE w (fun t b=>t=false∧S false b) (EK false x.natAbs) (.slice A L cc):=BE.free (fun b h=>⟨rfl,h⟩) q1 (.row fun d hd=>by obtain ⟨v,_,rfl⟩:=List.mem_map.1 hd;exact .val _)
  exact h8.mono (fun t b h=>⟨h.1,.inl h.2⟩) (fun t b h=>hb.block b (hlt _ _ h.2))
 ·exact BE.val rfl
theorem Ry (t t':Bool) (a b:Nat) (l1:(Ad a).length≤100000) (l2:(Ad b).length≤100000):CVF Tryz.prog G 57 [.one (EK t a),.one (EK t' b)] [aI (sgI ((a:Int) - (b:Int)))]:=fun w S vs hg hlt ha=>by
 obtain ⟨v,vs',rfl,h1,ha⟩:=ha.uncons
 obtain ⟨u,hu,h2⟩:=BW ha
 subst hu
 exact (HH (Ace h1 hlt) (Ace h2 hlt) l1 l2).mono fun r w' ⟨he,hb⟩=>⟨_,he,BE.val rfl,hb⟩
end
theorem Eo (t neg:Bool) (n d:Nat) (hl:(Ad n).length≤100000) (hd:d≤65536):CVF Tryz.prog Ax 71 [aB neg,.one (EK t n),aI (d:Int)] [aDy false (nf (sg neg n) d).1 (nf (sg neg n) d).2]:=fun w S vs hg hlt hv=>by
 obtain ⟨v,vs',rfl,q1,hv⟩:=hv.uncons
 obtain ⟨v2,vs',rfl,q2,hv⟩:=hv.uncons
 obtain ⟨u,hu,q3⟩:=BW hv
 subst hu
 cases q1
 cases q3
 exact (DX (neg:=neg) (Ace q2 hlt) (Nat.le_refl _) hl hd hg).mono fun r w' ⟨v,he,hd,hb⟩=>⟨v,he,GC hd,hb⟩
theorem Rz (t:Bool) (ws:List Nat) (n i:Nat) (hn:n=ws.length) (hi:i≤1000000) (hl:ws.length≤1000000):CVF Tryz.prog Ax 163 [.one (.row t 1 n (ws.map dW)),aI (i:Int)] [.one (dW (ws[i]?.getD 0))]:=fun w S vs hg hlt hv=>by
 obtain ⟨v,vs',rfl,q1,hv⟩:=hv.uncons
 obtain ⟨u,hu,q3⟩:=BW hv
 subst hu
 cases q3
 obtain ⟨A,c,rfl,h1,h3,h4,h5⟩:=Lx q1 hlt hn
 refine (Sg A ws c i w.heap.size w h4 hi hl).mono fun r w' ⟨he,hb⟩=>?_
 subst hb
 exact ⟨_,he,BE.val rfl,Below.refl _ _⟩
theorem Zb (x y c:Nat) (hx:x<4294967296) (hy:y<4294967296) (hc:c≤1):CVF Tryz.prog Ax 164 [.one (dW x),.one (dW y),.one (dW c)] [.one (dW ((x+y+c) % 4294967296)),.one (dW ((x+y+c) / 4294967296))]:=fun w S vs hg hlt hv=>by
 obtain ⟨v,vs',rfl,q1,hv⟩:=hv.uncons
 obtain ⟨v2,vs',rfl,q2,hv⟩:=hv.uncons
 obtain ⟨u,hu,q3⟩:=BW hv
 subst hu
 cases q1
 cases q2
 cases q3
 refine (Px x y c w hx hy hc).mono fun r w' ⟨he,hw⟩=>?_
 subst hw
 exact ⟨_,he,GR (BE.val rfl) (BE.val rfl),Below.refl _ _⟩
theorem IR (n:Nat):FB (EK false n):=.row fun d hd=>by obtain ⟨v,_,rfl⟩:=List.mem_map.1 hd;exact .val _
theorem Ar:TyS Tryz.prog 112 126 1:=⟨Tryz.underlying112,by kernel_rfl⟩
theorem Acf (a b:Nat) (l1:(Ad a).length≤100000) (l2:(Ad b).length≤100000):CV Tryz.prog Ax 230 [.one (EK false a),.one (EK false b)] [.one (EK false (a*b))]:=by
 refine cvz Tryz.func230 Tryz.ntmps230 ?_
 have hax:=AV a
 have hay:=AV b
 repeat' (with_reducible first|refine qq ?_|(refine Tx 0 ?_;refine Ja ?_)|(refine Tx 1 ?_;refine Jm ?_;refine jN ?_;refine Jm ?_;refine jN ?_;refine Jo xAd ?_;refine Jn (by first|exact Lv (n:=(Ad a).length+(Ad b).length) rfl rfl rfl (by omega) Ar DY (by omega) (by decide)|exact CR rfl rfl rfl Ar DY (by omega) (by decide)) ?_;refine Ja ?_)|(refine Tx 2 ?_;refine Jm ?_;refine jN ?_;refine Jm ?_))
 refine CF (F':=ofL [(0,vd (EK false a)),(1,vd (EK false b)),(5,vo 0 (((Ad a).length+(Ad b).length))),(17,vi ((Ad a).length)),(18,vi ((0:Nat)))]) (H':=[.row 126 1 ((Ad a).length+(Ad b).length) (cW (List.replicate ((Ad a).length+(Ad b).length) 0))]) (BM _ 1 ?_ ?_ ?_) ?_
 ·rfl
 ·exact mB rfl rfl
 ·exact ⟨GD,trivial⟩
 refine Bp (fun n Fr H=>∃ (i:Nat) (o:List Nat),i≤(Ad a).length∧n=(Ad a).length - i∧Hv (Ad a) (Ad b) i o∧Fr=ofL [(0,vd (EK false a)),(1,vd (EK false b)),(5,vo 0 (((Ad a).length+(Ad b).length))),(17,vi ((Ad a).length)),(18,vi ((i:Nat)))]∧H=[.row 126 1 ((Ad a).length+(Ad b).length) (cW o)]) (n0:=(Ad a).length) ⟨0,(List.replicate ((Ad a).length+(Ad b).length) 0),Nat.zero_le _,rfl,Hv.start _ _,rfl,rfl⟩ ?_
 rintro n Fr H ⟨i,o,hi,rfl,ho,rfl,rfl⟩
 by_cases hlt:i<(Ad a).length
 case pos =>
  obtain ⟨p,hp⟩:∃ p,(Ad a)[i]?=some p:=⟨_,List.getElem?_eq_getElem hlt⟩
  have hpk:=hax p (List.mem_of_getElem? hp)
  have hp2:=NI hp
  repeat' (with_reducible first|refine qq ?_|(refine Tx 3 ?_;refine Jo xLt ?_)|(refine Tx 4 ?_;refine Jm ?_;refine Ja ?_)|(refine Tx 5 ?_;refine Ja ?_)|(refine Tx 6 ?_;refine Jm ?_;refine jN ?_;refine Jm ?_))
  refine CF (F':=ofL [(0,vd (EK false a)),(1,vd (EK false b)),(5,vo 0 (((Ad a).length+(Ad b).length))),(6,vi i),(17,vi ((Ad a).length)),(18,vi ((i:Nat))),(7,vd (.val (.int .u64 ((0:Nat):Int)))),(22,vi ((Ad b).length)),(23,vi ((0:Nat)))]) (H':=[.row 126 1 ((Ad a).length+(Ad b).length) (cW o)]) (BM _ 1 ?_ ?_ ?_) ?_
  ·rfl
  ·exact mB rfl rfl
  ·exact ⟨GD,trivial⟩
  refine Bp (fun n Fr H=>∃ (k:Nat) (q:List Nat) (c:Nat),k≤(Ad b).length∧n=(Ad b).length - k∧Qm (Ad b) o i p k q c∧Fr=ofL [(0,vd (EK false a)),(1,vd (EK false b)),(5,vo 0 (((Ad a).length+(Ad b).length))),(6,vi i),(17,vi ((Ad a).length)),(18,vi ((i:Nat))),(7,vd (.val (.int .u64 ((c:Nat):Int)))),(22,vi ((Ad b).length)),(23,vi ((k:Nat)))]∧H=[.row 126 1 ((Ad a).length+(Ad b).length) (cW q)]) (n0:=(Ad b).length) ⟨0,o,0,Nat.zero_le _,rfl,ho.enter,rfl,rfl⟩ ?_
  rintro n Fr H ⟨k,q,c,hk,rfl,hq,rfl,rfl⟩
  by_cases hlt2:k<(Ad b).length
  case pos =>
   obtain ⟨r,hr⟩:∃ r,(Ad b)[k]?=some r:=⟨_,List.getElem?_eq_getElem hlt2⟩
   have hrk:=hay r (List.mem_of_getElem? hr)
   have hr2:=NI hr
   have hql:=hq.len
   have hol:=ho.len
   obtain ⟨u,hu⟩:∃ u,q[i+k]?=some u:=⟨_,List.getElem?_eq_getElem (by omega)⟩
   have hu2:=hq.ok u (List.mem_of_getElem? hu)
   obtain ⟨f1,f2⟩:=hq.fit hpk hrk hu
   have hst:=hq.step hpk hay hr hu
   have m1:IntKind.wrap .u64 (p:Int)=(p:Int):=Hu (by omega) (by omega)
   have m2:IntKind.wrap .u64 (r:Int)=(r:Int):=Hu (by omega) (by omega)
   have m3:IntKind.wrap .u64 ((p:Int)*(r:Int))=((p*r:Nat):Int):=by rw [←Int.natCast_mul];exact Hu (by omega) (by omega)
   have m4:IntKind.wrap .u64 (u:Int)=(u:Int):=Hu (by omega) (by omega)
   have m5:IntKind.wrap .u64 (((p*r:Nat):Int)+(u:Int))=((p*r+u:Nat):Int):=Hu (by omega) (by omega)
   have m6:IntKind.wrap .u64 (((p*r+u:Nat):Int)+(c:Int))=((c+(p*r+u):Nat):Int):=by rw [Hu (by omega) (by omega)];omega
   have m7:=Oy (c+(p*r+u))
   have tl:i+k<q.length:=by omega
   generalize hm:p*r+u=m at *
   repeat' (with_reducible first|refine qq ?_|(refine Tx 7 ?_;refine Jo xLt ?_)|(refine Tx 8 ?_;refine Jm ?_;refine Ja ?_)|(refine AZ (id:=9) AK (by kernel_rfl) ?_;refine Km ?_;refine Km ?_;refine Ko (by first|exact xIr Ar (hp2)|exact xIr Ar (hr2)|exact Eg (i:=i+k) rfl rfl rfl rfl (by omega) Ar (by omega) (by decide)) ?_;refine Ko (by first|exact Ql rfl rfl rfl hu AY|exact xLd AY) ?_;refine Ko (by first|exact Cp rfl Tryz.underlying126 Tryz.underlying159 rfl m1|exact CJ rfl Tryz.underlying126 Tryz.underlying159 rfl) ?_;refine Km ?_;refine Km ?_;refine Ko (by first|exact xIr Ar (hp2)|exact xIr Ar (hr2)|exact Eg (i:=i+k) rfl rfl rfl rfl (by omega) Ar (by omega) (by decide)) ?_;refine Ko (by first|exact Ql rfl rfl rfl hu AY|exact xLd AY) ?_;refine Ko (by first|exact Cp rfl Tryz.underlying126 Tryz.underlying159 rfl m2|exact CJ rfl Tryz.underlying126 Tryz.underlying159 rfl) ?_;refine Ko (by first|exact Aca rfl rfl rfl m3|exact Ff rfl rfl rfl (by omega)) ?_;refine Km ?_;refine Km ?_;refine Km ?_;refine Ko xAd ?_;refine Ko (by first|exact xIr Ar (hp2)|exact xIr Ar (hr2)|exact Eg (i:=i+k) rfl rfl rfl rfl (by omega) Ar (by omega) (by decide)) ?_;refine Ko (by first|exact Ql rfl rfl rfl hu AY|exact xLd AY) ?_;refine Ko (by first|exact Cp rfl Tryz.underlying126 Tryz.underlying159 rfl m4|exact CJ rfl Tryz.underlying126 Tryz.underlying159 rfl) ?_;refine Ko (by first|exact GT rfl rfl rfl m5|exact xAd) ?_;refine Km ?_;refine Ko (by first|exact GT rfl rfl rfl m6|exact xAd) ?_;refine Ka ?_;refine Ke ?_)|(refine Tx 10 ?_;refine Jm ?_;refine Jm ?_;refine Jm ?_;refine Jo xAd ?_;refine Jm ?_;refine Jo (by first|exact Cp rfl Tryz.underlying159 Tryz.underlying126 rfl m7|exact CJ rfl Tryz.underlying159 Tryz.underlying126 rfl) ?_;refine Jo (by first|exact xIr Ar (hp2)|exact xIr Ar (hr2)|exact Eg (i:=i+k) rfl rfl rfl rfl (by omega) Ar (by omega) (by decide)) ?_;refine Js (by first|exact IQ rfl rfl rfl rfl rfl AY tl rfl|exact xS1 AY|exact xSk AY) ?_)|(refine Tx 11 ?_;refine Jm ?_;refine Jo (by exact Tk rfl rfl rfl) ?_;refine Ja ?_)|(refine Tx 12 ?_;refine Jo xAd ?_;refine Jm ?_))
   refine ⟨_,_,BM _ 1 ?_ ?_ ?_,_,by omega,k+1,_,_,by omega,rfl,hst,rfl,rfl⟩
   ·rfl
   ·exact mB rfl rfl
   ·exact ⟨GD,trivial⟩
  obtain rfl:k=(Ad b).length:=by omega
  have hql:=hq.len
  have hol:=ho.len
  have hlv:=ho.leave hp hq
  have tl:i+(Ad b).length<q.length:=by omega
  have hck:=hq.car
  have m8:IntKind.wrap .u32 (c:Int)=(c:Int):=by rw [Oy,Nat.mod_eq_of_lt hck]
  repeat' (with_reducible first|refine qq ?_|(refine Tx 7 ?_;refine Jo xLt ?_)|(refine Tx 13 ?_;refine Jm ?_;refine Jm ?_;refine Jm ?_;refine jN ?_;refine Jo xAd ?_;refine Jm ?_;refine Jo (by first|exact Cp rfl Tryz.underlying159 Tryz.underlying126 rfl m8|exact CJ rfl Tryz.underlying159 Tryz.underlying126 rfl) ?_;refine Jo (by exact Eg (i:=i+(Ad b).length) rfl rfl rfl rfl (by omega) Ar (by omega) (by decide)) ?_;refine Js (by first|exact IQ rfl rfl rfl rfl rfl AY tl rfl|exact xS1 AY|exact xSk AY) ?_)|(refine Tx 14 ?_;refine Jo xAd ?_;refine Jm ?_))
  refine ⟨_,_,BM _ 1 ?_ ?_ ?_,_,by omega,i+1,_,by omega,rfl,hlv,rfl,rfl⟩
  ·rfl
  ·exact mB rfl rfl
  ·exact ⟨GD,trivial⟩
 obtain rfl:i=(Ad a).length:=by omega
 have hv:=ho.val
 rw [List.take_length,AE,AE] at hv
 have hol:=ho.len
 have TC:=Ly (G:=Ax) o ((Ad a).length+(Ad b).length) hol.symm ho.ok (by omega)
 rw [hv] at TC
 repeat' (with_reducible first|refine qq ?_|(refine Tx 3 ?_;refine Jo xLt ?_))
 refine CF (FU (ds:=o.map dW) 5 0 rfl (by rw [←Afm];rfl)) ?_
 repeat' (with_reducible first|refine qq ?_|(refine Tx 15 ?_;refine Jm ?_;refine Jo (xCl Tryz.func161 (TC)) ?_;refine Ja ?_))
 exact Ap rfl (.cons_ (.tmp (.one (Db rfl fun _=>IR _))) .nil_)
theorem Oz {a b:Nat} (ha:(Ad a).length≤40000) (hb:(Ad b).length≤40000):(Ad (a*b)).length≤100000:=by
 have h1:=BV (AV a)
 have h2:=BV (AV b)
 rw [AE] at h1 h2
 refine Nat.le_trans (Bb (k:=(Ad a).length+(Ad b).length) ?_) (by omega)
 rw [Nat.pow_add]
 exact Nat.mul_lt_mul'' h1 h2
theorem Ec (x:Int) (dx:Nat) (y:Int) (dy:Nat) (hnx:Nf x dx) (hny:Nf y dy) (lx:(Ad x.natAbs).length≤40000) (ly:(Ad y.natAbs).length≤40000) (hd:dx+dy≤65536):CV Tryz.prog Ax 157 [aDy false x dx,aDy false y dy] [aDy false (Hw x dx y dy).1 (Hw x dx y dy).2]:=by
 refine cvz Tryz.func157 Tryz.ntmps157 ?_
 have PX:=EE (G:=Ax) x dx hnx (Nat.le_trans lx (by decide))
 have PY:=EE (G:=Ax) y dy hny (Nat.le_trans ly (by decide))
 have NM:=Acf x.natAbs y.natAbs (Nat.le_trans lx (by decide)) (Nat.le_trans ly (by decide))
 have hlm:(Ad (x.natAbs*y.natAbs)).length≤100000:=Oz lx ly
 have RS:=Eo false (decide (x<0) != decide (y<0)) (x.natAbs*y.natAbs) (dx+dy) hlm hd
 rw [Acb] at RS
 have hdx:=hnx.1
 have hdy:=hny.1
 repeat' (with_reducible first|refine qq ?_|(refine Tx 0 ?_;refine Jn xBo ?_;refine Jn xBo ?_;refine Jn (xAl Aj) ?_)|(refine Tx 1 ?_;refine jA ?_;refine Jo (by first|exact xCl Tryz.func69 (PX)|exact xCl Tryz.func69 (PY)) ?_;refine Jo xMt ?_;refine Jo xEx ?_;refine Jo xEx ?_;refine Jo xEx ?_;refine Ja ?_;refine Ja ?_;refine Ja ?_)|(refine Tx 2 ?_;refine jA ?_;refine Jo (by first|exact xCl Tryz.func69 (PX)|exact xCl Tryz.func69 (PY)) ?_;refine Jo xMt ?_;refine Jo xEx ?_;refine Jo xEx ?_;refine Jo xEx ?_;refine Ja ?_;refine Ja ?_;refine Ja ?_)|(refine Tx 3 ?_;refine Jm ?_;refine Jm ?_;refine Jo (by first|exact Ru rfl Tryz.underlying4 rfl rfl|exact xNe) ?_;refine Jm ?_;refine Jm ?_;refine Jo (xCl Tryz.func230 (NM)) ?_;refine Jm ?_;refine Jm ?_;refine Jo xAd ?_;refine Jo (xCl Tryz.func71 (RS.cv)) ?_;refine Js (xSk Aa) ?_))
 exact Ap rfl (.cons_ (rvW Aa rfl) .nil_)
theorem RB {o:List Nat} {k u:Nat} (h:o[k]?=some 0):AO (o.set k u)=AO o+u*4294967296 ^ k:=by
 have:=Lw (u:=u) h
 omega
structure OA (a b:List Nat) (L k:Nat) (o:List Nat) (c:Nat):Prop where
 len:o.length=L
 ok:Az o
 car:c≤1
 val:AO o+c*4294967296 ^ k=AO (a.take k)+AO (b.take k)
 zero:∀ j,k≤j→j<L→o[j]?=some 0
theorem Iu {a:List Nat} (h:Az a) (k:Nat):a[k]?.getD 0<4294967296:=by
 cases hx:a[k]? with
 | none=>decide
 | some x=>exact h x (List.mem_of_getElem? hx)
theorem Lz (L:Nat):∀ j,0≤j→j<L→(List.replicate L 0)[j]?=some 0:=fun j _ h=>by simp [h]
theorem OB (L:Nat):Az (List.replicate L 0):=fun x hx=>by rw [(List.mem_replicate.1 hx).2];decide
theorem OA.start (a b:List Nat) (L:Nat):OA a b L 0 (List.replicate L 0) 0:=⟨by simp,OB L,by decide,by rw [En];simp [AO],Lz L⟩
theorem OA.step {a b:List Nat} {L k:Nat} {o:List Nat} {c:Nat} (h:OA a b L k o c) (ha:Az a) (hb:Az b) (hk:k<L):OA a b L (k+1) (o.set k ((a[k]?.getD 0+b[k]?.getD 0+c) % 4294967296)) ((a[k]?.getD 0+b[k]?.getD 0+c) / 4294967296):=by
 have x1:=Iu ha k
 have y1:=Iu hb k
 have hc:=h.car
 refine ⟨by rw [List.length_set];exact h.len,EY h.ok (by omega),by omega,?_,fun j h1 h2=>by rw [List.getElem?_set,if_neg (by omega)];exact h.zero j (by omega) h2⟩
 rw [RB (h.zero k (Nat.le_refl _) hk),Bn,Bn,Nat.pow_succ]
 have hv:=h.val
 generalize a[k]?.getD 0=x at *
 generalize b[k]?.getD 0=y at *
 have hd:=Nat.div_add_mod (x+y+c) 4294967296
 generalize (x+y+c) / 4294967296=q at *
 generalize (x+y+c) % 4294967296=r at *
 generalize 4294967296 ^ k=P at *
 have e:q*(P*4294967296)+r*P=(x+y+c)*P:=by rw [←hd,Nat.add_mul,Nat.mul_comm P 4294967296,←Nat.mul_assoc,Nat.mul_comm q 4294967296]
 rw [Nat.add_mul,Nat.add_mul] at e
 rw [Nat.mul_comm P x,Nat.mul_comm P y]
 omega
theorem OA.done {a b:List Nat} {o:List Nat} {c:Nat} (h:OA a b (max a.length b.length+1) (max a.length b.length+1) o c) (ha:Az a) (hb:Az b):AO o=AO a+AO b:=by
 have hv:=h.val
 rw [List.take_of_length_le (by omega),List.take_of_length_le (by omega)] at hv
 have h1:=BV ha
 have h2:=BV hb
 have p1:4294967296 ^ a.length≤4294967296 ^ (max a.length b.length):=Nat.pow_le_pow_right (by decide) (by omega)
 have p2:4294967296 ^ b.length≤4294967296 ^ (max a.length b.length):=Nat.pow_le_pow_right (by decide) (by omega)
 have hc:=h.car
 rw [Nat.pow_succ] at hv
 rcases (show c=0∨c=1 by omega) with rfl|rfl <;> omega
structure OD (a b:List Nat) (k:Nat) (o:List Nat) (c:Nat):Prop where
 len:o.length=a.length
 ok:Az o
 car:c≤1
 val:AO o+AO (b.take k)=AO (a.take k)+c*4294967296 ^ k
 zero:∀ j,k≤j→j<a.length→o[j]?=some 0
theorem OD.start (a b:List Nat):OD a b 0 (List.replicate a.length 0) 0:=⟨by simp,OB _,by decide,by rw [En];simp [AO],Lz _⟩
def UT (x y c:Nat):Nat:=if x<y+c then 1 else 0
theorem Acg (x y c:Nat):UT x y c≤1:=by unfold UT;split <;> omega
theorem OD.step {a b:List Nat} {k:Nat} {o:List Nat} {c x:Nat} (h:OD a b k o c) (ha:Az a) (hb:Az b) (hx:a[k]?=some x):OD a b (k+1) (o.set k ((x+4294967296 - b[k]?.getD 0 - c) % 4294967296)) (UT x (b[k]?.getD 0) c):=by
 have hk:=(List.getElem?_eq_some_iff.1 hx).1
 have x1:=ha x (List.mem_of_getElem? hx)
 have y1:=Iu hb k
 have hc:=h.car
 refine ⟨by rw [List.length_set];exact h.len,EY h.ok (by omega),Acg _ _ _,?_,fun j h1 h2=>by rw [List.getElem?_set,if_neg (by omega)];exact h.zero j (by omega) h2⟩
 rw [RB (h.zero k (Nat.le_refl _) hk),Bn,Bn,Nat.pow_succ,hx,Option.getD_some]
 have hv:=h.val
 generalize b[k]?.getD 0=y at *
 have hd:(x+4294967296 - y - c) % 4294967296+y+c=x+UT x y c*4294967296:=by unfold UT;split <;> omega
 generalize UT x y c=q at *
 generalize (x+4294967296 - y - c) % 4294967296=r at *
 generalize 4294967296 ^ k=P at *
 have e:(r+y+c)*P=(x+q*4294967296)*P:=by rw [hd]
 rw [Nat.add_mul,Nat.add_mul,Nat.add_mul,Nat.mul_assoc q 4294967296 P,Nat.mul_comm 4294967296 P] at e
 rw [Nat.mul_comm P x,Nat.mul_comm P y]
 omega
theorem OD.done {a b:List Nat} {o:List Nat} {c:Nat} (h:OD a b a.length o c) (ha:Az a) (hle:AO b≤AO a) (hl:b.length≤a.length):AO o=AO a - AO b:=by
 have hv:=h.val
 rw [List.take_length,List.take_of_length_le hl] at hv
 have h1:=BV h.ok
 rw [h.len] at h1
 have hc:=h.car
 rcases (show c=0∨c=1 by omega) with rfl|rfl <;> omega
structure RD (a:List Nat) (q r k:Nat) (o:List Nat):Prop where
 len:o.length=a.length+q+1
 ok:Az o
 val:AO o=AO (a.take k)*(2 ^ r*4294967296 ^ q)
 top:∃ cy,o[q+k]?=some cy∧cy<2 ^ r
 zero:∀ j,q+k<j→j<a.length+q+1→o[j]?=some 0
theorem RD.start (a:List Nat) (q r:Nat):RD a q r 0 (List.replicate (a.length+q+1) 0):=⟨by simp,OB _,by rw [En];simp [AO],⟨0,by rw [Nat.add_zero];exact Lz _ q (Nat.zero_le _) (by omega),Nat.two_pow_pos r⟩,fun j _ h=>Lz _ j (Nat.zero_le _) h⟩
theorem RD.step {a:List Nat} {q r k:Nat} {o:List Nat} {x cy:Nat} (h:RD a q r k o) (ha:Az a) (hr:r<32) (hx:a[k]?=some x) (hcy:o[q+k]?=some cy) (hlt:cy<2 ^ r) (hfit:cy+x*2 ^ r % 4294967296<4294967296) :
  RD a q r (k+1) ((o.set (q+k) (cy+x*2 ^ r % 4294967296)).set (q+k+1) (x*2 ^ r / 4294967296)):=by
 have hk:=(List.getElem?_eq_some_iff.1 hx).1
 have x1:=ha x (List.mem_of_getElem? hx)
 have hhi:x*2 ^ r / 4294967296<2 ^ r:=by
  rw [Nat.div_lt_iff_lt_mul (by decide),Nat.mul_comm (2 ^ r)]
  exact Nat.mul_lt_mul_of_pos_right x1 (Nat.two_pow_pos r)
 have h32:2 ^ r≤4294967296:=by rw [show (4294967296:Nat)=2 ^ 32 from rfl];exact Nat.pow_le_pow_right (by decide) (by omega)
 refine ⟨by rw [List.length_set,List.length_set];exact h.len,EY (EY h.ok hfit) (by omega),?_,⟨_,by rw [show q+(k+1)=q+k+1 by omega,List.getElem?_set,if_pos rfl,if_pos (by rw [List.length_set,h.len];omega)],hhi⟩,fun j h1 h2=>by rw [List.getElem?_set,if_neg (by omega),List.getElem?_set,if_neg (by omega)];exact h.zero j (by omega) h2⟩
 have e1:=Lw (u:=cy+x*2 ^ r % 4294967296) hcy
 have e2:AO ((o.set (q+k) (cy+x*2 ^ r % 4294967296)).set (q+k+1) (x*2 ^ r / 4294967296))=_:=RB (by rw [List.getElem?_set,if_neg (by omega)];exact h.zero _ (by omega) (by omega))
 rw [e2,Bn,hx,Option.getD_some,Nat.add_mul,←h.val,Nat.pow_succ]
 have hd:=Nat.div_add_mod (x*2 ^ r) 4294967296
 have e3:4294967296 ^ k*x*(2 ^ r*4294967296 ^ q)=(x*2 ^ r)*4294967296 ^ (q+k):=by rw [Nat.pow_add];simp only [Nat.mul_assoc,Nat.mul_comm,Nat.mul_left_comm]
 rw [e3]
 generalize x*2 ^ r=t at *
 generalize t / 4294967296=u at *
 generalize t % 4294967296=l at *
 generalize 4294967296 ^ (q+k)=P at *
 have e4:u*(P*4294967296)+l*P=t*P:=by rw [←hd,Nat.add_mul,Nat.mul_comm P 4294967296,←Nat.mul_assoc,Nat.mul_comm u 4294967296]
 rw [Nat.add_mul] at e1
 omega
theorem Ach (v:BitVec 32):v.toNat / 2147483648=if v.msb=true then 1 else 0:=by
 have h:=BitVec.msb_eq_decide v
 have hl:=v.isLt
 rw [h]
 by_cases hc:2147483648≤v.toNat
 ·rw [if_pos (decide_eq_true hc)];omega
 ·rw [if_neg (by rw [decide_eq_true_eq];exact hc)];omega
theorem WP (X Y D:BitVec 32) (x y c:Nat) (hx:X.toNat=x) (hy:Y.toNat=y) (hd:D.toNat=(x+4294967296 - y - c) % 4294967296) (hc:c≤1):((~~~X &&& Y) ||| (~~~(X ^^^ Y) &&& D)).toNat / 2147483648=UT x y c:=by
 rw [Ach]
 have hX:=BitVec.msb_eq_decide X
 have hY:=BitVec.msb_eq_decide Y
 have hD:=BitVec.msb_eq_decide D
 rw [hx] at hX
 rw [hy] at hY
 rw [hd] at hD
 have lx:=X.isLt
 have ly:=Y.isLt
 rw [hx] at lx
 rw [hy] at ly
 simp only [BitVec.msb_or,BitVec.msb_and,BitVec.msb_not,BitVec.msb_xor,hX,hY,hD]
 unfold UT
 by_cases h1:2 ^ 31≤x <;> by_cases h2:2 ^ 31≤y <;> by_cases h3:2 ^ 31≤(x+4294967296 - y - c) % 4294967296
 all_goals
  simp only [Nat.reduceSub,h1,h2,h3,decide_true,decide_false]
  by_cases h4:x<y+c
  ·simp [h4]
   try omega
  ·simp [h4]
   try omega
def nB (v:BitVec 32):Int:=(v.toNat:Int)
theorem Iw (v:BitVec 32):BitVec.ofInt 32 (nB v)=v:=by
 unfold nB
 rw [BitVec.ofInt_natCast]
 exact BitVec.eq_of_toNat_eq (by rw [BitVec.toNat_ofNat];exact Nat.mod_eq_of_lt v.isLt)
theorem RE (v:BitVec 32):IntKind.wrap .u32 ((v.toNat:Nat):Int)=nB v:=by
 have:=v.isLt
 rw [IntKind.wrap_u32]
 unfold nB
 omega
theorem Aal (u v:BitVec 32):bits .and .u32 (nB u) (nB v)=nB (u &&& v):=by
 show IntKind.wrap .u32 (((BitVec.ofInt 32 (nB u) &&& BitVec.ofInt 32 (nB v)).toNat:Nat):Int)=_
 rw [Iw,Iw,RE]
theorem Agi (u v:BitVec 32):bits .or .u32 (nB u) (nB v)=nB (u ||| v):=by
 show IntKind.wrap .u32 (((BitVec.ofInt 32 (nB u) ||| BitVec.ofInt 32 (nB v)).toNat:Nat):Int)=_
 rw [Iw,Iw,RE]
theorem Aam (u v:BitVec 32):bits .xor .u32 (nB u) (nB v)=nB (u ^^^ v):=by
 show IntKind.wrap .u32 (((BitVec.ofInt 32 (nB u) ^^^ BitVec.ofInt 32 (nB v)).toNat:Nat):Int)=_
 rw [Iw,Iw,RE]
theorem Aan (v:BitVec 32):bits .xor .u32 IntKind.u32.max (nB v)=nB (~~~v):=by
 rw [show IntKind.u32.max=nB (BitVec.allOnes 32) from rfl,Aam,BitVec.allOnes_xor]
theorem Aci {x:Nat} (h:x<4294967296):((x:Nat):Int)=nB (BitVec.ofNat 32 x):=by
 unfold nB
 rw [BitVec.toNat_ofNat,Nat.mod_eq_of_lt h]
theorem WQ (x y c:Nat) (w:World) (hx:x<4294967296) (hy:y<4294967296) (hc:c≤1) :
  Calls Tryz.prog 254 #[.int .u32 (x:Int),.int .u32 (y:Int),.int .u32 (c:Int)] w fun e w'=>e=.returned (.tuple #[.int .u32 (((x+4294967296 - y - c) % 4294967296:Nat):Int),.int .u32 ((UT x y c:Nat):Int)])∧w=w':=by
 go_enter Tryz.func254,Tryz.ntmps254
 go_wp2_with fail
 refine bodyPost_ret (v:=.tuple #[.int .u32 (((x+4294967296 - y - c) % 4294967296:Nat):Int),.int .u32 ((UT x y c:Nat):Int)]) ?_ rfl ⟨rfl,rfl⟩
 simp [results,Tryz.results254,go_sem]
 refine ⟨by omega,?_⟩
 have hd:((x:Int) - (y:Int) - (c:Int)) % 4294967296=(((x+4294967296 - y - c) % 4294967296:Nat):Int):=by omega
 rw [hd,Aci hx,Aci hy,Aci (x:=(x+4294967296 - y - c) % 4294967296) (by omega),Aan,Aal,Aam,Aan,Aal,Agi]
 have key:=WP (BitVec.ofNat 32 x) (BitVec.ofNat 32 y) (BitVec.ofNat 32 ((x+4294967296 - y - c) % 4294967296)) x y c (by rw [BitVec.toNat_ofNat,Nat.mod_eq_of_lt hx]) (by rw [BitVec.toNat_ofNat,Nat.mod_eq_of_lt hy]) (by rw [BitVec.toNat_ofNat];omega) hc
 rw [←key]
 rfl
theorem Zc (x y c:Nat) (hx:x<4294967296) (hy:y<4294967296) (hc:c≤1):CVF Tryz.prog Ax 254 [.one (dW x),.one (dW y),.one (dW c)] [.one (dW ((x+4294967296 - y - c) % 4294967296)),.one (dW (UT x y c))]:=fun w S vs hg hlt hv=>by
 obtain ⟨v,vs',rfl,q1,hv⟩:=hv.uncons
 obtain ⟨v2,vs',rfl,q2,hv⟩:=hv.uncons
 obtain ⟨u,hu,q3⟩:=BW hv
 subst hu
 cases q1
 cases q2
 cases q3
 refine (WQ x y c w hx hy hc).mono fun r w' ⟨he,hw⟩=>?_
 subst hw
 exact ⟨_,he,GR (BE.val rfl) (BE.val rfl),Below.refl _ _⟩
section
variable {P:Program} {G:World→Prop} {o:Oper} {F:Frm} {H:List Ob}
theorem Acj {t t':TypeId} {x y:Operand} {p q r:Int} (ho:o.op=.binOp .or t x y t') (hx:F.ev x=.one (.d (.val (.int .u32 p)))) (hy:F.ev y=.one (.d (.val (.int .u32 q)))) (hr:bits .or .u32 p q=r):Bs P G o F H (.one (.d (.val (.int .u32 r)))) []:=by
 subst hr
 refine CZ ho hx hy (fun w=>?_) rfl
 simp [eqGuard,binOp,intBits_or]
theorem Ack {t t':TypeId} {x y:Operand} {k k':IntKind} {p r:Int} {n:Nat} (ho:o.op=.binOp .shl t x y t') (hx:F.ev x=.one (.d (.val (.int k p)))) (hy:F.ev y=.one (.d (.val (.int k' (n:Int))))) (hn:n≤k.bits) (hr:k.wrap (p*2 ^ n)=r):Bs P G o F H (.one (.d (.val (.int k r)))) []:=by
 subst hr
 refine CZ ho hx hy (fun w=>?_) rfl
 have h1:¬ ((n:Int)<0):=by omega
 simp [eqGuard,binOp,Op.shift,h1,Nat.min_eq_left hn]
theorem OE {t t':TypeId} {x y:Operand} {k:IntKind} {p q r:Int} (ho:o.op=.binOp .quo t x y t') (hx:F.ev x=.one (.d (.val (.int k p)))) (hy:F.ev y=.one (.d (.val (.int k q)))) (h0:q≠0) (hr:k.wrap (p.tdiv q)=r):Bs P G o F H (.one (.d (.val (.int k r)))) []:=hr ▸ PB ho hx hy h0
theorem Fm {t t':TypeId} {x y:Operand} {k:IntKind} {p q r:Int} (ho:o.op=.binOp .rem t x y t') (hx:F.ev x=.one (.d (.val (.int k p)))) (hy:F.ev y=.one (.d (.val (.int k q)))) (h0:q≠0) (hr:p.tmod q=r):Bs P G o F H (.one (.d (.val (.int k r)))) []:=hr ▸ Gz ho hx hy h0
end
theorem Acl (a b:Nat) (l1:(Ad a).length≤200000) (l2:(Ad b).length≤200000):CV Tryz.prog Ax 73 [.one (EK false a),.one (EK false b)] [.one (EK false (a+b))]:=by
 refine cvz Tryz.func73 Tryz.ntmps73 ?_
 have ha:=AV a
 have hb:=AV b
 repeat' (with_reducible first|refine qq ?_|(refine Tx 0 ?_;refine Ja ?_)|(refine Tx 1 ?_;refine Jm ?_;refine jN ?_;refine Jm ?_;refine jN ?_;refine Jo (by exact FI rfl rfl rfl) ?_;refine Jo xAd ?_;refine Jn (by first|exact Lv (n:=(max (Ad a).length (Ad b).length+1)) rfl rfl rfl (by omega) Ar DY (by omega) (by decide)|exact CR rfl rfl rfl Ar DY (by omega) (by decide)) ?_;refine Ja ?_)|(refine Tx 2 ?_;refine Ja ?_)|(refine Tx 3 ?_;refine Jm ?_;refine jN ?_;refine Jm ?_))
 refine CF (F':=ofL [(0,vd (EK false a)),(1,vd (EK false b)),(5,vo 0 ((max (Ad a).length (Ad b).length+1))),(6,vd (dW 0)),(16,vi ((max (Ad a).length (Ad b).length+1))),(17,vi ((0:Nat)))]) (H':=[.row 126 1 (max (Ad a).length (Ad b).length+1) (cW (List.replicate (max (Ad a).length (Ad b).length+1) 0))]) (BM _ 1 ?_ ?_ ?_) ?_
 ·rfl
 ·exact mB rfl rfl
 ·exact ⟨GD,trivial⟩
 refine Bp (fun n Fr H=>∃ (k:Nat) (o:List Nat) (c:Nat),k≤(max (Ad a).length (Ad b).length+1)∧n=(max (Ad a).length (Ad b).length+1) - k∧OA (Ad a) (Ad b) (max (Ad a).length (Ad b).length+1) k o c∧Fr=ofL [(0,vd (EK false a)),(1,vd (EK false b)),(5,vo 0 ((max (Ad a).length (Ad b).length+1))),(6,vd (dW c)),(16,vi ((max (Ad a).length (Ad b).length+1))),(17,vi ((k:Nat)))]∧H=[.row 126 1 (max (Ad a).length (Ad b).length+1) (cW o)]) (n0:=(max (Ad a).length (Ad b).length+1)) ⟨0,(List.replicate (max (Ad a).length (Ad b).length+1) 0),0,Nat.zero_le _,rfl,OA.start _ _ _,rfl,rfl⟩ ?_
 rintro n Fr H ⟨k,o,c,hk,rfl,ho,rfl,rfl⟩
 by_cases hlt:k<(max (Ad a).length (Ad b).length+1)
 case pos =>
  have hst:=ho.step ha hb hlt
  have hol:=ho.len
  have A1:=Rz false (Ad a) (Ad a).length k rfl (by omega) (by omega)
  have A2:=Rz false (Ad b) (Ad b).length k rfl (by omega) (by omega)
  rw [←WN] at A1 A2
  have AD:=Zb ((Ad a)[k]?.getD 0) ((Ad b)[k]?.getD 0) c (Iu ha k) (Iu hb k) ho.car
  have tl:k<o.length:=by omega
  generalize (Ad a)[k]?.getD 0=x at *
  generalize (Ad b)[k]?.getD 0=y at *
  generalize (x+y+c) % 4294967296=r at *
  generalize (x+y+c) / 4294967296=q at *
  repeat' (with_reducible first|refine qq ?_|(refine Tx 4 ?_;refine Jo xLt ?_)|(refine Tx 5 ?_;refine Jm ?_;refine Ja ?_)|(refine Tx 6 ?_;refine Jm ?_;refine Jm ?_;refine Jm ?_;refine Jm ?_;refine Jo (by first|exact xCl Tryz.func163 (A1.cv)|exact xCl Tryz.func163 (A2.cv)) ?_;refine Jm ?_;refine Jm ?_;refine Jo (by first|exact xCl Tryz.func163 (A1.cv)|exact xCl Tryz.func163 (A2.cv)) ?_;refine Jm ?_;refine Jo (xCl Tryz.func164 (AD.cv)) ?_;refine Jo xMt ?_;refine Jo xEx ?_;refine Jo xEx ?_;refine Jo (xIo (i:=k) Ar) ?_;refine Js (by first|exact IQ rfl rfl rfl rfl rfl AY tl rfl|exact xS1 AY|exact xSk AY) ?_;refine Ja ?_)|(refine Tx 7 ?_;refine Jo xAd ?_;refine Jm ?_))
  refine ⟨_,_,BM _ 1 ?_ ?_ ?_,_,by omega,k+1,_,_,by omega,rfl,hst,rfl,rfl⟩
  ·rfl
  ·exact mB rfl rfl
  ·exact ⟨GD,trivial⟩
 obtain rfl:k=(max (Ad a).length (Ad b).length+1):=by omega
 have hv:=ho.done ha hb
 rw [AE,AE] at hv
 have hol:=ho.len
 have TC:=Ly (G:=Ax) o (max (Ad a).length (Ad b).length+1) hol.symm ho.ok (by omega)
 rw [hv] at TC
 repeat' (with_reducible first|refine qq ?_|(refine Tx 4 ?_;refine Jo xLt ?_))
 refine CF (FU (ds:=o.map dW) 5 0 rfl (by rw [←Afm];rfl)) ?_
 repeat' (with_reducible first|refine qq ?_|(refine Tx 8 ?_;refine Jm ?_;refine Jo (xCl Tryz.func161 (TC)) ?_;refine Ja ?_))
 exact Ap rfl (.cons_ (.tmp (.one (Db rfl fun _=>IR _))) .nil_)
theorem WR (a b:Nat) (hle:b≤a) (l1:(Ad a).length≤200000):CV Tryz.prog Ax 229 [.one (EK false a),.one (EK false b)] [.one (EK false (a - b))]:=by
 refine cvz Tryz.func229 Tryz.ntmps229 ?_
 have ha:=AV a
 have hb:=AV b
 have hlb:(Ad b).length≤(Ad a).length:=AX hle
 repeat' (with_reducible first|refine qq ?_|(refine Tx 0 ?_;refine Ja ?_)|(refine Tx 1 ?_;refine Jm ?_;refine jN ?_;refine Jn (by first|exact Lv (n:=(Ad a).length) rfl rfl rfl rfl Ar DY (by omega) (by decide)|exact CR rfl rfl rfl Ar DY (by omega) (by decide)) ?_;refine Ja ?_)|(refine Tx 2 ?_;refine Ja ?_)|(refine Tx 3 ?_;refine Jm ?_;refine jN ?_;refine Jm ?_))
 refine CF (F':=ofL [(0,vd (EK false a)),(1,vd (EK false b)),(5,vo 0 ((Ad a).length)),(6,vd (dW 0)),(12,vi ((Ad a).length)),(13,vi ((0:Nat)))]) (H':=[.row 126 1 (Ad a).length (cW (List.replicate (Ad a).length 0))]) (BM _ 1 ?_ ?_ ?_) ?_
 ·rfl
 ·exact mB rfl rfl
 ·exact ⟨GD,trivial⟩
 refine Bp (fun n Fr H=>∃ (k:Nat) (o:List Nat) (c:Nat),k≤(Ad a).length∧n=(Ad a).length - k∧OD (Ad a) (Ad b) k o c∧Fr=ofL [(0,vd (EK false a)),(1,vd (EK false b)),(5,vo 0 ((Ad a).length)),(6,vd (dW c)),(12,vi ((Ad a).length)),(13,vi ((k:Nat)))]∧H=[.row 126 1 (Ad a).length (cW o)]) (n0:=(Ad a).length) ⟨0,(List.replicate (Ad a).length 0),0,Nat.zero_le _,rfl,OD.start _ _,rfl,rfl⟩ ?_
 rintro n Fr H ⟨k,o,c,hk,rfl,ho,rfl,rfl⟩
 by_cases hlt:k<(Ad a).length
 case pos =>
  obtain ⟨x,hx⟩:∃ x,(Ad a)[k]?=some x:=⟨_,List.getElem?_eq_getElem hlt⟩
  have hx1:=ha x (List.mem_of_getElem? hx)
  have hx2:=NI hx
  have hst:=ho.step ha hb hx
  have hol:=ho.len
  have A2:=Rz false (Ad b) (Ad b).length k rfl (by omega) (by omega)
  rw [←WN] at A2
  have SB:=Zc x ((Ad b)[k]?.getD 0) c hx1 (Iu hb k) ho.car
  have tl:k<o.length:=by omega
  generalize (Ad b)[k]?.getD 0=y at *
  generalize (x+4294967296 - y - c) % 4294967296=r at *
  generalize UT x y c=q at *
  repeat' (with_reducible first|refine qq ?_|(refine Tx 4 ?_;refine Jo xLt ?_)|(refine Tx 5 ?_;refine Jm ?_;refine Ja ?_)|(refine Oi (id:=6) 15 [(15,13)] AK (by kernel_rfl) ?_;dsimp only [List.take,List.drop];refine Km ?_;refine Km ?_;refine Km ?_;refine Km ?_;refine Ko (by first|exact xIr Ar (hx2)|exact xIo (i:=k) Ar) ?_;refine kD ?_;refine Km ?_;refine Km ?_;refine Ko (xCl Tryz.func163 (A2.cv)) ?_;refine Km ?_;refine Ko (xCl Tryz.func254 (SB.cv)) ?_;refine Ko xMt ?_;refine Ko xEx ?_;refine Ko xEx ?_;refine Ko (by first|exact xIr Ar (hx2)|exact xIo (i:=k) Ar) ?_;refine Ke ?_;refine Js (by first|exact IQ rfl rfl rfl rfl rfl AY tl rfl|exact xS1 AY|exact xSk AY) ?_;refine Ja ?_)|(refine Tx 7 ?_;refine Jo xAd ?_;refine Jm ?_))
  refine ⟨_,_,BM _ 1 ?_ ?_ ?_,_,by omega,k+1,_,_,by omega,rfl,hst,rfl,rfl⟩
  ·rfl
  ·exact mB rfl rfl
  ·exact ⟨GD,trivial⟩
 obtain rfl:k=(Ad a).length:=by omega
 have hv:=ho.done ha (by rw [AE,AE];exact hle) hlb
 rw [AE,AE] at hv
 have hol:=ho.len
 have TC:=Ly (G:=Ax) o (Ad a).length hol.symm ho.ok (by omega)
 rw [hv] at TC
 repeat' (with_reducible first|refine qq ?_|(refine Tx 4 ?_;refine Jo xLt ?_))
 refine CF (FU (ds:=o.map dW) 5 0 rfl (by rw [←Afm];rfl)) ?_
 repeat' (with_reducible first|refine qq ?_|(refine Tx 8 ?_;refine Jm ?_;refine Jo (xCl Tryz.func161 (TC)) ?_;refine Ja ?_))
 exact Ap rfl (.cons_ (.tmp (.one (Db rfl fun _=>IR _))) .nil_)
theorem Tl (a n:Nat) (l1:(Ad a).length≤200000) (ln:n≤1000000):CV Tryz.prog Ax 70 [.one (EK false a),aI (n:Int)] [.one (EK false (a*2 ^ n))]:=by
 refine cvz Tryz.func70 Tryz.ntmps70 ?_
 have ha:=AV a
 by_cases h0:n=0
 case pos =>
  subst h0
  rw [Nat.pow_zero,Nat.mul_one]
  repeat' (with_reducible first|refine qq ?_|(refine Tx 0 ?_;refine Ja ?_)|(refine Tx 1 ?_;refine Jm ?_;refine Jo xEq ?_;refine Jm ?_;(first|iterate 3 refine Jd ?_|(refine Jy xM1 ?_;refine Jy (xLn Ar) ?_;refine Jy xEq ?_));refine Jo xPk ?_)|(refine Tx 2 ?_;refine Jm ?_;refine Ja ?_))
  exact Ap rfl (.cons_ (.tmp (.one (Db rfl fun _=>IR _))) .nil_)
 by_cases h1:(Ad a).length=0
 case pos =>
  have ha0:a=0:=Classical.byContradiction fun h=>by have:=Co h;omega
  subst ha0
  rw [Nat.zero_mul]
  have h1i:((Ad 0).length:Int)=0:=by omega
  repeat' (with_reducible first|refine qq ?_|(refine Tx 0 ?_;refine Ja ?_)|(refine Tx 1 ?_;refine Jm ?_;refine Jo xEq ?_;refine Jm ?_;(first|iterate 3 refine Jd ?_|(refine Jy xM1 ?_;refine Jy (xLn Ar) ?_;refine Jy xEq ?_));refine Jo xPk ?_)|(refine Tx 2 ?_;refine Jm ?_;refine Ja ?_))
  exact Ap rfl (.cons_ (.tmp (.one (Db rfl fun _=>IR _))) .nil_)
 obtain ⟨q,r,hn,hr⟩:∃ q r,n=32*q+r∧r<32:=⟨n / 32,n % 32,by omega,by omega⟩
 have hq:IntKind.wrap .i64 ((n:Int).tdiv 32)=(q:Int):=by rw [Int.tdiv_eq_ediv_of_nonneg (by omega)];rw [show (n:Int) / 32=(q:Int) by omega];rw [IntKind.wrap_i64];omega
 have hm:(n:Int).tmod 32=(r:Int):=by rw [Int.tmod_eq_emod_of_nonneg (by omega)];omega
 have hmw:IntKind.wrap .u64 (r:Int)=(r:Int):=Hu (by omega) (by omega)
 repeat' (with_reducible first|refine qq ?_|(refine Tx 0 ?_;refine Ja ?_)|(refine Tx 1 ?_;refine Jm ?_;refine Jo xEq ?_;refine Jm ?_;(first|iterate 3 refine Jd ?_|(refine Jy xM1 ?_;refine Jy (xLn Ar) ?_;refine Jy xEq ?_));refine Jo xPk ?_)|(refine Tx 3 ?_;refine Jm ?_;refine Jo (by first|exact OE rfl rfl rfl (by decide) hq|exact PB rfl rfl rfl (by omega)) ?_;refine Jm ?_;refine Jo (by first|exact Fm rfl rfl rfl (by decide) hm|exact Gz rfl rfl rfl (by omega)) ?_;refine Jo (by first|exact Cp rfl Tryz.underlying3 Tryz.underlying160 rfl hmw|exact CJ rfl Tryz.underlying3 Tryz.underlying160 rfl) ?_;refine Ja ?_;refine Ja ?_)|(refine Tx 4 ?_;refine Jm ?_;refine jN ?_;refine Jm ?_;refine Jo xAd ?_;refine Jo xAd ?_;refine Jn (by first|exact Lv (n:=((Ad a).length+q+1)) rfl rfl rfl (by omega) Ar DY (by omega) (by decide)|exact CR rfl rfl rfl Ar DY (by omega) (by decide)) ?_;refine Ja ?_)|(refine Tx 5 ?_;refine Jm ?_;refine jN ?_;refine Jm ?_))
 refine CF (F':=ofL [(5,vi q),(6,vd (.val (.int .u64 (r:Int)))),(7,vo 0 (((Ad a).length+q+1))),(30,vd (EK false a)),(31,vi ((Ad a).length)),(32,vi ((0:Nat)))]) (H':=[.row 126 1 ((Ad a).length+q+1) (cW (List.replicate ((Ad a).length+q+1) 0))]) (BM _ 1 ?_ ?_ ?_) ?_
 ·rfl
 ·exact mB rfl rfl
 ·exact ⟨GD,trivial⟩
 refine Bp (fun n Fr H=>∃ (k:Nat) (o:List Nat),k≤(Ad a).length∧n=(Ad a).length - k∧RD (Ad a) q r k o∧Fr=ofL [(5,vi q),(6,vd (.val (.int .u64 (r:Int)))),(7,vo 0 (((Ad a).length+q+1))),(30,vd (EK false a)),(31,vi ((Ad a).length)),(32,vi ((k:Nat)))]∧H=[.row 126 1 ((Ad a).length+q+1) (cW o)]) (n0:=(Ad a).length) ⟨0,(List.replicate ((Ad a).length+q+1) 0),Nat.zero_le _,rfl,RD.start _ _ _,rfl,rfl⟩ ?_
 rintro nn Fr H ⟨k,o,hk,rfl,ho,rfl,rfl⟩
 by_cases hlt:k<(Ad a).length
 case pos =>
  obtain ⟨x,hx⟩:∃ x,(Ad a)[k]?=some x:=⟨_,List.getElem?_eq_getElem hlt⟩
  have hx1:=ha x (List.mem_of_getElem? hx)
  have hx2:=NI hx
  obtain ⟨cy,hcy,hcl⟩:=ho.top
  have hol:=ho.len
  obtain ⟨hor,hfit⟩:=Sh (l:=x*2 ^ r % 4294967296) hcl (Nat.mod_lt _ (by decide)) (Nat.le_of_lt hr) (ZU (Nat.le_of_lt hr))
  have hst:=ho.step ha hr hx hcy hcl hfit
  have h32:2 ^ r≤2147483648:=by rw [show (2147483648:Nat)=2 ^ 31 from rfl];exact Nat.pow_le_pow_right (by decide) (by omega)
  have hxm:x*2 ^ r≤4294967295*2147483648:=Nat.mul_le_mul (by omega) h32
  have w1:IntKind.wrap .u64 (x:Int)=(x:Int):=Hu (by omega) (by omega)
  have w2:IntKind.wrap .u64 ((x:Int)*2 ^ r)=((x*2 ^ r:Nat):Int):=by rw [show ((x:Int)*2 ^ r)=((x*2 ^ r:Nat):Int) by push_cast;rfl];exact Hu (by omega) (by omega)
  have w3:=Oy (x*2 ^ r)
  have w4:IntKind.wrap .u32 ((x*2 ^ r / 4294967296:Nat):Int)=((x*2 ^ r / 4294967296:Nat):Int):=by rw [Oy,Nat.mod_eq_of_lt (by omega)]
  have tl:q+k<o.length:=by omega
  have tl2:q+k+1<(o.set (q+k) (cy+x*2 ^ r % 4294967296)).length:=by rw [List.length_set];omega
  generalize x*2 ^ r=t at *
  repeat' (with_reducible first|refine qq ?_|(refine Tx 6 ?_;refine Jo xLt ?_)|(refine Tx 7 ?_;refine Jm ?_;refine Jo (by first|exact xIr Ar (hx2)|exact Eg (i:=q+k) rfl rfl rfl rfl (by omega) Ar (by omega) (by decide)|exact Eg (i:=q+k+1) rfl rfl rfl rfl (by omega) Ar (by omega) (by decide)) ?_;refine Jo (by first|exact Ql rfl rfl rfl hcy AY|exact xLd AY) ?_;refine Ja ?_;refine Ja ?_)|(refine Tx 8 ?_;refine Jm ?_;refine Jo (by first|exact Cp rfl Tryz.underlying126 Tryz.underlying159 rfl w1|exact CJ rfl Tryz.underlying126 Tryz.underlying159 rfl) ?_;refine Jm ?_;refine Jo (by exact Ack rfl rfl rfl (Nat.le_trans (Nat.le_of_lt hr) (by decide)) w2) ?_;refine Ja ?_)|(refine Tx 9 ?_;refine Jm ?_;refine Jm ?_;refine Jm ?_;refine Jo xAd ?_;refine Jo (by first|exact xIr Ar (hx2)|exact Eg (i:=q+k) rfl rfl rfl rfl (by omega) Ar (by omega) (by decide)|exact Eg (i:=q+k+1) rfl rfl rfl rfl (by omega) Ar (by omega) (by decide)) ?_;refine Jo (by first|exact Ql rfl rfl rfl hcy AY|exact xLd AY) ?_;refine Jm ?_;refine Jo (by first|exact Cp rfl Tryz.underlying159 Tryz.underlying126 rfl w3|exact CJ rfl Tryz.underlying159 Tryz.underlying126 rfl) ?_;refine Jo (by exact Acj rfl rfl rfl hor) ?_;refine Jo (by first|exact xIr Ar (hx2)|exact Eg (i:=q+k) rfl rfl rfl rfl (by omega) Ar (by omega) (by decide)|exact Eg (i:=q+k+1) rfl rfl rfl rfl (by omega) Ar (by omega) (by decide)) ?_;refine Js (by first|exact IQ rfl rfl rfl rfl rfl AY tl rfl|exact IQ rfl rfl rfl rfl rfl AY tl2 rfl|exact xS1 AY|exact xSk AY) ?_)|(refine Tx 10 ?_;refine Jm ?_;refine Jm ?_;refine Jm ?_;refine Jo xAd ?_;refine Jo xAd ?_;refine Jm ?_;refine Jo (by exact Tk rfl rfl rfl) ?_;refine Jo (by first|exact Cp rfl Tryz.underlying159 Tryz.underlying126 rfl w4|exact CJ rfl Tryz.underlying159 Tryz.underlying126 rfl) ?_;refine Jo (by first|exact xIr Ar (hx2)|exact Eg (i:=q+k) rfl rfl rfl rfl (by omega) Ar (by omega) (by decide)|exact Eg (i:=q+k+1) rfl rfl rfl rfl (by omega) Ar (by omega) (by decide)) ?_;refine Js (by first|exact IQ rfl rfl rfl rfl rfl AY tl rfl|exact IQ rfl rfl rfl rfl rfl AY tl2 rfl|exact xS1 AY|exact xSk AY) ?_)|(refine Tx 11 ?_;refine Jo xAd ?_;refine Jm ?_))
  refine ⟨_,_,BM _ 1 ?_ ?_ ?_,_,by omega,k+1,_,by omega,rfl,hst,rfl,rfl⟩
  ·rfl
  ·exact mB rfl rfl
  ·exact ⟨GD,trivial⟩
 obtain rfl:k=(Ad a).length:=by omega
 have hv:=ho.val
 rw [List.take_length,AE] at hv
 have hv2:AO o=a*2 ^ n:=by rw [hv,hn,Nat.pow_add,Nat.pow_mul,Nat.mul_comm (2 ^ r)]
 have hol:=ho.len
 have TC:=Ly (G:=Ax) o ((Ad a).length+q+1) hol.symm ho.ok (by omega)
 rw [hv2] at TC
 repeat' (with_reducible first|refine qq ?_|(refine Tx 6 ?_;refine Jo xLt ?_))
 refine CF (FU (ds:=o.map dW) 7 0 rfl (by rw [←Afm];rfl)) ?_
 repeat' (with_reducible first|refine qq ?_|(refine Tx 12 ?_;refine Jm ?_;refine Jo (xCl Tryz.func161 (TC)) ?_;refine Ja ?_))
 exact Ap rfl (.cons_ (.tmp (.one (Db rfl fun _=>IR _))) .nil_)
end Go.Proofs.YtmdfjbpggbhgnaaGreatDoor
namespace Go.Proofs.YtmdfjbpggbhgnaaGreatDoor
open Go.ChangeShapes Go.WideShapes Go.ChangeAt Go.RowKit Go.Joins Go.Deep
structure Rw where
 nb:Bool
 A:Option Addr
 ws:List Nat
 cap:Nat
 den:Int
def Rw.cells (r:Rw):List Value:=[.bool r.nb,.slice r.A r.ws.length r.cap,.int .i64 r.den]
def Rw.val (r:Rw):Value:=.agg #[.bool r.nb,.slice r.A r.ws.length r.cap,.int .i64 r.den]
def rw0:Rw:=⟨false,none,[],0,0⟩
instance:Inhabited Rw:=⟨rw0⟩
structure Acm (w:World) (m:Nat) (r:Rw):Prop where
 nul:r.A=none→r.cap=0
 fit:r.ws.length≤r.cap
 at_:Am w m r.A (w32 r.ws)
 ok:Az r.ws
def vdP (r:Rw):Prop:=if r.ws.length=0 then r.nb=false∧r.den=0 else r.ws[r.ws.length - 1]?.getD 0≠0∧0≤r.den∧r.den≤65536∧(r.den=0∨r.ws[0]?.getD 0 % 2=1)
instance (r:Rw):Decidable (vdP r):=by unfold vdP;infer_instance
def vdB (r:Rw):Bool:=decide (vdP r)
def Rw.x (r:Rw):Int:=sg r.nb (AO r.ws)
def Rw.d (r:Rw):Nat:=r.den.toNat
theorem Zd {r:Rw} (h:r.ws.length=0):vdP r ↔ r.nb=false∧r.den=0:=by unfold vdP;rw [if_pos h]
theorem WS {r:Rw} (h:¬ r.ws.length=0):vdP r ↔ r.ws[r.ws.length - 1]?.getD 0≠0∧0≤r.den∧r.den≤65536∧(r.den=0∨r.ws[0]?.getD 0 % 2=1):=by unfold vdP;rw [if_neg h]
theorem NJ {r:Rw} (h:vdP r):vdB r=true:=decide_eq_true h
theorem Gu {r:Rw} (h:¬ vdP r):vdB r=false:=decide_eq_false h
theorem Ze {r:Rw} (hok:Az r.ws) (h:vdB r=true):Ad (AO r.ws)=r.ws:=by
 have h:=of_decide_eq_true h
 refine MZ hok fun hne=>?_
 have hl:¬ r.ws.length=0:=fun h0=>hne (List.eq_nil_of_length_eq_zero h0)
 exact ((WS hl).1 h).1
theorem Acn (r:Rw):r.x.natAbs=AO r.ws:=EP _ _
structure Iv where
 lo:Rw
 hi:Rw
def Iv.cells (a:Iv):List Value:=[.bool a.lo.nb,.slice a.lo.A a.lo.ws.length a.lo.cap,.int .i64 a.lo.den,.bool a.hi.nb,.slice a.hi.A a.hi.ws.length a.hi.cap,.int .i64 a.hi.den]
def Iv.val (a:Iv):Value:=.agg #[.bool a.lo.nb,.slice a.lo.A a.lo.ws.length a.lo.cap,.int .i64 a.lo.den,.bool a.hi.nb,.slice a.hi.A a.hi.ws.length a.hi.cap,.int .i64 a.hi.den]
def iv0:Iv:=⟨rw0,rw0⟩
instance:Inhabited Iv:=⟨iv0⟩
structure IvAt (w:World) (m:Nat) (a:Iv):Prop where
 lo:Acm w m a.lo
 hi:Acm w m a.hi
def ivP (a:Iv):Prop:=vdB a.lo=true∧vdB a.hi=true∧UQ a.lo.x a.lo.d a.hi.x a.hi.d≤0
instance (a:Iv):Decidable (ivP a):=by unfold ivP;infer_instance
def ivB (a:Iv):Bool:=decide (ivP a)
def leanB (r:Rw):Bool:=decide (r.ws.length≤140∧r.den≤9000)
def leanI (a:Iv):Bool:=decide (a.lo.ws.length≤140∧a.hi.ws.length≤140∧a.lo.den≤9000∧a.hi.den≤9000)
/- What came in. -/
set_option maxRecDepth 100000
section
variable {H:Type} {enc:TypeId × Value→H} {w:World} {spare:Nat→Bool} {held:Bool}
theorem OG {fuel:Nat} {v:Value} {x:DataW H × List MemPlace} (h:DataW.trod enc Tryz.prog w 0 spare held fuel 41 [v]=some x) :
  ∃ (A:Option Addr) (cap:Nat) (ws:List Nat),v=.slice A ws.length cap∧(A=none→cap=0)∧ws.length≤cap∧ws.length≤maxLen∧Am w w.heap.size A (w32 ws)∧Az ws:=by
 rcases open_ints Tryz.underlying41 Tryz.underlying126 (by kernel_rfl) h with ⟨hcs,_⟩|⟨a,len,cap,zs,hcs,_,hl,hm,hz,_,hcell,hwz⟩
 ·exact ⟨none,0,[],by simpa using hcs,fun _=>rfl,Nat.le_refl _,Nat.zero_le _,Am.nil_,fun _ h=>by cases h⟩
 ·have hle:len≤zs.length:=by rw [hz];split <;> omega
  have hlen:((zs.take len).map Int.toNat).length=len:=by simp;omega
  have hpos:∀ z∈zs,0≤z∧z≤4294967295:=fun z hz=>bounds_u32 (hwz z hz)
  refine ⟨some a,cap,(zs.take len).map Int.toNat,by rw [hlen];simpa using hcs,by simp,by omega,by omega,fun hx=>?_,fun y hy=>?_⟩
  ·have hp:0<len:=by
    rcases Nat.eq_zero_or_pos len with h0|h0
    ·subst h0;simp [w32] at hx
    ·exact h0
   obtain ⟨b,off,rfl,hcell'⟩:=ints_at hcell (by omega)
   have h0:=hcell' 0 (by omega)
   have hb:b<w.heap.size:=by
    rcases Nat.lt_or_ge b w.heap.size with h|h
    ·exact h
    ·simp [World.cell?,Array.getElem?_eq_none h] at h0
   refine ⟨b,off,rfl,hb,hb,fun j u hu=>?_⟩
   have hj:j<len:=by
    have:=(List.getElem?_eq_some_iff.1 hu).1
    rw [LJ,hlen] at this
    exact this
   have hjz:j<zs.length:=by omega
   rw [hcell' j hjz]
   simp only [w32,List.getElem?_map,List.getElem?_take,if_pos hj,List.getElem?_eq_getElem hjz,Option.map_some,Option.some.injEq] at hu
   rw [←hu]
   have:=(hpos zs[j] (List.getElem_mem hjz)).1
   simp only [List.getD,List.getElem?_eq_getElem hjz,Option.getD_some]
   rw [Int.toNat_of_nonneg this]
  ·obtain ⟨z,hz1,rfl⟩:=List.mem_map.1 hy
   have:=hpos z (List.mem_of_mem_take hz1)
   omega
theorem WT {fuel:Nat} {cs:List Value} {x:DataW H × List MemPlace} (h:DataW.trod enc Tryz.prog w 0 spare held fuel 43 cs=some x) :
  ∃ r:Rw,cs=r.cells∧Acm w w.heap.size r∧r.ws.length≤maxLen ∧ -9223372036854775808≤r.den∧r.den≤9223372036854775807:=by
 obtain ⟨xs,n,_,_,hlen,hxl,hg⟩:=DataW.trod_struct Tryz.underlying43 h
 have hl3:cs.length=3:=hlen.trans (by kernel_rfl)
 match cs,hl3 with
 | [c0,c1,c2],_ =>
  have k1:Tryz.prog.cellsOf 4=1:=by kernel_rfl
  have k2:Tryz.prog.cellsOf 41=1:=by kernel_rfl
  have k3:Tryz.prog.cellsOf 3=1:=by kernel_rfl
  have hx3:xs.length=3:=hxl
  match xs,hx3 with
  | [x0,x1,x2],_ =>
   have g0:DataW.trod enc Tryz.prog w 0 spare held n 4 (([c0,c1,c2].drop 0).take (Tryz.prog.cellsOf 4))=some x0:=hg 0 _ rfl
   have g1:DataW.trod enc Tryz.prog w 0 spare held n 41 (([c0,c1,c2].drop 1).take (Tryz.prog.cellsOf 41))=some x1:=hg 1 _ rfl
   have g2:DataW.trod enc Tryz.prog w 0 spare held n 3 (([c0,c1,c2].drop 2).take (Tryz.prog.cellsOf 3))=some x2:=hg 2 _ rfl
   rw [k1] at g0
   rw [k2] at g1
   rw [k3] at g2
   obtain ⟨nb,hn,_⟩:=DataW.trod_bool Tryz.underlying4 g0
   obtain ⟨A,cap,ws,ha,hA0,hc1,hc2,hc3,hc4⟩:=OG g1
   obtain ⟨den,hd,_,hdb⟩:=DataW.trod_int Tryz.underlying3 g2
   have e0:[c0]=[Value.bool nb]:=hn
   have e2:[c2]=[Value.int .i64 den]:=hd
   simp only [List.cons.injEq,and_true] at e0 e2
   refine ⟨⟨nb,A,ws,cap,den⟩,?_,⟨hA0,hc1,hc3,hc4⟩,hc2,bounds_i64 hdb⟩
   rw [e0,ha,e2]
   rfl
theorem Aey {fuel:Nat} {cs:List Value} {x:DataW H × List MemPlace} (h:DataW.trod enc Tryz.prog w 0 spare held fuel 45 cs=some x) :
  ∃ a:Iv,cs=a.cells∧IvAt w w.heap.size a∧a.lo.ws.length≤maxLen∧a.hi.ws.length≤maxLen∧(-9223372036854775808≤a.lo.den∧a.lo.den≤9223372036854775807) ∧ -9223372036854775808≤a.hi.den∧a.hi.den≤9223372036854775807:=by
 obtain ⟨xs,n,_,_,hlen,hxl,hg⟩:=DataW.trod_struct Tryz.underlying45 h
 have hl6:cs.length=6:=hlen.trans (by kernel_rfl)
 match cs,hl6 with
 | [c0,c1,c2,c3,c4,c5],_ =>
  have k1:Tryz.prog.cellsOf 43=3:=by kernel_rfl
  have hx2:xs.length=2:=hxl
  match xs,hx2 with
  | [x0,x1],_ =>
   have g0:DataW.trod enc Tryz.prog w 0 spare held n 43 (([c0,c1,c2,c3,c4,c5].drop 0).take (Tryz.prog.cellsOf 43))=some x0:=hg 0 _ rfl
   have g1:DataW.trod enc Tryz.prog w 0 spare held n 43 (([c0,c1,c2,c3,c4,c5].drop 3).take (Tryz.prog.cellsOf 43))=some x1:=hg 1 _ rfl
   rw [k1] at g0 g1
   obtain ⟨r,hr,h1,h2,h3⟩:=WT g0
   obtain ⟨s,hs,h4,h5,h6⟩:=WT g1
   have e0:[c0,c1,c2]=r.cells:=hr
   have e1:[c3,c4,c5]=s.cells:=hs
   simp only [Rw.cells,List.cons.injEq,and_true] at e0 e1
   refine ⟨⟨r,s⟩,?_,⟨h1,h4⟩,h2,h5,h3,h6⟩
   rw [e0.1,e0.2.1,e0.2.2,e1.1,e1.2.1,e1.2.2]
   rfl
def IvIn (w:World) (a:Iv):Prop:=IvAt w w.heap.size a∧a.lo.ws.length≤maxLen∧a.hi.ws.length≤maxLen∧(-9223372036854775808≤a.lo.den∧a.lo.den≤9223372036854775807) ∧ -9223372036854775808≤a.hi.den∧a.hi.den≤9223372036854775807
end
end Go.Proofs.YtmdfjbpggbhgnaaGreatDoor
namespace Go.Proofs.YtmdfjbpggbhgnaaGreatDoor
open Go.RowKit
def NoW (vs:List Value):Prop:=∀ u∈vs,∀ z,u≠.int .u32 z
def IvR (w:World) (lo hi:Nat) (v:Value) (x:Int) (dx:Nat) (y:Int) (dy:Nat):Prop :=
 ∃ r s:Rw,v=(Iv.mk r s).val∧DyR w lo hi r.val x dx∧DyR w lo hi s.val y dy
structure SKn (W:World) (m r n t:Nat) (w:World):Prop where
 is:Below m W w
 fits:m≤w.heap.size
 own:∃ vs:List Value,vs.length=n∧Bh w r vs t
def Aez (w:World) (b:Nat):Nat→List Value→World
 | _,[]=>w
 | j,v::vs=>Aez (w.setCell ⟨b,j,none⟩ v) b (j+1) vs
end Go.Proofs.YtmdfjbpggbhgnaaGreatDoor
namespace Go.Proofs.YtmdfjbpggbhgnaaGreatDoor
open Go.RowKit
theorem Uo (r:Rw) (m:Nat) (w:World) (hm:m≤w.heap.size) (h:Acm w m r) (hl:r.ws.length≤1000000) :
    Calls Tryz.prog 123 #[r.val] w fun e w'=>e=.returned (.bool (vdB r))∧Below w.heap.size w w':=by
  have hat:=h.at_
  have hok:=h.ok
  obtain ⟨nb,A,ws,cap,den⟩:=r
  dsimp only at hat hok hl
  simp only [Rw.val]
  have key:den<0∨den=0∨(0<den∧den≤65536)∨65536<den:=by omega
  by_cases h0:ws.length=0
  · have hp:=Zd (r:=⟨nb,A,ws,cap,den⟩) h0
    dsimp only at hp
    have hz:(ws.length:Int)=0:=by omega
    have hzb:((ws.length:Int) == 0)=true:=by rw [hz];rfl
    rw [h0] at hzb ⊢
    clear hat hok hl h hz h0
    cases nb with
    | true =>
      rcases key with k1|k1|k1|k1
      all_goals
        have HV := Lib.hid (show vdB ⟨true, A, ws, cap, den⟩ = false from Gu (fun hv => by have := (hp.1 hv).1; cases this))
        clear hp
        go_enter Tryz.func123,Tryz.ntmps123
        go_wp2_with fail
        all_goals first
          | (exfalso;omega)
          | (go_ret
             exact ⟨by rw [HV.out];rfl,al_ _ _⟩)
    | false =>
      rcases key with k1|k1|k1|k1
      · have d0:(den == 0)=false:=by rw [beq_eq_false_iff_ne];omega
        have HV := Lib.hid (show vdB ⟨false, A, ws, cap, den⟩ = false from Gu (fun hv => by have := (hp.1 hv).2; omega))
        clear hp
        go_enter Tryz.func123,Tryz.ntmps123
        go_wp2_with fail
        all_goals first
          | (exfalso;omega)
          | (go_ret
             exact ⟨by rw [HV.out];rfl,al_ _ _⟩)
      · have d0:(den == 0)=true:=by simp;omega
        have HV := Lib.hid (show vdB ⟨false, A, ws, cap, den⟩ = true from NJ (hp.2 ⟨rfl, k1⟩))
        clear hp
        go_enter Tryz.func123,Tryz.ntmps123
        go_wp2_with fail
        all_goals first
          | (exfalso;omega)
          | (go_ret
             exact ⟨by rw [HV.out];rfl,al_ _ _⟩)
      · have d0:(den == 0)=false:=by rw [beq_eq_false_iff_ne];omega
        have HV := Lib.hid (show vdB ⟨false, A, ws, cap, den⟩ = false from Gu (fun hv => by have := (hp.1 hv).2; omega))
        clear hp
        go_enter Tryz.func123,Tryz.ntmps123
        go_wp2_with fail
        all_goals first
          | (exfalso;omega)
          | (go_ret
             exact ⟨by rw [HV.out];rfl,al_ _ _⟩)
      · have d0:(den == 0)=false:=by rw [beq_eq_false_iff_ne];omega
        have HV := Lib.hid (show vdB ⟨false, A, ws, cap, den⟩ = false from Gu (fun hv => by have := (hp.1 hv).2; omega))
        clear hp
        go_enter Tryz.func123,Tryz.ntmps123
        go_wp2_with fail
        all_goals first
          | (exfalso;omega)
          | (go_ret
             exact ⟨by rw [HV.out];rfl,al_ _ _⟩)
  · have hp:=WS (r:=⟨nb,A,ws,cap,den⟩) h0
    dsimp only at hp
    obtain ⟨b,off,z,hA,q1,q2,hz,g1⟩:=hat.w32_ (k:=ws.length - 1) (by omega)
    subst hA
    obtain ⟨b',off',y,hA',_,_,hy,g0⟩:=hat.w32_ (k:=0) (by omega)
    cases hA'
    rw [Nat.add_zero] at g0
    obtain ⟨L,hL⟩:∃ L,L=ws.length - 1:=⟨_,rfl⟩
    have hlen:ws.length=L+1:=by omega
    have hl':L≤1000000:=by omega
    have e0:((L:Int)+1 == 0)=false:=by simp;omega
    rw [←hL] at g1
    rw [hz,hy] at hp
    simp only [Option.getD_some] at hp
    rw [hlen]
    clear hat hok hl h hz hy hL q1 q2 h0 hlen
    by_cases hz0:z=0
    · subst hz0
      have hzb:(((0:Nat):Int) != 0)=false:=by rfl
      rcases key with k1|k1|k1|k1
      all_goals
        have HV := Lib.hid (show vdB ⟨nb, some ⟨b, off, none⟩, ws, cap, den⟩ = false from Gu (fun hv => (hp.1 hv).1 rfl))
        clear hp
        go_enter Tryz.func123,Tryz.ntmps123
        go_wp2_with fail
        all_goals first
          | (exfalso;omega)
          | (go_ret
             exact ⟨by rw [HV.out];rfl,al_ _ _⟩)
    · have hzb:((z:Int) != 0)=true:=by simp;omega
      rcases key with k1|k1|k1|k1
      · have HV := Lib.hid (show vdB ⟨nb, some ⟨b, off, none⟩, ws, cap, den⟩ = false from Gu (fun hv => by have := (hp.1 hv).2.1; omega))
        clear hp
        go_enter Tryz.func123,Tryz.ntmps123
        go_wp2_with fail
        all_goals first
          | (exfalso;omega)
          | (go_ret
             exact ⟨by rw [HV.out];rfl,al_ _ _⟩)
      · have d0:(den == 0)=true:=by simp;omega
        have HV := Lib.hid (show vdB ⟨nb, some ⟨b, off, none⟩, ws, cap, den⟩ = true from NJ (hp.2 ⟨hz0, by omega, by omega, .inl k1⟩))
        clear hp
        go_enter Tryz.func123,Tryz.ntmps123
        go_wp2_with fail
        all_goals first
          | (exfalso;omega)
          | (go_ret
             exact ⟨by rw [HV.out];rfl,al_ _ _⟩)
      · have d0:(den == 0)=false:=by rw [beq_eq_false_iff_ne];omega
        have d1:decide (den≤65536)=true:=decide_eq_true k1.2
        have d2:decide (0≤den)=true:=decide_eq_true (by omega)
        by_cases ho:y % 2=1
        · have hoi:(y:Int) % 2=1:=by omega
          have HV := Lib.hid (show vdB ⟨nb, some ⟨b, off, none⟩, ws, cap, den⟩ = true from NJ (hp.2 ⟨hz0, by omega, k1.2, .inr ho⟩))
          clear hp
          go_enter Tryz.func123,Tryz.ntmps123
          go_wp2_with fail
          all_goals first
            | (exfalso;omega)
            | (go_ret
               exact ⟨by rw [HV.out];rfl,al_ _ _⟩)
        · have hoi:(y:Int) % 2=0:=by omega
          have HV := Lib.hid (show vdB ⟨nb, some ⟨b, off, none⟩, ws, cap, den⟩ = false from Gu (fun hv => by have := (hp.1 hv).2.2.2; omega))
          clear hp
          go_enter Tryz.func123,Tryz.ntmps123
          go_wp2_with fail
          all_goals first
            | (exfalso;omega)
            | (go_ret
               exact ⟨by rw [HV.out];rfl,al_ _ _⟩)
      · have HV := Lib.hid (show vdB ⟨nb, some ⟨b, off, none⟩, ws, cap, den⟩ = false from Gu (fun hv => by have := (hp.1 hv).2.2.1; omega))
        clear hp
        go_enter Tryz.func123,Tryz.ntmps123
        go_wp2_with fail
        all_goals first
          | (exfalso;omega)
          | (go_ret
             exact ⟨by rw [HV.out];rfl,al_ _ _⟩)
end Go.Proofs.YtmdfjbpggbhgnaaGreatDoor
namespace Go.Proofs.YtmdfjbpggbhgnaaGreatDoor
open Go.RowKit
theorem Up (r:Rw) (m:Nat) (w:World) (hm:m≤w.heap.size) (h:Acm w m r) (hl:r.ws.length≤1000000) :
    Calls Tryz.prog 81 #[r.val] w fun e w'=>e=.returned (.bool (vdB r))∧Below w.heap.size w w':=by
  have hat:=h.at_
  have hok:=h.ok
  obtain ⟨nb,A,ws,cap,den⟩:=r
  dsimp only at hat hok hl
  simp only [Rw.val]
  have key:den<0∨den=0∨(0<den∧den≤65536)∨65536<den:=by omega
  by_cases h0:ws.length=0
  · have hp:=Zd (r:=⟨nb,A,ws,cap,den⟩) h0
    dsimp only at hp
    have hz:(ws.length:Int)=0:=by omega
    have hzb:((ws.length:Int) == 0)=true:=by rw [hz];rfl
    rw [h0] at hzb ⊢
    clear hat hok hl h hz h0
    cases nb with
    | true =>
      rcases key with k1|k1|k1|k1
      all_goals
        have HV := Lib.hid (show vdB ⟨true, A, ws, cap, den⟩ = false from Gu (fun hv => by have := (hp.1 hv).1; cases this))
        clear hp
        go_enter Tryz.func81,Tryz.ntmps81
        go_wp2_with fail
        all_goals first
          | (exfalso;omega)
          | (go_ret
             exact ⟨by rw [HV.out];rfl,al_ _ _⟩)
    | false =>
      rcases key with k1|k1|k1|k1
      · have d0:(den == 0)=false:=by rw [beq_eq_false_iff_ne];omega
        have HV := Lib.hid (show vdB ⟨false, A, ws, cap, den⟩ = false from Gu (fun hv => by have := (hp.1 hv).2; omega))
        clear hp
        go_enter Tryz.func81,Tryz.ntmps81
        go_wp2_with fail
        all_goals first
          | (exfalso;omega)
          | (go_ret
             exact ⟨by rw [HV.out];rfl,al_ _ _⟩)
      · have d0:(den == 0)=true:=by simp;omega
        have HV := Lib.hid (show vdB ⟨false, A, ws, cap, den⟩ = true from NJ (hp.2 ⟨rfl, k1⟩))
        clear hp
        go_enter Tryz.func81,Tryz.ntmps81
        go_wp2_with fail
        all_goals first
          | (exfalso;omega)
          | (go_ret
             exact ⟨by rw [HV.out];rfl,al_ _ _⟩)
      · have d0:(den == 0)=false:=by rw [beq_eq_false_iff_ne];omega
        have HV := Lib.hid (show vdB ⟨false, A, ws, cap, den⟩ = false from Gu (fun hv => by have := (hp.1 hv).2; omega))
        clear hp
        go_enter Tryz.func81,Tryz.ntmps81
        go_wp2_with fail
        all_goals first
          | (exfalso;omega)
          | (go_ret
             exact ⟨by rw [HV.out];rfl,al_ _ _⟩)
      · have d0:(den == 0)=false:=by rw [beq_eq_false_iff_ne];omega
        have HV := Lib.hid (show vdB ⟨false, A, ws, cap, den⟩ = false from Gu (fun hv => by have := (hp.1 hv).2; omega))
        clear hp
        go_enter Tryz.func81,Tryz.ntmps81
        go_wp2_with fail
        all_goals first
          | (exfalso;omega)
          | (go_ret
             exact ⟨by rw [HV.out];rfl,al_ _ _⟩)
  · have hp:=WS (r:=⟨nb,A,ws,cap,den⟩) h0
    dsimp only at hp
    obtain ⟨b,off,z,hA,q1,q2,hz,g1⟩:=hat.w32_ (k:=ws.length - 1) (by omega)
    subst hA
    obtain ⟨b',off',y,hA',_,_,hy,g0⟩:=hat.w32_ (k:=0) (by omega)
    cases hA'
    rw [Nat.add_zero] at g0
    obtain ⟨L,hL⟩:∃ L,L=ws.length - 1:=⟨_,rfl⟩
    have hlen:ws.length=L+1:=by omega
    have hl':L≤1000000:=by omega
    have e0:((L:Int)+1 == 0)=false:=by simp;omega
    rw [←hL] at g1
    rw [hz,hy] at hp
    simp only [Option.getD_some] at hp
    rw [hlen]
    clear hat hok hl h hz hy hL q1 q2 h0 hlen
    by_cases hz0:z=0
    · subst hz0
      have hzb:(((0:Nat):Int) != 0)=false:=by rfl
      rcases key with k1|k1|k1|k1
      all_goals
        have HV := Lib.hid (show vdB ⟨nb, some ⟨b, off, none⟩, ws, cap, den⟩ = false from Gu (fun hv => (hp.1 hv).1 rfl))
        clear hp
        go_enter Tryz.func81,Tryz.ntmps81
        go_wp2_with fail
        all_goals first
          | (exfalso;omega)
          | (go_ret
             exact ⟨by rw [HV.out];rfl,al_ _ _⟩)
    · have hzb:((z:Int) != 0)=true:=by simp;omega
      rcases key with k1|k1|k1|k1
      · have HV := Lib.hid (show vdB ⟨nb, some ⟨b, off, none⟩, ws, cap, den⟩ = false from Gu (fun hv => by have := (hp.1 hv).2.1; omega))
        clear hp
        go_enter Tryz.func81,Tryz.ntmps81
        go_wp2_with fail
        all_goals first
          | (exfalso;omega)
          | (go_ret
             exact ⟨by rw [HV.out];rfl,al_ _ _⟩)
      · have d0:(den == 0)=true:=by simp;omega
        have HV := Lib.hid (show vdB ⟨nb, some ⟨b, off, none⟩, ws, cap, den⟩ = true from NJ (hp.2 ⟨hz0, by omega, by omega, .inl k1⟩))
        clear hp
        go_enter Tryz.func81,Tryz.ntmps81
        go_wp2_with fail
        all_goals first
          | (exfalso;omega)
          | (go_ret
             exact ⟨by rw [HV.out];rfl,al_ _ _⟩)
      · have d0:(den == 0)=false:=by rw [beq_eq_false_iff_ne];omega
        have d1:decide (den≤65536)=true:=decide_eq_true k1.2
        have d2:decide (0≤den)=true:=decide_eq_true (by omega)
        by_cases ho:y % 2=1
        · have hoi:(y:Int) % 2=1:=by omega
          have HV := Lib.hid (show vdB ⟨nb, some ⟨b, off, none⟩, ws, cap, den⟩ = true from NJ (hp.2 ⟨hz0, by omega, k1.2, .inr ho⟩))
          clear hp
          go_enter Tryz.func81,Tryz.ntmps81
          go_wp2_with fail
          all_goals first
            | (exfalso;omega)
            | (go_ret
               exact ⟨by rw [HV.out];rfl,al_ _ _⟩)
        · have hoi:(y:Int) % 2=0:=by omega
          have HV := Lib.hid (show vdB ⟨nb, some ⟨b, off, none⟩, ws, cap, den⟩ = false from Gu (fun hv => by have := (hp.1 hv).2.2.2; omega))
          clear hp
          go_enter Tryz.func81,Tryz.ntmps81
          go_wp2_with fail
          all_goals first
            | (exfalso;omega)
            | (go_ret
               exact ⟨by rw [HV.out];rfl,al_ _ _⟩)
      · have HV := Lib.hid (show vdB ⟨nb, some ⟨b, off, none⟩, ws, cap, den⟩ = false from Gu (fun hv => by have := (hp.1 hv).2.2.1; omega))
        clear hp
        go_enter Tryz.func81,Tryz.ntmps81
        go_wp2_with fail
        all_goals first
          | (exfalso;omega)
          | (go_ret
             exact ⟨by rw [HV.out];rfl,al_ _ _⟩)
end Go.Proofs.YtmdfjbpggbhgnaaGreatDoor
