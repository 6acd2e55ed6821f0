/- What the proofs of this claim share, part 9. No conditions. -/
import Derived.Test.YtmdfjbpggbhgnaaGreatDoorMr8
import Derived.WideLaws
import Derived.Test.YtmdfjbpggbhgnaaGreatDoorRows
set_option linter.all false
open Go.Proofs.Tryz
namespace Go.Proofs.YtmdfjbpggbhgnaaGreatDoor
open Go.RowKit
variable {N by_ i id j n off s:Nat} {F:Frm} {H H' H2:List Ob} {l:List Oper} {xs:List Int} {p q z:Int} {e t ty:TypeId} {b bb want:Bool} {f:FuncId} {oj:Oper} {d:Tmp} {ob:Ob} {y:Operand} {kk:Option Nat}
def Wk (N:Nat) (F:Frm) (H:List Ob) (F':Frm) (H':List Ob):Prop :=
 ∀ (b0:Nat) (w0:World) (S0:SD) (a:Act) (m:Mm),m.H=H→St b0 N w0 S0 F a m→∃ m',m'.w=m.w∧m'.H=H'∧St b0 N w0 S0 F' a m'
section
variable {P:Program} {G:World→Prop} {N:Nat} {F F':Frm} {H H':List Ob} {Q:Ye}
theorem AQ {c:Code} (h:Wk N F H F' H') (k:CW P G N c F' H' Q):CW P G N c F H Q:=fun b0 w0 S0 a m hG hH hs=>by
 obtain ⟨m',h1,h2,h3⟩:=h b0 w0 S0 a m hH hs
 rw [←h1]
 exact k b0 w0 S0 a m' hG h2 h3
def wkC (N:Nat) (K:Frm→List Ob→Prop):Frm→List Ob→Prop:=fun F H=>∃ F' H',Wk N F H F' H'∧K F' H'
theorem Aq {c:Code} (I:Nat→Frm→List Ob→Prop) {n0:Nat} (h0:I n0 F H) (round:∀ n F H,I n F H→CW P G N c F H (Xc (wkC N fun F' H'=>∃ n',n'<n∧I n' F' H') Q)):CW P G N (.loop c) F H Q:=fun b0 w0 S0 a m hG hH hs=>by
 refine AcB (fun n a w=>∃ F' m',m'.w=w∧St b0 N w0 S0 F' a m'∧I n F' m'.H) (n0:=n0) ⟨F,m,rfl,hs,by rw [hH];exact h0⟩ fun n a w ⟨F',m',h1,h2,h3⟩=>?_
 subst h1
 refine wp_mono (round n F' m'.H h3 b0 w0 S0 a m' hG rfl h2) fun e a w ⟨F2,m2,k1,k2,k3⟩=>?_
 cases e with
 | normal =>
  obtain ⟨F3,H3,k4,n',hlt,hI⟩:=k3
  obtain ⟨m3,k5,k6,k7⟩:=k4 b0 w0 S0 a m2 rfl k2
  subst k6
  exact ⟨n',hlt,F3,m3,k5.trans k1,k7,hI⟩
 | exit id=>exact ⟨F2,m2,k1,k2,k3⟩
 | goto l=>exact ⟨F2,m2,k1,k2,k3⟩
 | ret=>exact ⟨F2,m2,k1,k2,k3⟩
 | panic ch=>exact ⟨F2,m2,k1,k2,k3⟩
 | outgrown=>exact ⟨F2,m2,k1,k2,k3⟩
end
def ofL:List (Nat × X)→Frm
 | []=>fun _=>.any
 | (s,x)::l=>fun t=>match Nat.beq t s with|true=>x|false=>ofL l t
def C.bel (n:Nat):C→Prop
 | .d _=>True
 | .own id _=>id<n
 | .ref id _ _=>id<n
 | .clo _ caps=>∀ p∈caps,p.1<n
 | .emp=>True
def X.bel (n:Nat):X→Prop
 | .one c=>c.bel n
 | .agg cs=>∀ c∈cs,c.bel n
 | .tup _=>True
 | .any=>True
 | .pin l=>∀ p∈l,p.1<n
 | .tupC _=>False
def Vn (F:Frm) (n:Nat):List (Nat × X)→Prop
 | []=>True
 | (s,x)::l=>F s=x∧x.bel n∧Vn F n l
theorem Se {F:Frm} {n:Nat}:∀ {l:List (Nat × X)},Vn F n l→∀ t,(ofL l t=F t∧(ofL l t).bel n)∨ofL l t=.any
 | [],_,t=>.inr rfl
 | (s,x)::l,h,t=>by
  obtain ⟨h1,h2,h3⟩:=h
  simp only [ofL]
  cases hb:Nat.beq t s with
  | true =>
   have:=ej hb
   subst this
   exact .inl ⟨h1.symm,h2⟩
  | false=>exact Se h3 t
theorem TB.cut {m:Mm} {k:Option Nat} {v:Value} {E:Nat→Option Et} (h:TB m id off k v) (hb:id<n) (hE:∀ i,i<n→E i=m.E i):TB { m with H:=m.H.take n,E:=E } id off k v:=by
 obtain ⟨h1,ob,h2,h3,h4⟩:=h
 refine ⟨h1,ob,by rw [ci,if_pos hb];exact h2,h3,fun hk=>?_⟩
 obtain ⟨e,g,h5,h6,h7⟩:=h4 hk
 exact ⟨e,g,by rw [show ({ m with H:=m.H.take n,E:=E }:Mm).E id=m.E id from hE id hb];exact h5,h6,h7⟩
theorem DR.cut {m:Mm} {c:C} {v:Value} {E:Nat→Option Et} (h:DR m c v) (hb:c.bel n) (hE:∀ i,i<n→E i=m.E i):DR { m with H:=m.H.take n,E:=E } c v:=by
 cases c with
 | d x=>exact h
 | own id p =>
  obtain ⟨h1,ob,h2,h3,h4⟩:=h
  have hb':id<n:=hb
  refine ⟨h1,ob,by rw [ci,if_pos hb'];exact h2,h3,fun hk=>?_⟩
  obtain ⟨e,h5,h6⟩:=h4 hk
  exact ⟨e,(hE id hb).trans h5,h6⟩
 | ref id off k=>exact TB.cut h hb hE
 | clo fn caps =>
  obtain ⟨vs,h1,h2,h3⟩:=h
  exact ⟨vs,h1,h2,fun j p v hp hv=>(h3 j p v hp hv).cut (hb p (gM hp)) hE⟩
 | emp=>exact h
theorem AoC (l:List (Nat × X)) (n:Nat) (h:Vn F n l) (hH:∀ ob∈H.take n,∀ c∈ob.cs,C.bel n c):Wk N F H (ofL l) (H.take n):=fun b0 w0 S0 a m hm hs=>by
 subst hm
 let E:Nat→Option Et:=fun i=>if i<n then m.E i else none
 have hE:∀ i,i<n→E i=m.E i:=fun i hi=>if_pos hi
 have hE':∀ i e,E i=some e→i<n∧m.E i=some e:=fun i e he=>by
  have he':(if i<n then m.E i else none)=some e:=he
  split at he'
  ·exact ⟨by assumption,he'⟩
  ·cases he'
 have lcut:∀ {cs:List C} {vs:List Value},(∀ c∈cs,C.bel n c)→AY (DR m) cs vs→AY (DR { m with H:=m.H.take n,E:=E }) cs vs:=fun hb hl=>⟨hl.1,fun j c v hc hv=>(hl.2 j c v hc hv).cut (hb c (gM hc)) hE⟩
 refine ⟨{ m with H:=m.H.take n,E:=E },rfl,rfl,⟨⟨fun id e he=>?_,fun i j e e' hij hi hj=>hs.cx.apart i j e e' hij (hE' i e hi).2 (hE' j e' hj).2,fun id e g t he=>hs.cx.far id e g t (hE' id e he).2,hs.cx.lt⟩,fun id ob hob hk=>?_,fun t=>?_,hs.size,hs.defers,hs.below,hs.base,hs.S,hs.T⟩⟩
 ·obtain ⟨hlt,he⟩:=hE' id e he
  obtain ⟨h1,ob,h2,h3⟩:=hs.cx.each id e he
  have h2':(m.H.take n)[id]?=some ob:=by rw [ci,if_pos hlt];exact h2
  refine ⟨h1,ob,h2',?_⟩
  have hb:=hH ob (gM h2')
  cases ob <;> cases e <;> simp only [YS] at h3 ⊢
  ·exact ⟨h3.1,lcut hb h3.2⟩
  ·exact ⟨h3.1,h3.2.1,h3.2.2.1,lcut hb h3.2.2.2⟩
 ·have hob':(m.H.take n)[id]?=some ob:=hob
  rw [ci] at hob'
  split at hob'
  ·rename_i hlt
   show (E id).isSome=true
   rw [hE id hlt]
   exact hs.tot id ob hob' hk
  ·cases hob'
 ·rcases Se h t with ⟨h1,h2⟩|h1
  ·rw [h1] at h2 ⊢
   have hx:=hs.frame t
   cases hF:F t with
   | one c=>rw [hF] at hx h2;exact DR.cut hx h2 hE
   | agg cs =>
    rw [hF] at hx h2
    obtain ⟨xs,h3,h4⟩:=hx
    exact ⟨xs,h3,lcut h2 h4⟩
   | tup l'=>rw [hF] at hx;exact hx
   | any=>trivial
   | pin l'=>rw [hF] at hx h2;exact fun p hp=>TB.cut (hx p hp) (h2 p hp) hE
   | tupC l'=>rw [hF] at h2;exact h2.elim
  ·rw [h1];trivial
theorem IC (t e s:Nat) (h:F t=.one (.d (.val (.slice none 0 0)))):Wk N F H (F.put (some t) (.one (.own H.length 0))) (H++[.row e s 0 []]):=fun b0 w0 S0 a m hm hs=>by
 subst hm
 have hle:Le m { m with H:=m.H++[.row e s 0 []],E:=fun i=>if i=m.H.length then some (.row (.slice none 0 0) e s 0 []) else m.E i } :=
  ⟨fun _ _ h=>h,rfl,fun _ _ _=>rfl,fun id ob hob=>⟨ob,by rw [ee (gS.1 hob).1];exact hob,Ll.same fun x hx=>by
   have:=(gS.1 hob).1
   show (if id=m.H.length then _ else m.E id)=some x
   rw [if_neg (by omega)]
   exact hx⟩⟩
 have get:∀ i x,(if i=m.H.length then some (Et.row (.slice none 0 0) e s 0 []) else m.E i)=some x→(i=m.H.length∧x=.row (.slice none 0 0) e s 0 [])∨m.E i=some x:=fun i x hx=>by
  split at hx
  ·exact .inl ⟨by assumption,(Option.some.inj hx).symm⟩
  ·exact .inr hx
 refine ⟨{ m with H:=m.H++[.row e s 0 []],E:=fun i=>if i=m.H.length then some (.row (.slice none 0 0) e s 0 []) else m.E i },rfl,rfl,⟨⟨fun id x hx=>?_,fun i j x y hij hi hj g h1 h2=>?_,fun id x g t hx hg=>?_,hs.cx.lt⟩,fun id ob hob hk=>?_,fun t'=>?_,hs.size,hs.defers,hs.below,hs.base,hs.S,hs.T⟩⟩
 ·rcases get id x hx with ⟨rfl,rfl⟩|h1
  ·exact ⟨World.ownsRow_nil _ _ _ _,.row e s 0 [],by simp,rfl,rfl,rfl,AY.nil_⟩
  ·obtain ⟨h2,ob,h3,h4⟩:=hs.cx.each id x h1
   exact ⟨h2,ob,by rw [ee (gS.1 h3).1];exact h3,h4.le hle⟩
 ·rcases get i x hi with ⟨rfl,rfl⟩|h3
  ·simp [Et.own,Value.ownBlock] at h1
  ·rcases get j y hj with ⟨rfl,rfl⟩|h4
   ·simp [Et.own,Value.ownBlock] at h2
   ·exact hs.cx.apart i j x y hij h3 h4 g h1 h2
 ·rcases get id x hx with ⟨rfl,rfl⟩|h3
  ·simp [Et.own,Value.ownBlock] at hg
  ·exact hs.cx.far id x g t h3 hg
 ·show (if id=m.H.length then _ else m.E id).isSome=true
  split
  ·rfl
  ·rename_i hne
   have hob':(m.H++[.row e s 0 []])[id]?=some ob:=hob
   have hlt:=(gS.1 hob').1
   simp only [ak,bw,List.length_nil] at hlt
   rw [ee (by omega)] at hob'
   exact hs.tot id ob hob' hk
 ·rw [Hl]
  split
  ·rename_i ht
   cases ht
   have hv:=hs.frame t
   rw [h] at hv
   have hv':=Dg (m:=m) hv
   rw [hv']
   exact ⟨rfl,.row e s 0 [],by simp,(fun n n' h1 h2=>by cases h1;cases h2;exact aa _),fun _=>⟨.row (.slice none 0 0) e s 0 [],by simp,rfl⟩⟩
  ·exact (hs.frame t').le hle
def Ck (l:List Oper):List (Nat × Nat)→List Oper
 | []=>l
 | (k,p)::es=>Ck (Bm l k p) es
def Vo (md:Region.Mode) (l:List Oper):List (Nat × Nat)→Bool
 | []=>true
 | (k,p)::es=>AcH md l k p && Vo md (Bm l k p) es
theorem Nq (l:List Oper) (k p:Nat):(Bm l k p).length=l.length:=by simp [Bm]
theorem Gr:∀ (es:List (Nat × Nat)) (l:List Oper),(Ck l es).length=l.length
 | [],l=>rfl
 | (k,p)::es,l=>by
  unfold Ck
  rw [Gr es,Nq]
theorem Sf {k p:Nat} (h:n≤k):(Bm l k p).take n=l.take n:=by
 refine ek fun j=>?_
 simp only [ci,Bm,jp]
 by_cases hj:j<n
 ·rw [if_pos hj,if_pos hj]
  have hkj:¬ k=j:=by omega
  cases l[j]? <;> simp [hkj]
 ·rw [if_neg hj,if_neg hj]
theorem Sg {k p:Nat} (h:n≤k):(Bm l k p).drop n=(l.drop n).modify (k - n) fun o=>{ o with after:=o.after.push ⟨p,.data⟩ }:=by
 refine ek fun j=>?_
 simp only [bq,Bm,jp]
 have hkj:k=n+j ↔ k - n=j:=by omega
 cases l[n+j]? <;> simp [hkj]
section
variable {P:Program} {md:Region.Mode} {Q:Exit→Act→World→Prop}
theorem Sh (hQ:∀ (d:Option Tmp) v c a w,Q (.panic c) (Act.put a d v) w→Q (.panic c) a w):∀ (es:List (Nat × Nat)) (l:List Oper),Vo md l es=true→∀ (f:Nat) (listed:Array Bool) (a:Act) (w:World),listed.size=l.length →
  wpAny P md (Ck l es).toArray Q f listed a w→wpAny P md l.toArray Q f listed a w
 | [],_,_,_,_,_,_,_,h=>h
 | (k,p)::es,l,hB,f,listed,a,w,hs,h=>by
  simp only [Vo,ai] at hB
  exact Pj hB.1 hQ f listed a w hs (Sh hQ es _ hB.2 f listed a w (by rw [Nq];exact hs) h)
theorem Pk:∀ (es:List (Nat × Nat)) (l:List Oper) (n:Nat),(es.all fun e=>decide (n≤e.1))=true→(Ck l es).take n=l.take n
 | [],_,_,_=>rfl
 | (k,p)::es,l,n,h=>by
  simp only [List.all_cons,ai,decide_eq_true_eq] at h
  unfold Ck
  rw [Pk es _ n h.2,Sf h.1]
theorem Pm:∀ (es:List (Nat × Nat)) (l:List Oper) (n:Nat),(es.all fun e=>decide (n≤e.1))=true→wpList P (Ck l es).toArray Q ((Ck l es).drop n)=wpList P l.toArray Q (l.drop n)
 | [],_,_,_=>rfl
 | (k,p)::es,l,n,h=>by
  simp only [List.all_cons,ai,decide_eq_true_eq] at h
  unfold Ck
  rw [Pm es _ n h.2,Sg h.1]
  exact funext fun a=>funext fun w=>Ib _ _ a w
end
section
variable {P:Program} {G:World→Prop} {N:Nat} {F:Frm} {H:List Ob} {Q:Ye}
theorem Mp (n:Nat) (es:List (Nat × Nat)) (hm:P.follows .mixedOrders=true) (hB:(Rs N l && TT .any (l.take n).toArray && Li .any (Ck l es).toArray n && Vo .any l es && es.all fun e=>decide (n≤e.1))=true)
    (h:Ch P G (l.take n).toArray (l.take n) F H fun F' H'=>Ti P G l.toArray (l.drop n) F' H' (Q .normal)):CW P G N (.region id l.toArray true) F H Q:=fun b0 w0 S0 a m hG hH hs=>by
  subst hH
  simp only [ai] at hB
  obtain ⟨⟨⟨⟨hd,hC⟩,hp⟩,he⟩,hk⟩:=hB
  have hd1:Rs N (l.take n)=true:=List.all_eq_true.2 fun o ho=>List.all_eq_true.1 hd o (en ho)
  have hd2:Rs N (l.drop n)=true:=List.all_eq_true.2 fun o ho=>List.all_eq_true.1 hd o (ke ho)
  have hn:n<l.length:=by
    have:=hp
    simp only [Li,ai,decide_eq_true_eq,ki,Gr] at this
    exact this.1.1.1.1
  have hlen:(l.take n).length=n:=by simp;omega
  have hsz:(l.take n).toArray.size=n:=by simp;omega
  refine wp_region_noPanic (wp_region_any hm ?_)
  obtain ⟨Fs,Hs,xs,obs,h1,h2,h3,h4⟩:=h.seq
  have hs':=hs.drew
  let R:Exit→Act→World→Prop:=NoPanic fun e a w=>∃ F' m',m'.w=w∧St b0 N w0 S0 F' a m'∧Q e F' m'.H
  have key:wpAny P .any (l.take n).toArray (Mb P l.toArray R (l.drop n)) n (Array.replicate n false) a m.w.drew:=by
    refine TU (G:=G) (w0:=w0) (S0:=S0) (b0:=b0) hG hC (N:=N) (by simpa using hd1) (Fs:=Fs) (Hs:=Hs) (xs:=xs) (obs:=obs) (fun i o hi=>h4 i o (by simpa using hi)) (fun a' m' hH' hst=>?_) n (Array.replicate n false) a { m with w:=m.w.drew,H:=Hs n } ?_ (by simp [AcA])
    · rw [hsz] at hst hH'
      rw [hlen] at h3
      rw [←hH'] at h3
      exact Xb hG (l.drop n) (Fs n) a' m' (Q .normal) hd2 hst h3 fun F'' a'' m'' k1 k2=>⟨F'',m'',rfl,k1,k2⟩
    · have:=HM (P:=P) (G:=G) (ops:=(l.take n).toArray) (Fs:=Fs) (Hs:=Hs) (xs:=xs) (obs:=obs) (fun i o hi=>h4 i o (by simpa using hi)) (by rw [h1];exact hs') (m:={ m with w:=m.w.drew }) h2.symm
      rw [hsz] at this
      exact this
  have hPQ:Mb P (Ck l es).toArray R ((Ck l es).drop n)=Mb P l.toArray R (l.drop n):=by
    funext e a w
    cases e <;> first
      | (show wpList P _ R _ a w = wpList P _ R _ a w
         rw [Pm es l n hk])
      | rfl
  rw [←Pk es l n hk,←hPQ] at key
  have inv0:HeadInv .any (Ck l es).toArray n (Array.replicate (Ck l es).toArray.size false) :=
    ⟨by simp,fun j oj _ hl=>(by rw [getD_replicate_false] at hl;cases hl),fun t _ ht=>getD_in (by simpa using ht) (getD_replicate_false _ _)⟩
  have hall:=Lj hp n (Array.replicate (Ck l es).toArray.size false) (Array.replicate n false) a m.w.drew inv0 (by simp) (fun i _=>by rw [getD_replicate_false,getD_replicate_false]) key
  have hsl:(Ck l es).toArray.size=l.toArray.size:=by simp [Gr]
  rw [hsl,show n+(l.toArray.size - n)=l.toArray.size by simp;omega] at hall
  exact Sh (by intro _ _ _ _ _ h;exact h) es l he _ _ _ _ (by simp) hall
end
structure TyI (P:Program) (t:TypeId):Prop where
 h:P.underlying t=some (.interface (P.methodsAt t))
def cI (xs:List Int):List C:=xs.map fun z=>.d (.val (.int .i64 z))
theorem AkK (xs:List Int):(cI xs).length=xs.length:=by simp [cI]
theorem AoD {k:Nat} (h:xs[k]?=some z):((cI xs).drop (k*1))[0]?=some (.d (.val (.int .i64 z))):=by
 rw [cr,bq,bz]
 simp [cI,h]
theorem AkL (xs:List Int) (k:Nat) (z:Int):(cI xs).set (k*1) (.d (.val (.int .i64 z)))=cI (xs.set k z):=by
 rw [cr]
 simp [cI,fo]
theorem AkM (xs:List Int) (z:Int):cI xs++[.d (.val (.int .i64 z))]=cI (xs++[z]):=by simp [cI]
section
variable {P:Program} {G:World→Prop} {o:Oper} {F:Frm} {H:List Ob}
theorem Qp {op:BinOp} {t':TypeId} {x:Operand} {u:Value} (ho:o.op=.binOp op t x (.const .nilIface) t') (ht:TyI P t) (hx:F.ev x=.one (.d (.val u))) (hb:(op=.eql∧u=.nilIface∧b=true)∨(op=.neq∧u=.nilIface∧b=false)∨(op=.eql∧(∃ t v,u=.iface t v)∧b=false)∨(op=.neq∧(∃ t v,u=.iface t v)∧b=true)):AN P G o F H (.one (.d (.val (.bool b)))) []:=by
 have hu:=ht.h
 rcases hb with ⟨rfl,rfl,rfl⟩|⟨rfl,rfl,rfl⟩|⟨rfl,⟨t2,v,rfl⟩,rfl⟩|⟨rfl,⟨t2,v,rfl⟩,rfl⟩
 ·refine Da (y:=.const .nilIface) ho hx rfl (fun w=>?_) rfl
  have:=run_eql_nil_nil (P:=P) w t hu
  simp [eqGuard,this]
 ·refine Da (y:=.const .nilIface) ho hx rfl (fun w=>?_) rfl
  have:=run_neq_nil_nil (P:=P) w t hu
  simp [eqGuard,this]
 ·refine Da (y:=.const .nilIface) ho hx rfl (fun w=>?_) rfl
  have:=run_eql_held_nil (P:=P) w t t2 v hu
  simp [eqGuard,this]
 ·refine Da (y:=.const .nilIface) ho hx rfl (fun w=>?_) rfl
  have:=run_neq_held_nil (P:=P) w t t2 v hu
  simp [eqGuard,this]
end
theorem AE:TyK prog 3 false 1:=⟨⟨_,underlying3,rfl⟩,by kernel_rfl⟩
theorem CJ:TyZ prog 3 (.int .i64 0) 1 8:=⟨by kernel_rfl,rfl,by kernel_rfl⟩
theorem Fe:TyK prog 4 false 1:=⟨⟨_,underlying4,rfl⟩,by kernel_rfl⟩
theorem Zg:TyZ prog 4 (.bool false) 1 1:=⟨by kernel_rfl,rfl,by kernel_rfl⟩
theorem BV:TyK prog 126 false 1:=⟨⟨_,underlying126,rfl⟩,by kernel_rfl⟩
theorem Dh:TyZ prog 126 (.int .u32 0) 1 4:=⟨by kernel_rfl,rfl,by kernel_rfl⟩
theorem GU:TyK prog 5 false 1:=⟨⟨_,underlying5,rfl⟩,by kernel_rfl⟩
theorem BJ:TyK prog 24 false 1:=⟨⟨_,underlying24,rfl⟩,by kernel_rfl⟩
theorem BG:TyK prog 41 false 1:=⟨⟨_,underlying41,rfl⟩,by kernel_rfl⟩
theorem Nr:TyK prog 22 false 1:=⟨⟨_,underlying22,rfl⟩,by kernel_rfl⟩
theorem AP:TyK prog 23 false 1:=⟨⟨_,underlying23,rfl⟩,by kernel_rfl⟩
theorem BS:TyK prog 27 false 1:=⟨⟨_,underlying27,rfl⟩,by kernel_rfl⟩
theorem AK:TyK prog 28 false 1:=⟨⟨_,underlying28,rfl⟩,by kernel_rfl⟩
theorem BK:TyK prog 26 true 3:=⟨⟨_,underlying26,rfl⟩,by kernel_rfl⟩
theorem Pn:TyZ prog 26 (.agg #[.slice none 0 0,.slice none 0 0,.slice none 0 0]) 3 72:=⟨by kernel_rfl,rfl,by kernel_rfl⟩
theorem Ub:TyF prog 26 0 0 22:=⟨_,_,underlying26,rfl,rfl,rfl⟩
theorem BO:TyF prog 26 1 1 23:=⟨_,_,underlying26,rfl,rfl,rfl⟩
theorem FN:TyF prog 26 2 2 24:=⟨_,_,underlying26,rfl,rfl,rfl⟩
theorem Xg:TyB prog 26 [(0,1),(1,1),(2,1)] [.slice none 0 0,.slice none 0 0,.slice none 0 0]:=⟨⟨_,underlying26,by kernel_rfl⟩,by kernel_rfl,by kernel_rfl⟩
theorem CA:TyK prog 30 true 3:=⟨⟨_,underlying30,rfl⟩,by kernel_rfl⟩
theorem Ns:TyZ prog 30 (.agg #[.slice none 0 0,.slice none 0 0,.slice none 0 0]) 3 72:=⟨by kernel_rfl,rfl,by kernel_rfl⟩
theorem Mq:TyF prog 30 0 0 24:=⟨_,_,underlying30,rfl,rfl,rfl⟩
theorem Qq:TyF prog 30 1 1 27:=⟨_,_,underlying30,rfl,rfl,rfl⟩
theorem DA:TyF prog 30 2 2 28:=⟨_,_,underlying30,rfl,rfl,rfl⟩
theorem Qr:TyB prog 30 [(0,1),(1,1),(2,1)] [.slice none 0 0,.slice none 0 0,.slice none 0 0]:=⟨⟨_,underlying30,by kernel_rfl⟩,by kernel_rfl,by kernel_rfl⟩
theorem Bb:TyK prog 34 true 2:=⟨⟨_,underlying34,rfl⟩,by kernel_rfl⟩
theorem CL:TyZ prog 34 (.agg #[.int .i64 0,.int .i64 0]) 2 16:=⟨by kernel_rfl,rfl,by kernel_rfl⟩
theorem Dq:TyB prog 34 [(0,1),(1,1)] [.int .i64 0,.int .i64 0]:=⟨⟨_,underlying34,by kernel_rfl⟩,by kernel_rfl,by kernel_rfl⟩
theorem Aa:TyK prog 43 true 3:=⟨⟨_,underlying43,rfl⟩,by kernel_rfl⟩
theorem Aj:TyZ prog 43 (.agg #[.bool false,.slice none 0 0,.int .i64 0]) 3 40:=⟨by kernel_rfl,rfl,by kernel_rfl⟩
theorem Xh:TyF prog 43 0 0 4:=⟨_,_,underlying43,rfl,rfl,rfl⟩
theorem Er:TyF prog 43 1 1 41:=⟨_,_,underlying43,rfl,rfl,rfl⟩
theorem Fk:TyF prog 43 2 2 3:=⟨_,_,underlying43,rfl,rfl,rfl⟩
theorem Fl:TyB prog 43 [(0,1),(1,1),(2,1)] [.bool false,.slice none 0 0,.int .i64 0]:=⟨⟨_,underlying43,by kernel_rfl⟩,by kernel_rfl,by kernel_rfl⟩
theorem Ac:TyK prog 45 true 6:=⟨⟨_,underlying45,rfl⟩,by kernel_rfl⟩
theorem Ak:TyZ prog 45 (.agg #[.bool false,.slice none 0 0,.int .i64 0,.bool false,.slice none 0 0,.int .i64 0]) 6 80:=⟨by kernel_rfl,rfl,by kernel_rfl⟩
theorem Ce:TyF prog 45 0 0 43:=⟨_,_,underlying45,rfl,rfl,rfl⟩
theorem AM:TyF prog 45 1 3 43:=⟨_,_,underlying45,rfl,rfl,rfl⟩
theorem Cu:TyB prog 45 [(0,3),(3,3)] [.bool false,.slice none 0 0,.int .i64 0,.bool false,.slice none 0 0,.int .i64 0]:=⟨⟨_,underlying45,by kernel_rfl⟩,by kernel_rfl,by kernel_rfl⟩
theorem AU:TyK prog 61 true 2:=⟨⟨_,underlying61,rfl⟩,by kernel_rfl⟩
theorem DU:TyF prog 61 0 0 3:=⟨_,_,underlying61,rfl,rfl,rfl⟩
theorem Es:TyF prog 61 1 1 3:=⟨_,_,underlying61,rfl,rfl,rfl⟩
theorem Gs:TyB prog 61 [(0,1),(1,1)] [.int .i64 0,.int .i64 0]:=⟨⟨_,underlying61,by kernel_rfl⟩,by kernel_rfl,by kernel_rfl⟩
theorem Bi:TyK prog 63 true 6:=⟨⟨_,underlying63,rfl⟩,by kernel_rfl⟩
theorem Bt:TyZ prog 63 (.agg #[.int .i64 0,.slice none 0 0,.int .i64 0,.int .i64 0,.int .i64 0,.int .i64 0]) 6 64:=⟨by kernel_rfl,rfl,by kernel_rfl⟩
theorem Ed:TyF prog 63 0 0 3:=⟨_,_,underlying63,rfl,rfl,rfl⟩
theorem Nt:TyF prog 63 1 1 24:=⟨_,_,underlying63,rfl,rfl,rfl⟩
theorem Ex:TyF prog 63 2 2 61:=⟨_,_,underlying63,rfl,rfl,rfl⟩
theorem Ee:TyF prog 63 3 4 61:=⟨_,_,underlying63,rfl,rfl,rfl⟩
theorem Mr:TyB prog 63 [(0,1),(1,1),(2,2),(4,2)] [.int .i64 0,.slice none 0 0,.int .i64 0,.int .i64 0,.int .i64 0,.int .i64 0]:=⟨⟨_,underlying63,by kernel_rfl⟩,by kernel_rfl,by kernel_rfl⟩
theorem Ic:TyK prog 81 true 3:=⟨⟨_,underlying81,rfl⟩,by kernel_rfl⟩
theorem Nu:TyZ prog 81 (.agg #[.int .i64 0,.int .i64 0,.int .i64 0]) 3 24:=⟨by kernel_rfl,rfl,by kernel_rfl⟩
theorem Qs:TyF prog 81 0 0 3:=⟨_,_,underlying81,rfl,rfl,rfl⟩
theorem IE:TyF prog 81 1 1 3:=⟨_,_,underlying81,rfl,rfl,rfl⟩
theorem Ms:TyF prog 81 2 2 3:=⟨_,_,underlying81,rfl,rfl,rfl⟩
theorem Ahp:TyB prog 81 [(0,1),(1,1),(2,1)] [.int .i64 0,.int .i64 0,.int .i64 0]:=⟨⟨_,underlying81,by kernel_rfl⟩,by kernel_rfl,by kernel_rfl⟩
theorem Ad:TyS prog 24 3 1:=⟨underlying24,by kernel_rfl⟩
theorem Ey:TyS prog 104 4 1:=⟨underlying104,by kernel_rfl⟩
theorem Bw:TyS prog 41 126 1:=⟨underlying41,by kernel_rfl⟩
theorem Di:TyS prog 22 81 3:=⟨underlying22,by kernel_rfl⟩
theorem Ai:TyS prog 23 63 6:=⟨underlying23,by kernel_rfl⟩
theorem Ag:TyS prog 27 45 6:=⟨underlying27,by kernel_rfl⟩
theorem Af:TyS prog 28 43 3:=⟨underlying28,by kernel_rfl⟩
theorem Al:TyI prog 36:=⟨by kernel_rfl⟩
def AkN (w w':World):Eh:=fun t b=>t=false∧w.heap.size≤b∧b<w'.heap.size
def CVF (P:Program) (G:World→Prop) (f:FuncId) (args res:List A):Prop :=
 ∀ (w:World) (S:Eh) (vs:List Value),G w→(∀ t b,S t b→b<w.heap.size)→AY (EM w S) args vs →
  Calls P f vs.toArray w fun e w'=>∃ v,e=.returned v∧Acy w' (AkN w w') res v∧Below w.heap.size w w'
theorem Acy.mono {w w':World} {S S':Eh} (hS:∀ t b,S t b→S' t b) (hw:∀ t b,S t b→w'.heap[b]?=w.heap[b]?) {res:List A} {v:Value} (h:Acy w S res v):Acy w' S' res v:=by
 match res,h with
 | [],h=>obtain ⟨vs,h1,h2⟩:=h;exact ⟨vs,h1,h2.imp fun _ _=>EM.mono hS hw⟩
 | [x],h=>exact EM.mono hS hw h
 | x::y::l,h=>obtain ⟨vs,h1,h2⟩:=h;exact ⟨vs,h1,h2.imp fun _ _=>EM.mono hS hw⟩
theorem CVF.cv {P:Program} {G:World→Prop} {args res:List A} (h:CVF P G f args res):CV P G f args res:=fun w S vs hg hlt ha =>
 (h w S vs hg hlt ha).mono fun e w' ⟨v,h1,h2,h3⟩=>⟨v,h1,h2.mono (fun t b hb=>⟨hb.1,.inr hb.2⟩) (fun _ _ _=>rfl),h3⟩
def dI (z:Int):D:=.val (.int .i64 z)
def dB (b:Bool):D:=.val (.bool b)
def aI (z:Int):A:=.one (dI z)
def aB (b:Bool):A:=.one (dB b)
def Bd (t:Bool) (xs:List Int):D:=.row t 1 xs.length (xs.map dI)
def Av {α:Type} (f:α→List D) (l:List α):List D:=(l.map f).flatten
theorem Nv {α:Type} (f:α→List D) (a b:List α):Av f (a++b)=Av f a++Av f b:=by simp [Av]
theorem FO {α:Type} {f:α→List D} {s:Nat} (hf:∀ x,(f x).length=s):∀ {l:List α} {k:Nat} {x:α},l[k]?=some x→((Av f l).drop (k*s)).take s=f x
 | [],k,x,h=>by simp at h
 | y::l,0,x,h=>by
  simp only [gk,Option.some.injEq] at h
  subst h
  simp only [Av,bp,fz,fc,im]
  rw [jq (by rw [hf];exact aa _),al (by rw [hf];exact aa _)]
 | y::l,k+1,x,h=>by
  simp only [ew] at h
  have ih:=FO hf h
  simp only [Av,bp,fz] at ih ⊢
  rw [←ih,show (k+1)*s=(f y).length+k*s by rw [hf,bj];omega,List.drop_append]
  rw [List.drop_of_length_le (by omega),dz]
  congr 2
  omega
theorem AeZ {α:Type} {f:α→D} {l:List α} {k:Nat} {x:α} (h:l[k]?=some x):((l.map f).drop (k*1)).take 1=[f x]:=by
 rw [cr]
 have hk:=(gS.1 h).1
 rw [←List.map_drop,←List.map_take,dv hk]
 have:l[k]=x:=(gS.1 h).2
 simp [this]
section
variable {P:Program} {G:World→Prop} {N:Nat} {ops:Array Oper} {o:Oper} {F:Frm} {H:List Ob} {Q:Ye} {K:Frm→List Ob→Prop}
theorem AcI (h:Q .normal F H):Hm i Q (.exit i) F H:=by
 show (match Nat.beq i i with|true=>Q .normal F H|false=>Q (.exit i) F H)
 rw [fb]
 exact h
theorem AcJ (hij:Nat.beq j i=false) (h:Q (.exit j) F H):Hm i Q (.exit j) F H:=by
 show (match Nat.beq j i with|true=>Q .normal F H|false=>Q (.exit j) F H)
 rw [hij]
 exact h
theorem AkO {t:Tmp} {x:X} (hg:o.guard=some (j,want)) (hj:ops[j]?=some oj) (ht:oj.dst=some t) (hF:F t=.one (.d (.val (.bool bb)))) (hb:(bb == want)=true) (h:TOk P G o F H x H2) (k:Ti P G ops l (F.put o.dst x) H2 K):Ti P G ops (o::l) F H K :=
 .inr ⟨by unfold Cs;rw [hg];exact ⟨oj,t,hj,ht,.inl ⟨bb,hF,hb.symm⟩⟩,x,H2,h,k⟩
theorem AkP {t:Tmp} {x:X} {obs:List Ob} (hg:o.guard=some (j,want)) (hj:ops[j]?=some oj) (ht:oj.dst=some t) (hF:F t=.one (.d (.val (.bool bb)))) (hb:(bb == want)=true) (h:AN P G o F H x obs) (k:Ch P G ops l (F.put o.dst x) (H++obs) K):Ch P G ops (o::l) F H K :=
 .inr ⟨by unfold Cs;rw [hg];exact ⟨oj,t,hj,ht,.inl ⟨bb,hF,hb.symm⟩⟩,x,obs,h,k⟩
theorem AkQ {t:Tmp} (hg:o.guard=some (j,want)) (hj:ops[j]?=some oj) (ht:oj.dst=some t) (hF:F t=.one (.d (.val (.bool bb)))) (hb:(bb == want)=false):Cs ops o F false:=by unfold Cs;rw [hg];exact ⟨oj,t,hj,ht,.inl ⟨bb,hF,hb.symm⟩⟩
theorem Zh {t:Tmp} (hg:o.guard=some (j,want)) (hj:ops[j]?=some oj) (ht:oj.dst=some t) (hF:F t=.tup []):Cs ops o F false:=by unfold Cs;rw [hg];exact ⟨oj,t,hj,ht,.inr ⟨hF,rfl⟩⟩
theorem Ahq (hw:Cs ops o F false) (hd:o.dst=some d) (k:Ti P G ops l (F.put (some d) (.tup [])) H K):Ti P G ops (o::l) F H K:=.inl ⟨hw,by rw [congrArg (fun q=>F.put q (X.tup [])) hd];exact k⟩
theorem Ahr (hw:Cs ops o F false) (hd:o.dst=some d) (k:Ch P G ops l (F.put (some d) (.tup [])) H K):Ch P G ops (o::l) F H K:=.inl ⟨hw,by rw [congrArg (fun q=>F.put q (X.tup [])) hd];exact k⟩
theorem Xi {p:Prop} (h:p:=by
 rw [congrArg (fun q=>F.put q x) hd]
 exact k):p:=h
theorem AoE {x:X} (hg:o.guard=none) (hd:o.dst=some d) (h:AN P G o F H x []) (k:Ti P G ops l (F.put (some d) x) H K):Ti P G ops (o::l) F H K:=by
 refine Aku hg h ?_
 exact Xi
theorem ti_n {x:X} (hg:o.guard=none) (hd:o.dst=some d) (h:AN P G o F H x [ob]) (k:Ti P G ops l (F.put (some d) x) (H++[ob]) K):Ti P G ops (o::l) F H K:=by
 refine Akt hg h ?_
 exact Xi
theorem ti_s {x:X} (hg:o.guard=none) (hd:o.dst=none) (h:TOk P G o F H x H2) (k:Ti P G ops l F H2 K):Ti P G ops (o::l) F H K:=by
 have hp:F.put o.dst x=F:=by rw [hd];rfl
 refine Qk hg h ?_
 rw [hp]
 exact k
theorem ti_t {x:X} (hg:o.guard=none) (hd:o.dst=some d) (h:TOk P G o F H x H2) (k:Ti P G ops l (F.put (some d) x) H2 K):Ti P G ops (o::l) F H K:=by
 refine Qk hg h ?_
 exact Xi
theorem AoF {x:X} (hg:o.guard=none) (hd:o.dst=some d) (h:AN P G o F H x []) (k:Ch P G ops l (F.put (some d) x) H K):Ch P G ops (o::l) F H K:=by
 refine Acz hg h ?_
 exact Xi
theorem ch_n {x:X} (hg:o.guard=none) (hd:o.dst=some d) (h:AN P G o F H x [ob]) (k:Ch P G ops l (F.put (some d) x) (H++[ob]) K):Ch P G ops (o::l) F H K:=by
 refine Ahe hg h ?_
 exact Xi
theorem Vp {x:Operand} {c:C} (ho:o.op=.move x) (hx:F.ev x=.one c):AN P G o F H (.one c) []:=by rw [←hx];exact TX ho
theorem Vq {x:Operand} {l:List A} (ho:o.op=.move x) (hx:F.ev x=.tup l):AN P G o F H (.tup l) []:=by rw [←hx];exact TX ho
theorem Vr {x:Operand} {c:C} (ho:o.op=.assign x) (hx:F.ev x=.one c):AN P G o F H (.one c) []:=by rw [←hx];exact YY ho
theorem AkR {x:Operand} {l:List A} {d:D} (ho:o.op=.extract x i) (hx:F.ev x=.tup l) (hy:l[i]?=some (.one d)):AN P G o F H (.one (.d d)) []:=Pi ho hx hy
theorem DB {x:Operand} {l:List A} {ds:List D} (ho:o.op=.extract x i) (hx:F.ev x=.tup l) (hy:l[i]?=some (.agg ds)):AN P G o F H (.agg (ds.map .d)) []:=Pi ho hx hy
theorem AcK {c x:Operand} {v:C} (ho:o.op=.pick c x y) (hc:F.ev c=.one (.d (.val (.bool true)))) (hx:F.ev x=.one v):AN P G o F H (.one v) []:=by
 have:=Zb (P:=P) (G:=G) (H:=H) ho hc
 dsimp only at this
 rwa [hx] at this
theorem AcL {c x:Operand} {v:C} (ho:o.op=.pick c x y) (hc:F.ev c=.one (.d (.val (.bool false)))) (hx:F.ev y=.one v):AN P G o F H (.one v) []:=by
 have:=Zb (P:=P) (G:=G) (H:=H) ho hc
 dsimp only at this
 rwa [hx] at this
theorem AoG {t:Tmp} {x:X} (hg:o.guard=some (j,want)) (hd:o.dst=some d) (hj:ops[j]?=some oj) (ht:oj.dst=some t) (hF:F t=.one (.d (.val (.bool bb)))) (hb:(bb == want)=true) (h:AN P G o F H x []) (k:Ti P G ops l (F.put (some d) x) H K):Ti P G ops (o::l) F H K:=by
 have h':=h.tok
 rw [az] at h'
 refine AkO hg hj ht hF hb h' ?_
 exact Xi
theorem AoH {t:Tmp} {x:X} (hg:o.guard=some (j,want)) (hd:o.dst=some d) (hj:ops[j]?=some oj) (ht:oj.dst=some t) (hF:F t=.one (.d (.val (.bool bb)))) (hb:(bb == want)=true) (h:AN P G o F H x []) (k:Ch P G ops l (F.put (some d) x) H K):Ch P G ops (o::l) F H K:=by
 refine AkP hg hj ht hF hb h ?_
 rw [congrArg (fun q=>F.put q x) hd,az]
 exact k
theorem AN.tok0 {x:X} (h:AN P G o F H x []):TOk P G o F H x H:=by
 have:=h.tok
 rwa [az] at this
section
variable {t t':TypeId} {x y:Operand} {k:IntKind} {p q:Int} {b:Bool}
theorem Ahs (ho:o.op=.binOp .eql t x y t') (hx:F.ev x=.one (.d (.val (.int k p)))) (hy:F.ev y=.one (.d (.val (.int k q)))) (hb:(p == q)=b):AN P G o F H (.one (.d (.val (.bool b)))) []:=hb ▸ AkB ho hx hy
theorem Uc (ho:o.op=.binOp .neq t x y t') (hx:F.ev x=.one (.d (.val (.int k p)))) (hy:F.ev y=.one (.d (.val (.int k q)))) (hb:(p != q)=b):AN P G o F H (.one (.d (.val (.bool b)))) []:=hb ▸ AkC ho hx hy
theorem Aht (ho:o.op=.binOp .lss t x y t') (hx:F.ev x=.one (.d (.val (.int k p)))) (hy:F.ev y=.one (.d (.val (.int k q)))) (hb:decide (p<q)=b):AN P G o F H (.one (.d (.val (.bool b)))) []:=hb ▸ Za ho hx hy
theorem Ahu (ho:o.op=.binOp .leq t x y t') (hx:F.ev x=.one (.d (.val (.int k p)))) (hy:F.ev y=.one (.d (.val (.int k q)))) (hb:decide (p≤q)=b):AN P G o F H (.one (.d (.val (.bool b)))) []:=hb ▸ AkD ho hx hy
theorem Qt (ho:o.op=.binOp .gtr t x y t') (hx:F.ev x=.one (.d (.val (.int k p)))) (hy:F.ev y=.one (.d (.val (.int k q)))) (hb:decide (q<p)=b):AN P G o F H (.one (.d (.val (.bool b)))) []:=hb ▸ AeW ho hx hy
theorem Ahv (ho:o.op=.binOp .geq t x y t') (hx:F.ev x=.one (.d (.val (.int k p)))) (hy:F.ev y=.one (.d (.val (.int k q)))) (hb:decide (q≤p)=b):AN P G o F H (.one (.d (.val (.bool b)))) []:=hb ▸ AkE ho hx hy
end
theorem OP (h:p=q):(p == q)=true:=by rw [h];exact beq_self_eq_true q
theorem Si (h:p≠q):(p == q)=false:=beq_eq_false_iff_ne.2 h
theorem Ie (h:p≠q):(p != q)=true:=by simp [bne,Si h]
theorem OQ (h:p=q):(p != q)=false:=by simp [bne,OP h]
theorem AcM {p:Prop} [Decidable p] (h:p):decide p=true:=decide_eq_true h
theorem AcN {p:Prop} [Decidable p] (h:¬ p):decide p=false:=decide_eq_false h
theorem Ax {fn:Func} {res:List A} {rs:List ResultVar} (hr:fn.results.toList=rs) (h:AY (RV P F H) rs res):AoA P fn res .ret F H:=⟨.inl rfl,by rw [hr];exact h⟩
theorem Qu {t:Tmp} {z':Int} (hF:F t=.one (.d (.val (.int .i64 z)))) (hz:z=z'):RV P F H (.tmp t) (aI z'):=.tmp (by rw [hF,hz];exact .one (.d fun _=>.val _))
theorem DD {t:Tmp} {z z':Bool} (hF:F t=.one (.d (.val (.bool z)))) (hz:z=z'):RV P F H (.tmp t) (aB z'):=.tmp (by rw [hF,hz];exact .one (.d fun _=>.val _))
end
section
variable {P:Program} {G:World→Prop} {o:Oper} {F:Frm} {H:List Ob}
theorem IG {x:Operand} {k:Nat} {cy:List C} (ho:o.op=.store t x y) (hx:F.ev x=.one (.ref id off kk)) (hH:H[id]?=some ob) (hk:ob.k=some kk) (hy:Ek (F.ev y)=some cy) (hty:TyK P t b k) (hlen:Nat.beq cy.length k=true) (hoff:off+cy.length≤ob.cs.length) :
  TOk P G o F H .any (H.set id (ob.setC (ob.cs.take off++cy++ob.cs.drop (off+cy.length)))):=by
 have hlen:=ej hlen
 subst hlen
 exact Vm ho hx hH hk hy hty hoff
theorem Po {x:Operand} {tg:Bool} {cs es:List D} {k:IntKind} (ho:o.op=.indexAddr t x y) (hx:F.ev x=.one (.d (.row tg s n cs))) (hy:F.ev y=.one (.d (.val (.int k z)))) (hz:z=(i:Int)) (ht:TyS P t e s) (hi:i<n) (hs:0<s) (hes:(cs.drop (i*s)).take s=es):AN P G o F H (.one (.d (.ptr tg es))) []:=by
 subst hz
 exact LO ho hx hy ht .row hi hs (.row hes)
theorem LP {x:Operand} {cs:List C} {k:IntKind} (ho:o.op=.indexAddr t x y) (hx:F.ev x=.one (.own id n)) (hH:H[id]?=some (.row ty s n cs)) (hy:F.ev y=.one (.d (.val (.int k z)))) (hz:z=(i:Int)) (ht:TyS P t e s) (hi:i<n) (hs:0<s):AN P G o F H (.one (.ref id (i*s) (some n))) []:=by
 subst hz
 exact LO ho hx hy ht (.own hH) hi hs (.own hH)
theorem AkS {x:Operand} {k:Nat} (ho:o.op=.load t x) (hx:F.ev x=.one (.ref id (i*1) (some n))) (hH:H[id]?=some (.row ty s n (cI xs))) (hz:xs[i]?=some z) (hk:TyK P t false k):AN P G o F H (.one (.d (.val (.int .i64 z)))) [] :=
 Mo ho hx (.row hH) (AoD hz) hk
theorem AkT {x:Operand} (ho:o.op=.store t x y) (hx:F.ev x=.one (.ref id (i*1) (some n))) (hH:H[id]?=some (.row ty s n (cI xs))) (hy:F.ev y=.one (.d (.val (.int .i64 z)))) (hty:TyK P t b 1) (hi:i<xs.length) {ys:List Int} (hys:xs.set i z=ys):TOk P G o F H .any (H.set id (.row ty s n (cI ys))):=by
 have:=IB (P:=P) (G:=G) ho hx hH rfl hy hty (by simp [Ob.cs,AkK,hi])
 simp only [Ob.cs,Ob.setC,AkL,hys] at this
 exact this
theorem Sj {x:Operand} {id':Nat} {ty':TypeId} {z:Value} {ys:List Int} {u:Int} {n':Nat} (ho:o.op=.call { callee:=.builtin .append,args:=#[x,y],argTypes:=#[t,t] }) (hx:F.ev x=.one (.own id n)) (hH:H[id]?=some (.row e 1 n (cI xs))) (hy:F.ev y=.one (.own id' 1)) (hH':H[id']?=some (.row ty' 1 1 [.d (.val (.int .i64 u))])) (hne:Nat.beq id' id=false) (ht:TyS P t e 1) (hz:TyZ P e z 1 by_) (hn:n+1≤100000000000) (hby:by_≤1000) (hys:xs++[u]=ys) (hn':n+1=n'):TOk P G o F H (.one (.own id n')) (H.set id (.row e 1 n' (cI ys))):=by
 subst hys
 subst hn'
 have:=RY (P:=P) (G:=G) ho hx hH hy (.own hH' (fun h=>by rw [h,fb] at hne;cases hne)) ht hz hn (by omega) hby rfl
 rwa [AkM] at this
end
section
variable {P:Program} {G:World→Prop} {o:Oper} {F:Frm} {H:List Ob}
theorem Cf {x:Operand} {z:Value} {cs:List C} (ho:o.op=.buildSlice t 1 #[(0,x)]) (ht:TyS P t e s) (hz:TyZ P e z s by_) (hx:Ek (F.ev x)=some cs) (hcs:Nat.beq cs.length s=true) (hs:s≤1000) (h0:0<s):AN P G o F H (.one (.own H.length 1)) [.row e s 1 cs]:=by
 have hc:=ej hcs
 have hl:(Em (madeCells z.cells (1*s)).toList).length=s:=by simp [Em,madeCells]
 refine FM (ps:=[(0,cs)]) ho ht hz (by omega) (by decide) (by simp [Hn,hx]) ?_ (by omega) h0
 unfold Gi
 simp only [hcs,fc,bo,hc,hl,Gi]
 rw [show Nat.ble s s=true from Nat.ble_eq ▸ aa _,show Nat.beq s s=true from fb _]
 simp only [jr,dz,gc (gp hl),az]
theorem Gu {x:Operand} {z:Value} {cs cs':List C} (ho:o.op=.buildSlice t 2 #[(0,x),(1,y)]) (ht:TyS P t e s) (hz:TyZ P e z s by_) (hx:Ek (F.ev x)=some cs) (hy:Ek (F.ev y)=some cs') (hcs:Nat.beq cs.length s=true) (hcs':Nat.beq cs'.length s=true) (hs:s≤1000) (h0:0<s):AN P G o F H (.one (.own H.length 2)) [.row e s 2 (cs++cs')]:=by
 have hc:=ej hcs
 have hc':=ej hcs'
 have hl:(Em (madeCells z.cells (2*s)).toList).length=2*s:=by simp [Em,madeCells]
 refine FM (ps:=[(0,cs),(1,cs')]) ho ht hz (by omega) (by decide) (by simp [Hn,hx,hy]) ?_ (by simp;omega) h0
 unfold Gi
 simp only [fc,bo,hc,hl,jr,dz]
 rw [show Nat.ble s (2*s)=true from Nat.ble_eq ▸ (by omega),show Nat.beq s s=true from fb _]
 simp only []
 unfold Gi
 simp only [Nat.one_mul,hc',ak,iq,hc,hl]
 rw [show Nat.ble (s+s) (s+(2*s - s))=true from Nat.ble_eq ▸ (by omega),show Nat.beq s s=true from fb _]
 simp only [Gi]
 have hX:(List.drop s (Em (madeCells z.cells (2*s)).toList)).length=s:=by rw [iq,hl];omega
 rw [gc (i:=s+s) (h:=by rw [ak,hX];omega),az,jq (by omega),al (by omega)]
theorem Vs {x:Operand} {id' m' n':Nat} {ty':TypeId} {z:Value} {cs news cs2:List C} (ho:o.op=.call { callee:=.builtin .append,args:=#[x,y],argTypes:=#[t,t] }) (hx:F.ev x=.one (.own id n)) (hH:H[id]?=some (.row e s n cs)) (hy:F.ev y=.one (.own id' m')) (hH':H[id']?=some (.row ty' s m' news)) (hne:Nat.beq id' id=false) (ht:TyS P t e s) (hz:TyZ P e z s by_) (hn:n+m'≤100000000000) (hby:by_≤1000) (h0:0<s) (hl:Nat.beq news.length (m'*s)=true) (hys:cs++news=cs2) (hn':n+m'=n'):TOk P G o F H (.one (.own id n')) (H.set id (.row e s n' cs2)):=by
 subst hys
 subst hn'
 exact RY ho hx hH hy (.own hH' (fun h=>by rw [h,fb] at hne;cases hne)) ht hz hn h0 hby (ej hl)
end
theorem AV:prog.follows .mixedOrders=true:=by kernel_rfl
section
variable {α β:Type} {R:α→β→Prop} {t:Bool} {H:List Ob}
theorem Au {l:List α} {m:List β} {a:α} {b:β} {aS':List α} {bs':List β} (h1:l=a::aS') (h2:m=b::bs') (h:R a b) (hl:AY R aS' bs'):AY R l m:=by rw [h1,h2];exact AY.cons_ h hl
theorem Bh {l:List α} {m:List β} (h1:l=[]) (h2:m=[]):AY R l m:=by rw [h1,h2];exact AY.nil_
theorem DM {x:X} {y:A} {c:C} {d:D} (hx:x=.one c) (hy:y=.one d) (h:Fd t H c d):Ip t H x y:=by rw [hx,hy];exact .one h
theorem BW {x:X} {y:A} {cs:List C} {ds:List D} (hx:x=.agg cs) (hy:y=.agg ds) (h:AY (Fd t H) cs ds):Ip t H x y:=by rw [hx,hy];exact .agg h
theorem AX {c:C} {x:D} (hc:c=.d x) (h:t=false→DQ x):Fd t H c x:=by rw [hc];exact .d h
theorem Ho {c:C} {y:D} {t':Bool} (hc:c=.d (.val (.slice none 0 0))) (hy:y=.row t' s 0 []):Fd t H c y:=by rw [hc,hy];exact .nil
theorem Cg {c:C} {y:D} {ty:Nat} {cs:List C} {ds:List D} (hc:c=.own id n) (hH:H[id]?=some (.row ty s n cs)) (hy:y=.row t s n ds) (h:AY (Fd t H) cs ds):Fd t H c y:=by rw [hc,hy];exact .own hH h.1 h.2
end
structure FnOk (P:Program) (f:FuncId):Prop where
 h : ∃ fn c, P.funcs[f]? = some fn ∧ (fn.name == "runtime.NumGoroutine") = false ∧ fn.body = some c
section
variable {P:Program} {G:World→Prop} {o:Oper} {F:Frm} {H:List Ob}
theorem AoI {xs:Array Operand} {ts:Array TypeId} {args res:List A} {x:X} (hf:FnOk P f) (h:CV P G f args res) (ho:o.op=.call { callee:=.value (.func f),args:=xs,argTypes:=ts }) (ha:AY (fun x y=>Ip true H (F.ev x) y) xs.toList args) (hx:Ahk res=x):AN P G o F H x []:=by
 obtain ⟨fn,c,h1,h2,h3⟩:=hf.h
 rw [←hx]
 exact Ahl ho h1 h2 h3 h ha
end
def C.belB (n:Nat):C→Bool
 | .d _=>true
 | .own id _=>Nat.ble (id+1) n
 | .ref id _ _=>Nat.ble (id+1) n
 | .clo _ caps=>caps.all fun p=>Nat.ble (p.1+1) n
 | .emp=>true
def X.belB (n:Nat):X→Bool
 | .one c=>c.belB n
 | .agg cs=>cs.all (C.belB n)
 | .tup _=>true
 | .any=>true
 | .pin l=>l.all fun p=>Nat.ble (p.1+1) n
 | .tupC _=>false
theorem Zi {c:C} (h:c.belB n=true):c.bel n:=by
 cases c with
 | d x=>trivial
 | own id k=>exact bi h
 | ref id off k=>exact bi h
 | clo fn caps=>exact fun p hp=>bi (List.all_eq_true.1 h p hp)
 | emp=>trivial
theorem AkU {x:X} (h:x.belB n=true):x.bel n:=by
 cases x with
 | one c=>exact Zi h
 | agg cs=>exact fun c hc=>Zi (List.all_eq_true.1 h c hc)
 | tup l=>trivial
 | any=>trivial
 | pin l=>exact fun p hp=>bi (List.all_eq_true.1 h p hp)
 | tupC l=>cases h
def Sk (F:Frm) (n:Nat):List (Nat × X)→Prop
 | []=>True
 | (s,x)::l=>F s=x∧x.belB n=true∧Sk F n l
theorem Vt {F:Frm} {n:Nat}:∀ {l:List (Nat × X)},Sk F n l→Vn F n l
 | [],_=>trivial
 | (s,x)::l,h=>⟨h.1,AkU h.2.1,Vt h.2.2⟩
def Aoc (n:Nat):List Ob→Prop
 | []=>True
 | ob::l=>(∀ c∈ob.cs,C.bel n c)∧Aoc n l
theorem Zj {n:Nat}:∀ {l:List Ob},Aoc n l→∀ ob∈l,∀ c∈ob.cs,C.bel n c
 | [],_,ob,h=>by cases h
 | o::l,h,ob,hm=>by
  rcases List.mem_cons.1 hm with rfl|hm
  ·exact h.1
  ·exact Zj h.2 ob hm
theorem CN {cs:List C} (h:cs.all (C.belB n)=true):∀ c∈cs,C.bel n c:=fun c hc=>Zi (List.all_eq_true.1 h c hc)
theorem Nx:∀ c∈cI xs,C.bel n c:=fun c hc=>by obtain ⟨z,_,rfl⟩:=List.mem_map.1 hc;trivial
theorem AoJ {ds:List D}:∀ c∈ds.map C.d,C.bel n c:=fun c hc=>by obtain ⟨z,_,rfl⟩:=List.mem_map.1 hc;trivial
theorem Ls (l:List (Nat × X)) (n:Nat) (hH:H.take n=H') (h:Sk F n l) (hb:Aoc n H'):Wk N F H (ofL l) H':=by
 subst hH
 exact AoC l n (Vt h) (Zj hb)
theorem Bu {l:List (Nat × X)} (n:Nat) (hH:H.take n=H':=by rfl) (h:Sk F n l:=by exact mB rfl rfl) (hb:Aoc n H':=by repeat' first|exact trivial|exact CN rfl|exact Nx|exact AdA|exact Aao|exact AoJ|exact AiO|exact Afi|exact Zx|refine ⟨?_,?_⟩):Wk N F H (ofL l) H':=Ls l n hH h hb
section
variable (P:Program) (G:World→Prop) (ops:Array Oper)
def Ch2:List Oper→Frm→List Ob→List Ob→(Frm→Prop)→Prop
 | [],F,_,_,K=>K F
 | o::l,F,H,H',K=>(Cs ops o F false∧Ch2 l (F.put o.dst (.tup [])) H H' K)∨(Cs ops o F true∧∃ x,AN P G o F H x []∧AN P G o F H' x []∧Ch2 l (F.put o.dst x) H H' K)
end
section
variable {P:Program} {G:World→Prop} {ops:Array Oper}
theorem AkV {K:Frm→Prop} (h:K F):Ch2 P G ops [] F H H' K:=h
theorem Acj {o:Oper} {K:Frm→Prop} {x:X} (hg:o.guard=none) (hd:o.dst=some d) (h:AN P G o F H x []) (h':AN P G o F H' x []) (k:Ch2 P G ops l (F.put (some d) x) H H' K):Ch2 P G ops (o::l) F H H' K :=
 .inr ⟨by unfold Cs;rw [hg],x,h,h',by rw [congrArg (fun q=>F.put q x) hd];exact k⟩
theorem Ch2.seq:∀ {l:List Oper} {F:Frm} {H H':List Ob} {K:Frm→Prop},Ch2 P G ops l F H H' K →
  ∃ (Fs:Nat→Frm) (xs:Nat→X),Fs 0=F∧K (Fs l.length)∧∀ (i:Nat) (o:Oper),l[i]?=some o→Fs (i+1)=(Fs i).put o.dst (xs i) ∧
   ((Cs ops o (Fs i) false∧xs i=.tup [])∨(Cs ops o (Fs i) true∧AN P G o (Fs i) H (xs i) []∧AN P G o (Fs i) H' (xs i) []))
 | [],F,H,H',K,h=>⟨fun _=>F,fun _=>.any,rfl,h,fun i o hi=>by simp at hi⟩
 | o::l,F,H,H',K,h=>by
  have key:∃ x,((Cs ops o F false∧x=.tup [])∨(Cs ops o F true∧AN P G o F H x []∧AN P G o F H' x []))∧Ch2 P G ops l (F.put o.dst x) H H' K:=by
   rcases h with ⟨h1,h2⟩|⟨h1,x,h2,h2',h3⟩
   ·exact ⟨.tup [],.inl ⟨h1,rfl⟩,h2⟩
   ·exact ⟨x,.inr ⟨h1,h2,h2'⟩,h3⟩
  obtain ⟨x,hx,hc⟩:=key
  obtain ⟨Fs,xs,h1,h3,h4⟩:=Ch2.seq hc
  refine ⟨fun i=>match i with|0=>F|i+1=>Fs i,fun i=>match i with|0=>x|i+1=>xs i,rfl,by simpa using h3,fun i o' hi=>?_⟩
  rcases i with _|i
  ·simp only [gk,Option.some.injEq] at hi
   subst hi
   exact ⟨h1,hx⟩
  ·simp only [ew] at hi
   exact h4 i o' hi
end
theorem Sl {α:Type} {s:Nat}:∀ (ps:List (Nat × List α)) (pre rest:List α) (k:Nat),ps.map (·.1)=List.range' k ps.length→(∀ p∈ps,p.2.length=s)→pre.length=k*s→rest.length=ps.length*s →
  Gi (fun i=>some (i*s,s)) (pre++rest) ps=some (pre++(ps.map (·.2)).flatten)
 | [],pre,rest,k,_,_,_,hr=>by
  have:rest=[]:=cj (by simpa using hr)
  subst this
  simp [Gi]
 | (i,vs)::ps,pre,rest,k,hi,hs,hp,hr=>by
  simp only [bp,bw,List.range'_succ,List.cons.injEq] at hi
  obtain ⟨rfl,hi⟩:=hi
  have hv:vs.length=s:=hs (i,vs) (by simp)
  have hrl:rest.length=s+ps.length*s:=by rw [hr,bw,bj];omega
  unfold Gi
  simp only []
  rw [show Nat.beq vs.length s=true by rw [hv];exact fb s,show Nat.ble (i*s+vs.length) (pre++rest).length=true from Nat.ble_eq ▸ (by rw [ak];omega)]
  simp only []
  have e1:(pre++rest).take (i*s)=pre:=by rw [jq (by omega),al (by omega)]
  have e2:(pre++rest).drop (i*s+vs.length)=rest.drop s:=by
   rw [List.drop_append,gc (by omega),dz]
   congr 1
   omega
  rw [e1,e2,Sl ps (pre++vs) (rest.drop s) (i+1) hi (fun p hp'=>hs p (by simp [hp'])) (by rw [ak,bj];omega) (by rw [iq];omega)]
  simp
section
variable {P:Program} {G:World→Prop} {o:Oper} {F:Frm} {H:List Ob}
theorem Fm {len:Nat} {parts:Array (Nat × Operand)} {z:Value} {ps:List (Nat × List C)} {cs:List C} (ho:o.op=.buildSlice t len parts) (hp:Hn F parts.toList=some ps) (ht:TyS P t e s) (hz:TyZ P e z s by_) (hln:len≤10000) (hs:s≤1000) (h0:0<s) (hi:ps.map (·.1)=List.range' 0 len) (hls:(ps.all fun p=>Nat.beq p.2.length s)=true) (hcs:(ps.map (·.2)).flatten=cs) :
  AN P G o F H (.one (.own H.length len)) [.row e s len cs]:=by
 subst hcs
 have hpl:ps.length=len:=by have:=congrArg List.length hi;simpa using this
 have hall:∀ p∈ps,p.2.length=s:=fun p hp'=>ej (List.all_eq_true.1 hls p hp')
 have hm:len*s≤10000*1000:=ep hln hs
 have hl:(Em (madeCells z.cells (len*s)).toList).length=len*s:=by simp [Em,madeCells]
 refine FM (ps:=ps) ho ht hz (by omega) (by omega) hp ?_ ?_ h0
 ·have:=Sl (s:=s) ps [] (Em (madeCells z.cells (len*s)).toList) 0 (by rw [hpl];exact hi) hall (by simp) (by rw [hl,hpl])
  rwa [dz,dz] at this
 ·have e:(ps.map (·.2)).map List.length=List.replicate len s:=by
   rw [dj,←hpl]
   refine iz (by simp) fun k h1 h2=>?_
   simp only [ks,List.getElem_replicate]
   exact hall _ (fj _)
  rw [List.length_flatten,e]
  simp
end
abbrev vi (z:Int):X:=.one (.d (.val (.int .i64 z)))
abbrev vr (i:Nat):X:=.one (.ref i 0 none)
abbrev vo (i n:Nat):X:=.one (.own i n)
abbrev vd (d:D):X:=.one (.d d)
theorem mB {F:Frm} {n:Nat}:∀ {l:List (Nat × X)},l.map (fun p=>F p.1)=l.map Prod.snd→l.all (fun p=>p.2.belB n)=true→Sk F n l
 | [],_,_=>trivial
 | (s,x)::l,h,hb=>by
  simp only [bp,List.cons.injEq] at h
  simp only [List.all_cons,ai] at hb
  exact ⟨h.1,hb.1,mB h.2 hb.2⟩
section
variable {P:Program} {G:World→Prop} {o:Oper} {F:Frm} {H:List Ob}
section
variable {ops:Array Oper} {K:Frm→List Ob→Prop} {l:List Oper} {d:Tmp} {x:Operand} {c:C}
theorem AoK (hg:o.guard=none) (hd:o.dst=some d) (ho:o.op=.move x) (hx:F.ev x=.one c) (k:Ch P G ops l (F.put (some d) (.one c)) H K):Ch P G ops (o::l) F H K:=AoF hg hd (Vp ho hx) k
theorem AoL (hg:o.guard=none) (hd:o.dst=some d) (ho:o.op=.move x) (hx:F.ev x=.one c) (k:Ti P G ops l (F.put (some d) (.one c)) H K):Ti P G ops (o::l) F H K:=AoE hg hd (Vp ho hx) k
theorem AoM (hg:o.guard=none) (hd:o.dst=some d) (ho:o.op=.assign x) (hx:F.ev x=.one c) (k:Ch P G ops l (F.put (some d) (.one c)) H K):Ch P G ops (o::l) F H K:=AoF hg hd (Vr ho hx) k
theorem AoN (hg:o.guard=none) (hd:o.dst=some d) (ho:o.op=.assign x) (hx:F.ev x=.one c) (k:Ti P G ops l (F.put (some d) (.one c)) H K):Ti P G ops (o::l) F H K:=AoE hg hd (Vr ho hx) k
end
section
variable {N:Nat} {ops:Array Oper} {Q:Ye} {K:Frm→List Ob→Prop} {l:List Oper} {d:Tmp} {c:C} {xx:X}
theorem Tx (id:Nat) (h:Ti P G l.toArray l F H (Q .normal)) (hd:Rs N l=true:=by kernel_rfl):CW P G N (.region id l.toArray false) F H Q:=Ahj hd h
theorem Je (h:K F H):Ti P G ops [] F H K:=h
theorem Ke (h:K F H):Ch P G ops [] F H K:=h
theorem Jo (h:AN P G o F H xx []) (k:Ti P G ops l (F.put (some d) xx) H K) (hg:o.guard=none:=by with_unfolding_all exact rfl) (hd:o.dst=some d:=by with_unfolding_all exact rfl):Ti P G ops (o::l) F H K:=AoE hg hd h k
theorem Ko (h:AN P G o F H xx []) (k:Ch P G ops l (F.put (some d) xx) H K) (hg:o.guard=none:=by with_unfolding_all exact rfl) (hd:o.dst=some d:=by with_unfolding_all exact rfl):Ch P G ops (o::l) F H K:=AoF hg hd h k
theorem Jn (h:AN P G o F H xx [ob]) (k:Ti P G ops l (F.put (some d) xx) (H++[ob]) K) (hg:o.guard=none:=by with_unfolding_all exact rfl) (hd:o.dst=some d:=by with_unfolding_all exact rfl):Ti P G ops (o::l) F H K:=ti_n hg hd h k
theorem Kn (h:AN P G o F H xx [ob]) (k:Ch P G ops l (F.put (some d) xx) (H++[ob]) K) (hg:o.guard=none:=by with_unfolding_all exact rfl) (hd:o.dst=some d:=by with_unfolding_all exact rfl):Ch P G ops (o::l) F H K:=ch_n hg hd h k
theorem Js (h:TOk P G o F H xx H2) (k:Ti P G ops l F H2 K) (hg:o.guard=none:=by with_unfolding_all exact rfl) (hd:o.dst=none:=by with_unfolding_all exact rfl):Ti P G ops (o::l) F H K:=ti_s hg hd h k
theorem Jt (h:TOk P G o F H xx H2) (k:Ti P G ops l (F.put (some d) xx) H2 K) (hg:o.guard=none:=by with_unfolding_all exact rfl) (hd:o.dst=some d:=by with_unfolding_all exact rfl):Ti P G ops (o::l) F H K:=ti_t hg hd h k
section
variable {x:Operand}
theorem Jm (k:Ti P G ops l (F.put (some d) (.one c)) H K) (hg:o.guard=none:=by with_unfolding_all exact rfl) (hd:o.dst=some d:=by with_unfolding_all exact rfl) (ho:o.op=.move x:=by with_unfolding_all exact rfl) (hx:F.ev x=.one c:=by with_unfolding_all exact rfl):Ti P G ops (o::l) F H K:=AoL hg hd ho hx k
theorem Ja (k:Ti P G ops l (F.put (some d) (.one c)) H K) (hg:o.guard=none:=by with_unfolding_all exact rfl) (hd:o.dst=some d:=by with_unfolding_all exact rfl) (ho:o.op=.assign x:=by with_unfolding_all exact rfl) (hx:F.ev x=.one c:=by with_unfolding_all exact rfl):Ti P G ops (o::l) F H K:=AoN hg hd ho hx k
theorem Km (k:Ch P G ops l (F.put (some d) (.one c)) H K) (hg:o.guard=none:=by with_unfolding_all exact rfl) (hd:o.dst=some d:=by with_unfolding_all exact rfl) (ho:o.op=.move x:=by with_unfolding_all exact rfl) (hx:F.ev x=.one c:=by with_unfolding_all exact rfl):Ch P G ops (o::l) F H K:=AoK hg hd ho hx k
theorem Ka (k:Ch P G ops l (F.put (some d) (.one c)) H K) (hg:o.guard=none:=by with_unfolding_all exact rfl) (hd:o.dst=some d:=by with_unfolding_all exact rfl) (ho:o.op=.assign x:=by with_unfolding_all exact rfl) (hx:F.ev x=.one c:=by with_unfolding_all exact rfl):Ch P G ops (o::l) F H K:=AoM hg hd ho hx k
end
section
variable {j:Nat} {want bb:Bool} {oj:Oper} {t:Tmp}
theorem Jd (k:Ti P G ops l (F.put (some d) (.tup [])) H K) (hw:Cs ops o F false:=by with_unfolding_all first|exact AkQ rfl rfl rfl rfl rfl|exact Zh rfl rfl rfl rfl) (hd:o.dst=some d:=by with_unfolding_all exact rfl):Ti P G ops (o::l) F H K:=Ahq hw hd k
theorem Jy (h:AN P G o F H xx []) (k:Ti P G ops l (F.put (some d) xx) H K) (hg:o.guard=some (j,want):=by with_unfolding_all exact rfl) (hd:o.dst=some d:=by with_unfolding_all exact rfl) (hj:ops[j]?=some oj:=by with_unfolding_all exact rfl) (ht:oj.dst=some t:=by with_unfolding_all exact rfl) (hF:F t=.one (.d (.val (.bool bb))):=by with_unfolding_all exact rfl) (hb:(bb == want)=true:=by with_unfolding_all exact rfl):Ti P G ops (o::l) F H K:=AoG hg hd hj ht hF hb h k
theorem Kd (k:Ch P G ops l (F.put (some d) (.tup [])) H K) (hw:Cs ops o F false:=by with_unfolding_all first|exact AkQ rfl rfl rfl rfl rfl|exact Zh rfl rfl rfl rfl) (hd:o.dst=some d:=by with_unfolding_all exact rfl):Ch P G ops (o::l) F H K:=Ahr hw hd k
theorem Ky (h:AN P G o F H xx []) (k:Ch P G ops l (F.put (some d) xx) H K) (hg:o.guard=some (j,want):=by with_unfolding_all exact rfl) (hd:o.dst=some d:=by with_unfolding_all exact rfl) (hj:ops[j]?=some oj:=by with_unfolding_all exact rfl) (ht:oj.dst=some t:=by with_unfolding_all exact rfl) (hF:F t=.one (.d (.val (.bool bb))):=by with_unfolding_all exact rfl) (hb:(bb == want)=true:=by with_unfolding_all exact rfl):Ch P G ops (o::l) F H K:=AoH hg hd hj ht hF hb h k
end
theorem qa {x y:Code} (h:CW P G N x F H (Xc (fun F' H'=>CW P G N y F' H' Q) Q)):CW P G N (.seq x y) F H Q:=Akx h
theorem qb {K:Frm→List Ob→Prop} (h:K F H):Xc K Q .normal F H:=h
theorem qc (h:Q .normal F H):CW P G N .skip F H Q:=Ahf h
theorem qd (h:Q .ret F H):CW P G N .ret F H Q:=Akw h
theorem qe (h:Q (.exit id) F H):CW P G N (.exit id) F H Q:=Ahg h
theorem qf {c:Code} (h:CW P G N c F H (Hm id Q)):CW P G N (.block id c) F H Q:=AcC h
theorem qg {K:Frm→List Ob→Prop} (h:Q .ret F H):Xc K Q .ret F H:=h
theorem qh {K:Frm→List Ob→Prop} (h:Q (.exit id) F H):Xc K Q (.exit id) F H:=h
theorem qi (h:Q .normal F H):Hm i Q .normal F H:=h
theorem qj (h:Q .ret F H):Hm i Q .ret F H:=h
theorem qk (h:Q .normal F H):Hm i Q (.exit i) F H:=AcI h
theorem ql (hij:Nat.beq j i=false) (h:Q (.exit j) F H):Hm i Q (.exit j) F H:=AcJ hij h
theorem qm {x y:Code} {c:Operand} (hc:F.ev c=.one (.d (.val (.bool true)))) (h:CW P G N x F H Q):CW P G N (.cond c x y) F H Q:=Ahi hc h
theorem qn {x y:Code} {c:Operand} (hc:F.ev c=.one (.d (.val (.bool false)))) (h:CW P G N y F H Q):CW P G N (.cond c x y) F H Q:=AcD hc h
end
section
variable {t:TypeId} {x:Operand} {p p' c:C} {cs cs':List C} {f q ft k:Nat} {b:Bool}
theorem xLd (hk:TyK P t false k) (ho:o.op=.load t x:=by with_unfolding_all exact rfl) (hx:F.ev x=.one p:=by with_unfolding_all exact rfl) (ha:At H p cs:=by with_unfolding_all first|exact .box rfl|exact .ptr|exact .row rfl) (hc:cs[0]?=some c:=by with_unfolding_all exact rfl):AN P G o F H (.one c) []:=Mo ho hx ha hc hk
theorem xLa (hk:TyK P t true k) (ho:o.op=.load t x:=by with_unfolding_all exact rfl) (hx:F.ev x=.one p:=by with_unfolding_all exact rfl) (ha:At H p cs:=by with_unfolding_all first|exact .box rfl|exact .ptr|exact .row rfl) (hc:cs.take k=cs':=by with_unfolding_all exact rfl) (hlen:cs'.length=k:=by with_unfolding_all exact rfl):AN P G o F H (.agg cs') []:=Qo ho hx ha hk hc hlen
theorem xFa (hf:TyF P t f q ft) (hk:TyK P ft b (k+1)) (ho:o.op=.fieldAddr t x f:=by with_unfolding_all exact rfl) (hx:F.ev x=.one p:=by with_unfolding_all exact rfl) (ha:At H p cs:=by with_unfolding_all first|exact .box rfl|exact .ptr|exact .row rfl) (hp:Off q p p':=by with_unfolding_all first|exact .ref|exact .ptr):AN P G o F H (.one p') []:=RR ho hx ha hf hk hp
theorem xLn {e:Nat} (ht:TyS P t e k) (ho:o.op=.call { callee:=.builtin .len,args:=#[x],argTypes:=#[t] }:=by with_unfolding_all exact rfl) (hx:F.ev x=.one c:=by with_unfolding_all exact rfl) (hn:Len H c n:=by with_unfolding_all first|exact .own rfl|exact .row|exact .nil|exact .emp):AN P G o F H (.one (.d (.val (.int .i64 n)))) []:=AkG ho hx hn ht
def AoO (b:Bool) (x y:X):X:=match b with
 | true=>x
 | false=>y
theorem xPk {z:Operand} {v:C} (ho:o.op=.pick z x y:=by with_unfolding_all exact rfl) (hc:F.ev z=.one (.d (.val (.bool b))):=by with_unfolding_all exact rfl) (hx:AoO b (F.ev x) (F.ev y)=.one v:=by with_unfolding_all exact rfl):AN P G o F H (.one v) []:=by
 cases b
 ·exact AcL ho hc hx
 ·exact AcK ho hc hx
theorem xEx {l:List A} {d:D} (ho:o.op=.extract x i:=by with_unfolding_all exact rfl) (hx:F.ev x=.tup l:=by with_unfolding_all exact rfl) (hy:l[i]?=some (.one d):=by with_unfolding_all exact rfl):AN P G o F H (.one (.d d)) []:=AkR ho hx hy
theorem xBo {t:TypeId} (ho:o.op=.box t x:=by with_unfolding_all exact rfl) (hx:Ek (F.ev x)=some cs:=by with_unfolding_all exact rfl):AN P G o F H (.one (.ref H.length 0 none)) [.box t cs]:=AkH ho hx
theorem xMi {t:TypeId} {u:Value} {d:TypeDesc} (hu:P.underlying t=some d) (ho:o.op=.makeInterface t x:=by with_unfolding_all exact rfl) (hx:F.ev x=.one (.d (.val u)):=by with_unfolding_all exact rfl) (hd:(match d with|.interface _=>false|_=>true)=true:=by with_unfolding_all exact rfl):AN P G o F H (.one (.d (.val (.iface t u)))) []:=Mc ho hx hu hd
end
section
variable {t t':TypeId} {x y:Operand} {k:IntKind} {p q:Int} {b:Bool}
theorem xEq (ho:o.op=.binOp .eql t x y t':=by with_unfolding_all exact rfl) (hx:F.ev x=.one (.d (.val (.int k p))):=by with_unfolding_all exact rfl) (hy:F.ev y=.one (.d (.val (.int k q))):=by with_unfolding_all exact rfl) (h:(p == q)=b:=by first|exact OP (by first|rfl|omega)|exact Si (by omega)):AN P G o F H (.one (.d (.val (.bool b)))) []:=Ahs ho hx hy h
theorem xNe (ho:o.op=.binOp .neq t x y t':=by with_unfolding_all exact rfl) (hx:F.ev x=.one (.d (.val (.int k p))):=by with_unfolding_all exact rfl) (hy:F.ev y=.one (.d (.val (.int k q))):=by with_unfolding_all exact rfl) (h:(p != q)=b:=by first|exact OQ (by first|rfl|omega)|exact Ie (by omega)):AN P G o F H (.one (.d (.val (.bool b)))) []:=Uc ho hx hy h
theorem xLt (ho:o.op=.binOp .lss t x y t':=by with_unfolding_all exact rfl) (hx:F.ev x=.one (.d (.val (.int k p))):=by with_unfolding_all exact rfl) (hy:F.ev y=.one (.d (.val (.int k q))):=by with_unfolding_all exact rfl) (h:decide (p<q)=b:=by first|exact AcM (by omega)|exact AcN (by omega)):AN P G o F H (.one (.d (.val (.bool b)))) []:=Aht ho hx hy h
theorem xGt (ho:o.op=.binOp .gtr t x y t':=by with_unfolding_all exact rfl) (hx:F.ev x=.one (.d (.val (.int k p))):=by with_unfolding_all exact rfl) (hy:F.ev y=.one (.d (.val (.int k q))):=by with_unfolding_all exact rfl) (h:decide (q<p)=b:=by first|exact AcM (by omega)|exact AcN (by omega)):AN P G o F H (.one (.d (.val (.bool b)))) []:=Qt ho hx hy h
theorem xLe (ho:o.op=.binOp .leq t x y t':=by with_unfolding_all exact rfl) (hx:F.ev x=.one (.d (.val (.int k p))):=by with_unfolding_all exact rfl) (hy:F.ev y=.one (.d (.val (.int k q))):=by with_unfolding_all exact rfl) (h:decide (p≤q)=b:=by first|exact AcM (by first|rfl|omega)|exact AcN (by omega)|exact rfl):AN P G o F H (.one (.d (.val (.bool b)))) []:=Ahu ho hx hy h
theorem xGe (ho:o.op=.binOp .geq t x y t':=by with_unfolding_all exact rfl) (hx:F.ev x=.one (.d (.val (.int k p))):=by with_unfolding_all exact rfl) (hy:F.ev y=.one (.d (.val (.int k q))):=by with_unfolding_all exact rfl) (h:decide (q≤p)=b:=by first|exact AcM (by first|rfl|omega)|exact AcN (by omega)|exact rfl):AN P G o F H (.one (.d (.val (.bool b)))) []:=Ahv ho hx hy h
theorem xAd (ho:o.op=.binOp .add t x y t':=by with_unfolding_all exact rfl) (hx:F.ev x=.one (.d (.val (.int .i64 p))):=by with_unfolding_all exact rfl) (hy:F.ev y=.one (.d (.val (.int .i64 q))):=by with_unfolding_all exact rfl) (hb : -9223372036854775808≤p+q∧p+q≤9223372036854775807:=by omega):AN P G o F H (.one (.d (.val (.int .i64 (p+q))))) []:=AcE ho hx hy hb
theorem xSb (ho:o.op=.binOp .sub t x y t':=by with_unfolding_all exact rfl) (hx:F.ev x=.one (.d (.val (.int .i64 p))):=by with_unfolding_all exact rfl) (hy:F.ev y=.one (.d (.val (.int .i64 q))):=by with_unfolding_all exact rfl) (hb : -9223372036854775808≤p - q∧p - q≤9223372036854775807:=by omega):AN P G o F H (.one (.d (.val (.int .i64 (p - q))))) []:=AcF ho hx hy hb
end
section
variable {t e ty:TypeId} {x y:Operand} {tg:Bool} {id s n i k:Nat} {kd:IntKind} {z:Int} {b:Bool}
theorem xIr {ds es:List D} (ht:TyS P t e s) (hes:(ds.drop (i*s)).take s=es) (ho:o.op=.indexAddr t x y:=by with_unfolding_all exact rfl) (hx:F.ev x=.one (.d (.row tg s n ds)):=by with_unfolding_all exact rfl) (hy:F.ev y=.one (.d (.val (.int kd z))):=by with_unfolding_all exact rfl) (hz:z=(i:Int):=by first|with_unfolding_all exact rfl|omega) (hi:i<n:=by omega) (hs:0<s:=by decide):AN P G o F H (.one (.d (.ptr tg es))) []:=Po ho hx hy hz ht hi hs hes
theorem xIo {cs:List C} (ht:TyS P t e s) (ho:o.op=.indexAddr t x y:=by with_unfolding_all exact rfl) (hx:F.ev x=.one (.own id n):=by with_unfolding_all exact rfl) (hH:H[id]?=some (.row ty s n cs):=by with_unfolding_all exact rfl) (hy:F.ev y=.one (.d (.val (.int kd z))):=by with_unfolding_all exact rfl) (hz:z=(i:Int):=by with_unfolding_all exact rfl) (hi:i<n:=by omega) (hs:0<s:=by decide):AN P G o F H (.one (.ref id (i*s) (some n))) []:=LP ho hx hH hy hz ht hi hs
theorem xLi (hz:xs[i]?=some z) (hk:TyK P t false k) (ho:o.op=.load t x:=by with_unfolding_all exact rfl) (hx:F.ev x=.one (.ref id (i*1) (some n)):=by with_unfolding_all exact rfl) (hH:H[id]?=some (.row ty s n (cI xs)):=by with_unfolding_all exact rfl):AN P G o F H (.one (.d (.val (.int .i64 z)))) []:=AkS ho hx hH hz hk
theorem xS1 {c:C} (hty:TyK P t b 1) (ho:o.op=.store t x y:=by with_unfolding_all exact rfl) (hx:F.ev x=.one (.ref id off kk):=by with_unfolding_all exact rfl) (hH:H[id]?=some ob:=by with_unfolding_all exact rfl) (hk:ob.k=some kk:=by with_unfolding_all exact rfl) (hy:F.ev y=.one c:=by with_unfolding_all exact rfl) (hoff:off<ob.cs.length:=by with_unfolding_all exact bi rfl):TOk P G o F H .any (H.set id (ob.setC (ob.cs.set off c))):=IB ho hx hH hk hy hty hoff
theorem xSk {cy:List C} (hty:TyK P t b k) (ho:o.op=.store t x y:=by with_unfolding_all exact rfl) (hx:F.ev x=.one (.ref id off kk):=by with_unfolding_all exact rfl) (hH:H[id]?=some ob:=by with_unfolding_all exact rfl) (hk:ob.k=some kk:=by with_unfolding_all exact rfl) (hy:Ek (F.ev y)=some cy:=by with_unfolding_all exact rfl) (hlen:Nat.beq cy.length k=true:=by with_unfolding_all exact rfl) (hoff:off+cy.length≤ob.cs.length:=by with_unfolding_all exact bi rfl):TOk P G o F H .any (H.set id (ob.setC (ob.cs.take off++cy++ob.cs.drop (off+cy.length)))):=IG ho hx hH hk hy hty hlen hoff
end
theorem xCl {fn : Func} {cd : Code} {xs : Array Operand} {ts : Array TypeId} {args res : List A} {x : X} (h1 : P.funcs[f]? = some fn) (h : CV P G f args res) (h2 : (fn.name == "runtime.NumGoroutine") = false := by kernel_rfl) (h3 : fn.body = some cd := by with_unfolding_all exact rfl) (ho : o.op = .call { callee := .value (.func f), args := xs, argTypes := ts } := by with_unfolding_all exact rfl) (ha : AY (fun x y => Ip true H (F.ev x) y) xs.toList args := by with_unfolding_all first | ((repeat' first | exact Bh rfl rfl | refine Au rfl rfl ?_ ?_ | refine DM rfl rfl ?_ | refine BW rfl rfl ?_ | exact AX rfl (fun h => by cases h) | exact Ho rfl rfl | exact cexp_e rfl rfl | refine Cg rfl rfl rfl ?_) <;> fail) | fail) (hx : Ahk res = x := by with_unfolding_all exact rfl) : AN P G o F H x [] := AoI ⟨fn, cd, h1, h2, h3⟩ h ho ha hx
end
section
variable {P:Program} {G:World→Prop} {F:Frm} {H:List Ob} {ops:Array Oper} {l:List Oper} {K:Frm→List Ob→Prop} {d:Tmp} {xx:X} {ob:Ob} {op:Op} {ty_:TypeId} {ps_:String} {af_:Array Edge} {gg_:Option (Nat × Bool)} {dd:Option Tmp} {x:Operand} {c p p':C} {cs cs':List C} {H2:List Ob} {t:TypeId} {o:Oper} {f q ft k n e:Nat} {b:Bool}
theorem gO (h:AN P G ⟨some d,op,ty_,ps_,af_,none⟩ F H xx []) (k:Ti P G ops l (F.put (some d) xx) H K):Ti P G ops (⟨some d,op,ty_,ps_,af_,none⟩::l) F H K:=Jo h k rfl rfl
theorem gN (h:AN P G ⟨some d,op,ty_,ps_,af_,none⟩ F H xx [ob]) (k:Ti P G ops l (F.put (some d) xx) (H++[ob]) K):Ti P G ops (⟨some d,op,ty_,ps_,af_,none⟩::l) F H K:=Jn h k rfl rfl
theorem gZ (h:TOk P G ⟨none,op,ty_,ps_,af_,none⟩ F H xx H2) (k:Ti P G ops l F H2 K):Ti P G ops (⟨none,op,ty_,ps_,af_,none⟩::l) F H K:=Js h k rfl rfl
theorem gT (h:TOk P G ⟨some d,op,ty_,ps_,af_,none⟩ F H xx H2) (k:Ti P G ops l (F.put (some d) xx) H2 K):Ti P G ops (⟨some d,op,ty_,ps_,af_,none⟩::l) F H K:=Jt h k rfl rfl
theorem gP (h:AN P G ⟨some d,op,ty_,ps_,af_,none⟩ F H xx []) (k:Ch P G ops l (F.put (some d) xx) H K):Ch P G ops (⟨some d,op,ty_,ps_,af_,none⟩::l) F H K:=Ko h k rfl rfl
theorem gQ (h:AN P G ⟨some d,op,ty_,ps_,af_,none⟩ F H xx [ob]) (k:Ch P G ops l (F.put (some d) xx) (H++[ob]) K):Ch P G ops (⟨some d,op,ty_,ps_,af_,none⟩::l) F H K:=Kn h k rfl rfl
theorem xM (hx:F.ev x=.one c:=by with_unfolding_all exact rfl):AN P G ⟨dd,.move x,ty_,ps_,af_,gg_⟩ F H (.one c) []:=Vp rfl hx
theorem xA (hx:F.ev x=.one c:=by with_unfolding_all exact rfl):AN P G ⟨dd,.assign x,ty_,ps_,af_,gg_⟩ F H (.one c) []:=Vr rfl hx
theorem xF (ho:o.op=.fieldAddr t x f:=by with_unfolding_all exact rfl) (hf:TyF prog t f q ft:=by first|exact AM|exact BO|exact Ce|exact Nt|exact Ed|exact Mq|exact DA|exact Ex|exact DU|exact Qq|exact Es|exact Er|exact Fk|exact Ub|exact Ee|exact Ms|exact Xh|exact Qs|exact IE|exact FN) (hk:TyK prog ft b (k+1):=by first|exact Aa|exact AE|exact Ac|exact BJ|exact AP|exact AU|exact AK|exact BK|exact Bi|exact BV|exact BS|exact CA|exact BG|exact Fe|exact Nr|exact Bb|exact Ic|exact GU) (hx:F.ev x=.one p:=by with_unfolding_all exact rfl) (ha:At H p cs:=by with_unfolding_all first|exact .box rfl|exact .ptr|exact .row rfl) (hp:Off q p p':=by with_unfolding_all first|exact .ref|exact .ptr):AN prog G o F H (.one p') []:=xFa hf hk ho hx ha hp
theorem xD (ho:o.op=.load t x:=by with_unfolding_all exact rfl) (hk:TyK prog t false k:=by first|exact Aa|exact AE|exact Ac|exact BJ|exact AP|exact AU|exact AK|exact BK|exact Bi|exact BV|exact BS|exact CA|exact BG|exact Fe|exact Nr|exact Bb|exact Ic|exact GU) (hx:F.ev x=.one p:=by with_unfolding_all exact rfl) (ha:At H p cs:=by with_unfolding_all first|exact .box rfl|exact .ptr|exact .row rfl) (hc:cs[0]?=some c:=by with_unfolding_all exact rfl):AN prog G o F H (.one c) []:=xLd hk ho hx ha hc
theorem xL (ho:o.op=.load t x:=by with_unfolding_all exact rfl) (hk:TyK prog t true k:=by first|exact Aa|exact AE|exact Ac|exact BJ|exact AP|exact AU|exact AK|exact BK|exact Bi|exact BV|exact BS|exact CA|exact BG|exact Fe|exact Nr|exact Bb|exact Ic|exact GU) (hx:F.ev x=.one p:=by with_unfolding_all exact rfl) (ha:At H p cs:=by with_unfolding_all first|exact .box rfl|exact .ptr|exact .row rfl) (hc:cs.take k=cs':=by with_unfolding_all exact rfl) (hlen:cs'.length=k:=by with_unfolding_all exact rfl):AN prog G o F H (.agg cs') []:=xLa hk ho hx ha hc hlen
theorem xN (ho:o.op=.call { callee:=.builtin .len,args:=#[x],argTypes:=#[t] }:=by with_unfolding_all exact rfl) (ht:TyS prog t e k:=by first|exact Ad|exact Af|exact Ag|exact Ai|exact AH|exact Bw|exact Di|exact Ey) (hx:F.ev x=.one c:=by with_unfolding_all exact rfl) (hn:Len H c n:=by with_unfolding_all first|exact .own rfl|exact .row|exact .nil|exact .emp):AN prog G o F H (.one (.d (.val (.int .i64 n)))) []:=xLn ht ho hx hn
end
end Go.Proofs.YtmdfjbpggbhgnaaGreatDoor
