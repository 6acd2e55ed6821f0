/- What the proofs of this claim share, part 9. No conditions. -/
import Derived.Test.YtmdfjbpggbhgnaaGreatDoorZt8
import Derived.WideLaws
import Derived.Test.YtmdfjbpggbhgnaaGreatDoorRows
set_option linter.unusedVariables false
set_option linter.unusedSimpArgs false
set_option linter.unusedSectionVars false
namespace Go.Proofs.YtmdfjbpggbhgnaaGreatDoor
open Go.RowKit
def Wk (N:Nat) (F:Frm) (H:List Ob) (F':Frm) (H':List Ob):Prop :=
 ∀ (b0:Nat) (w0:World) (S0:SD) (a:Act) (m:Mm),m.H=H→St b0 N w0 S0 F a m→∃ m',m'.w=m.w∧m'.H=H'∧St b0 N w0 S0 F' a m'
section
variable {P:Program} {G:World→Prop} {N:Nat} {F F':Frm} {H H':List Ob} {Q:UO}
theorem CF {c:Code} (h:Wk N F H F' H') (k:CW P G N c F' H' Q):CW P G N c F H Q:=fun b0 w0 S0 a m hG hH hs=>by
 obtain ⟨m',h1,h2,h3⟩:=h b0 w0 S0 a m hH hs
 rw [←h1]
 exact k b0 w0 S0 a m' hG h2 h3
def wkC (N:Nat) (K:Frm→List Ob→Prop):Frm→List Ob→Prop:=fun F H=>∃ F' H',Wk N F H F' H'∧K F' H'
theorem Bp {c:Code} (I:Nat→Frm→List Ob→Prop) {n0:Nat} (h0:I n0 F H) (round:∀ n F H,I n F H→CW P G N c F H (TS (wkC N fun F' H'=>∃ n',n'<n∧I n' F' H') Q)):CW P G N (.loop c) F H Q:=fun b0 w0 S0 a m hG hH hs=>by
 refine Ym (fun n a w=>∃ F' m',m'.w=w∧St b0 N w0 S0 F' a m'∧I n F' m'.H) (n0:=n0) ⟨F,m,rfl,hs,by rw [hH];exact h0⟩ fun n a w ⟨F',m',h1,h2,h3⟩=>?_
 subst h1
 refine wp_mono (round n F' m'.H h3 b0 w0 S0 a m' hG rfl h2) fun e a w ⟨F2,m2,k1,k2,k3⟩=>?_
 cases e with
 | normal =>
  obtain ⟨F3,H3,k4,n',hlt,hI⟩:=k3
  obtain ⟨m3,k5,k6,k7⟩:=k4 b0 w0 S0 a m2 rfl k2
  subst k6
  exact ⟨n',hlt,F3,m3,k5.trans k1,k7,hI⟩
 | exit id=>exact ⟨F2,m2,k1,k2,k3⟩
 | goto l=>exact ⟨F2,m2,k1,k2,k3⟩
 | ret=>exact ⟨F2,m2,k1,k2,k3⟩
 | panic ch=>exact ⟨F2,m2,k1,k2,k3⟩
 | outgrown=>exact ⟨F2,m2,k1,k2,k3⟩
end
def ofL:List (Nat × X)→Frm
 | []=>fun _=>.any
 | (s,x)::l=>fun t=>match Nat.beq t s with|true=>x|false=>ofL l t
def C.bel (n:Nat):C→Prop
 | .d _=>True
 | .own id _=>id<n
 | .ref id _ _=>id<n
 | .clo _ caps=>∀ p∈caps,p.1<n
 | .emp=>True
def X.bel (n:Nat):X→Prop
 | .one c=>c.bel n
 | .agg cs=>∀ c∈cs,c.bel n
 | .tup _=>True
 | .any=>True
 | .pin l=>∀ p∈l,p.1<n
def Su (F:Frm) (n:Nat):List (Nat × X)→Prop
 | []=>True
 | (s,x)::l=>F s=x∧x.bel n∧Su F n l
theorem PJ {F:Frm} {n:Nat}:∀ {l:List (Nat × X)},Su F n l→∀ t,(ofL l t=F t∧(ofL l t).bel n)∨ofL l t=.any
 | [],_,t=>.inr rfl
 | (s,x)::l,h,t=>by
  obtain ⟨h1,h2,h3⟩:=h
  simp only [ofL]
  cases hb:Nat.beq t s with
  | true =>
   have:=Nat.eq_of_beq_eq_true hb
   subst this
   exact .inl ⟨h1.symm,h2⟩
  | false=>exact PJ h3 t
theorem QK.cut {m:Mm} {n id off:Nat} {k:Option Nat} {v:Value} {E:Nat→Option Et} (h:QK m id off k v) (hb:id<n) (hE:∀ i,i<n→E i=m.E i):QK { m with H:=m.H.take n,E:=E } id off k v:=by
 obtain ⟨h1,ob,h2,h3,h4⟩:=h
 refine ⟨h1,ob,by rw [List.getElem?_take,if_pos hb];exact h2,h3,fun hk=>?_⟩
 obtain ⟨e,g,h5,h6,h7⟩:=h4 hk
 exact ⟨e,g,by rw [show ({ m with H:=m.H.take n,E:=E }:Mm).E id=m.E id from hE id hb];exact h5,h6,h7⟩
theorem EM.cut {m:Mm} {n:Nat} {c:C} {v:Value} {E:Nat→Option Et} (h:EM m c v) (hb:c.bel n) (hE:∀ i,i<n→E i=m.E i):EM { m with H:=m.H.take n,E:=E } c v:=by
 cases c with
 | d x=>exact h
 | own id p =>
  obtain ⟨h1,ob,h2,h3,h4⟩:=h
  have hb':id<n:=hb
  refine ⟨h1,ob,by rw [List.getElem?_take,if_pos hb'];exact h2,h3,fun hk=>?_⟩
  obtain ⟨e,h5,h6⟩:=h4 hk
  exact ⟨e,(hE id hb).trans h5,h6⟩
 | ref id off k=>exact QK.cut h hb hE
 | clo fn caps =>
  obtain ⟨vs,h1,h2,h3⟩:=h
  exact ⟨vs,h1,h2,fun j p v hp hv=>(h3 j p v hp hv).cut (hb p (List.mem_of_getElem? hp)) hE⟩
 | emp=>exact h
theorem AfJ {N:Nat} {F:Frm} {H:List Ob} (l:List (Nat × X)) (n:Nat) (h:Su F n l) (hH:∀ ob∈H.take n,∀ c∈ob.cs,C.bel n c):Wk N F H (ofL l) (H.take n):=fun b0 w0 S0 a m hm hs=>by
 subst hm
 let E:Nat→Option Et:=fun i=>if i<n then m.E i else none
 have hE:∀ i,i<n→E i=m.E i:=fun i hi=>if_pos hi
 have hE':∀ i e,E i=some e→i<n∧m.E i=some e:=fun i e he=>by
  have he':(if i<n then m.E i else none)=some e:=he
  split at he'
  ·exact ⟨by assumption,he'⟩
  ·cases he'
 have lcut:∀ {cs:List C} {vs:List Value},(∀ c∈cs,C.bel n c)→Bv (EM m) cs vs→Bv (EM { m with H:=m.H.take n,E:=E }) cs vs:=fun hb hl=>⟨hl.1,fun j c v hc hv=>(hl.2 j c v hc hv).cut (hb c (List.mem_of_getElem? hc)) hE⟩
 refine ⟨{ m with H:=m.H.take n,E:=E },rfl,rfl,⟨⟨fun id e he=>?_,fun i j e e' hij hi hj=>hs.cx.apart i j e e' hij (hE' i e hi).2 (hE' j e' hj).2,fun id e g t he=>hs.cx.far id e g t (hE' id e he).2,hs.cx.lt⟩,fun id ob hob hk=>?_,fun t=>?_,hs.size,hs.defers,hs.below,hs.base,hs.S,hs.T⟩⟩
 ·obtain ⟨hlt,he⟩:=hE' id e he
  obtain ⟨h1,ob,h2,h3⟩:=hs.cx.each id e he
  have h2':(m.H.take n)[id]?=some ob:=by rw [List.getElem?_take,if_pos hlt];exact h2
  refine ⟨h1,ob,h2',?_⟩
  have hb:=hH ob (List.mem_of_getElem? h2')
  cases ob <;> cases e <;> simp only [Vx] at h3 ⊢
  ·exact ⟨h3.1,lcut hb h3.2⟩
  ·exact ⟨h3.1,h3.2.1,h3.2.2.1,lcut hb h3.2.2.2⟩
 ·have hob':(m.H.take n)[id]?=some ob:=hob
  rw [List.getElem?_take] at hob'
  split at hob'
  ·rename_i hlt
   show (E id).isSome=true
   rw [hE id hlt]
   exact hs.tot id ob hob' hk
  ·cases hob'
 ·rcases PJ h t with ⟨h1,h2⟩|h1
  ·rw [h1] at h2 ⊢
   have hx:=hs.frame t
   cases hF:F t with
   | one c=>rw [hF] at hx h2;exact EM.cut hx h2 hE
   | agg cs =>
    rw [hF] at hx h2
    obtain ⟨xs,h3,h4⟩:=hx
    exact ⟨xs,h3,lcut h2 h4⟩
   | tup l'=>rw [hF] at hx;exact hx
   | any=>trivial
   | pin l'=>rw [hF] at hx h2;exact fun p hp=>QK.cut (hx p hp) (h2 p hp) hE
  ·rw [h1];trivial
theorem Aab {N:Nat} {F:Frm} {H:List Ob} (t e s:Nat) (h:F t=.one (.d (.val (.slice none 0 0)))):Wk N F H (F.put (some t) (.one (.own H.length 0))) (H++[.row e s 0 []]):=fun b0 w0 S0 a m hm hs=>by
 subst hm
 have hle:Le m { m with H:=m.H++[.row e s 0 []],E:=fun i=>if i=m.H.length then some (.row (.slice none 0 0) e s 0 []) else m.E i } :=
  ⟨fun _ _ h=>h,rfl,fun _ _ _=>rfl,fun id ob hob=>⟨ob,by rw [List.getElem?_append_left (List.getElem?_eq_some_iff.1 hob).1];exact hob,Ie.same fun x hx=>by
   have:=(List.getElem?_eq_some_iff.1 hob).1
   show (if id=m.H.length then _ else m.E id)=some x
   rw [if_neg (by omega)]
   exact hx⟩⟩
 have get:∀ i x,(if i=m.H.length then some (Et.row (.slice none 0 0) e s 0 []) else m.E i)=some x→(i=m.H.length∧x=.row (.slice none 0 0) e s 0 [])∨m.E i=some x:=fun i x hx=>by
  split at hx
  ·exact .inl ⟨by assumption,(Option.some.inj hx).symm⟩
  ·exact .inr hx
 refine ⟨{ m with H:=m.H++[.row e s 0 []],E:=fun i=>if i=m.H.length then some (.row (.slice none 0 0) e s 0 []) else m.E i },rfl,rfl,⟨⟨fun id x hx=>?_,fun i j x y hij hi hj g h1 h2=>?_,fun id x g t hx hg=>?_,hs.cx.lt⟩,fun id ob hob hk=>?_,fun t'=>?_,hs.size,hs.defers,hs.below,hs.base,hs.S,hs.T⟩⟩
 ·rcases get id x hx with ⟨rfl,rfl⟩|h1
  ·exact ⟨World.ownsRow_nil _ _ _ _,.row e s 0 [],by simp,rfl,rfl,rfl,Bv.nil_⟩
  ·obtain ⟨h2,ob,h3,h4⟩:=hs.cx.each id x h1
   exact ⟨h2,ob,by rw [List.getElem?_append_left (List.getElem?_eq_some_iff.1 h3).1];exact h3,h4.le hle⟩
 ·rcases get i x hi with ⟨rfl,rfl⟩|h3
  ·simp [Et.own,Value.ownBlock] at h1
  ·rcases get j y hj with ⟨rfl,rfl⟩|h4
   ·simp [Et.own,Value.ownBlock] at h2
   ·exact hs.cx.apart i j x y hij h3 h4 g h1 h2
 ·rcases get id x hx with ⟨rfl,rfl⟩|h3
  ·simp [Et.own,Value.ownBlock] at hg
  ·exact hs.cx.far id x g t h3 hg
 ·show (if id=m.H.length then _ else m.E id).isSome=true
  split
  ·rfl
  ·rename_i hne
   have hob':(m.H++[.row e s 0 []])[id]?=some ob:=hob
   have hlt:=(List.getElem?_eq_some_iff.1 hob').1
   simp only [List.length_append,List.length_cons,List.length_nil] at hlt
   rw [List.getElem?_append_left (by omega)] at hob'
   exact hs.tot id ob hob' hk
 ·rw [LU]
  split
  ·rename_i ht
   cases ht
   have hv:=hs.frame t
   rw [h] at hv
   have hv':=DI (m:=m) hv
   rw [hv']
   exact ⟨rfl,.row e s 0 [],by simp,(fun n n' h1 h2=>by cases h1;cases h2;exact Nat.le_refl _),fun _=>⟨.row (.slice none 0 0) e s 0 [],by simp,rfl⟩⟩
  ·exact (hs.frame t').le hle
end Go.Proofs.YtmdfjbpggbhgnaaGreatDoor
namespace Go.Proofs.YtmdfjbpggbhgnaaGreatDoor
open Go.RowKit
def Cu (l:List Oper):List (Nat × Nat)→List Oper
 | []=>l
 | (k,p)::es=>Cu (BG l k p) es
def Sv (md:Region.Mode) (l:List Oper):List (Nat × Nat)→Bool
 | []=>true
 | (k,p)::es=>Yw md l k p && Sv md (BG l k p) es
theorem Mg (l:List Oper) (k p:Nat):(BG l k p).length=l.length:=by simp [BG]
theorem FJ:∀ (es:List (Nat × Nat)) (l:List Oper),(Cu l es).length=l.length
 | [],l=>rfl
 | (k,p)::es,l=>by
  unfold Cu
  rw [FJ es,Mg]
theorem PK {l:List Oper} {k p n:Nat} (h:n≤k):(BG l k p).take n=l.take n:=by
 refine List.ext_getElem? fun j=>?_
 simp only [List.getElem?_take,BG,List.getElem?_modify]
 by_cases hj:j<n
 ·rw [if_pos hj,if_pos hj]
  have hkj:¬ k=j:=by omega
  cases l[j]? <;> simp [hkj]
 ·rw [if_neg hj,if_neg hj]
theorem PL {l:List Oper} {k p n:Nat} (h:n≤k):(BG l k p).drop n=(l.drop n).modify (k - n) fun o=>{ o with after:=o.after.push ⟨p,.data⟩ }:=by
 refine List.ext_getElem? fun j=>?_
 simp only [List.getElem?_drop,BG,List.getElem?_modify]
 have hkj:k=n+j ↔ k - n=j:=by omega
 cases l[n+j]? <;> simp [hkj]
section
variable {P:Program} {md:Region.Mode} {Q:Exit→Act→World→Prop}
theorem PM (hQ:∀ (d:Option Tmp) v c a w,Q (.panic c) (Act.put a d v) w→Q (.panic c) a w):∀ (es:List (Nat × Nat)) (l:List Oper),Sv md l es=true→∀ (f:Nat) (listed:Array Bool) (a:Act) (w:World),listed.size=l.length →
  wpAny P md (Cu l es).toArray Q f listed a w→wpAny P md l.toArray Q f listed a w
 | [],_,_,_,_,_,_,_,h=>h
 | (k,p)::es,l,hB,f,listed,a,w,hs,h=>by
  simp only [Sv,Bool.and_eq_true] at hB
  exact Np hB.1 hQ f listed a w hs (PM hQ es _ hB.2 f listed a w (by rw [Mg];exact hs) h)
theorem Nq:∀ (es:List (Nat × Nat)) (l:List Oper) (n:Nat),(es.all fun e=>decide (n≤e.1))=true→(Cu l es).take n=l.take n
 | [],_,_,_=>rfl
 | (k,p)::es,l,n,h=>by
  simp only [List.all_cons,Bool.and_eq_true,decide_eq_true_eq] at h
  unfold Cu
  rw [Nq es _ n h.2,PK h.1]
theorem Nr:∀ (es:List (Nat × Nat)) (l:List Oper) (n:Nat),(es.all fun e=>decide (n≤e.1))=true→wpList P (Cu l es).toArray Q ((Cu l es).drop n)=wpList P l.toArray Q (l.drop n)
 | [],_,_,_=>rfl
 | (k,p)::es,l,n,h=>by
  simp only [List.all_cons,Bool.and_eq_true,decide_eq_true_eq] at h
  unfold Cu
  rw [Nr es _ n h.2,PL h.1]
  exact funext fun a=>funext fun w=>GN _ _ a w
end
section
variable {P:Program} {G:World→Prop} {N:Nat} {F:Frm} {H:List Ob} {Q:UO}
theorem Oi {id:Nat} {l:List Oper} (n:Nat) (es:List (Nat × Nat)) (hm:P.follows .mixedOrders=true) (hB:(Sk N l && VF .any (l.take n).toArray && MQ .any (Cu l es).toArray n && Sv .any l es && es.all fun e=>decide (n≤e.1))=true)
    (h:Ch P G (l.take n).toArray (l.take n) F H fun F' H'=>Ti P G l.toArray (l.drop n) F' H' (Q .normal)):CW P G N (.region id l.toArray true) F H Q:=fun b0 w0 S0 a m hG hH hs=>by
  subst hH
  simp only [Bool.and_eq_true] at hB
  obtain ⟨⟨⟨⟨hd,hC⟩,hp⟩,he⟩,hk⟩:=hB
  have hd1:Sk N (l.take n)=true:=List.all_eq_true.2 fun o ho=>List.all_eq_true.1 hd o (List.mem_of_mem_take ho)
  have hd2:Sk N (l.drop n)=true:=List.all_eq_true.2 fun o ho=>List.all_eq_true.1 hd o (List.mem_of_mem_drop ho)
  have hn:n<l.length:=by
    have:=hp
    simp only [MQ,Bool.and_eq_true,decide_eq_true_eq,List.size_toArray,FJ] at this
    exact this.1.1.1.1
  have hlen:(l.take n).length=n:=by simp;omega
  have hsz:(l.take n).toArray.size=n:=by simp;omega
  refine wp_region_noPanic (wp_region_any hm ?_)
  obtain ⟨Fs,Hs,xs,obs,h1,h2,h3,h4⟩:=h.seq
  have hs':=hs.drew
  let R:Exit→Act→World→Prop:=NoPanic fun e a w=>∃ F' m',m'.w=w∧St b0 N w0 S0 F' a m'∧Q e F' m'.H
  have key:wpAny P .any (l.take n).toArray (IY P l.toArray R (l.drop n)) n (Array.replicate n false) a m.w.drew:=by
    refine QZ (G:=G) (w0:=w0) (S0:=S0) (b0:=b0) hG hC (N:=N) (by simpa using hd1) (Fs:=Fs) (Hs:=Hs) (xs:=xs) (obs:=obs) (fun i o hi=>h4 i o (by simpa using hi)) (fun a' m' hH' hst=>?_) n (Array.replicate n false) a { m with w:=m.w.drew,H:=Hs n } ?_ (by simp [AaW])
    · rw [hsz] at hst hH'
      rw [hlen] at h3
      rw [←hH'] at h3
      exact VE hG (l.drop n) (Fs n) a' m' (Q .normal) hd2 hst h3 fun F'' a'' m'' k1 k2=>⟨F'',m'',rfl,k1,k2⟩
    · have:=GL (P:=P) (G:=G) (ops:=(l.take n).toArray) (Fs:=Fs) (Hs:=Hs) (xs:=xs) (obs:=obs) (fun i o hi=>h4 i o (by simpa using hi)) (by rw [h1];exact hs') (m:={ m with w:=m.w.drew }) h2.symm
      rw [hsz] at this
      exact this
  have hPQ:IY P (Cu l es).toArray R ((Cu l es).drop n)=IY P l.toArray R (l.drop n):=by
    funext e a w
    cases e <;> first
      | (show wpList P _ R _ a w = wpList P _ R _ a w
         rw [Nr es l n hk])
      | rfl
  rw [←Nq es l n hk,←hPQ] at key
  have inv0:HeadInv .any (Cu l es).toArray n (Array.replicate (Cu l es).toArray.size false) :=
    ⟨by simp,fun j oj _ hl=>(by rw [getD_replicate_false] at hl;cases hl),fun t _ ht=>getD_in (by simpa using ht) (getD_replicate_false _ _)⟩
  have hall:=Ib hp n (Array.replicate (Cu l es).toArray.size false) (Array.replicate n false) a m.w.drew inv0 (by simp) (fun i _=>by rw [getD_replicate_false,getD_replicate_false]) key
  have hsl:(Cu l es).toArray.size=l.toArray.size:=by simp [FJ]
  rw [hsl,show n+(l.toArray.size - n)=l.toArray.size by simp;omega] at hall
  exact PM (by intro _ _ _ _ _ h;exact h) es l he _ _ _ _ (by simp) hall
end
end Go.Proofs.YtmdfjbpggbhgnaaGreatDoor
namespace Go.Proofs.YtmdfjbpggbhgnaaGreatDoor
open Go.RowKit
structure TyI (P:Program) (t:TypeId):Prop where
 h:P.underlying t=some (.interface (P.methodsAt t))
def cI (xs:List Int):List C:=xs.map fun z=>.d (.val (.int .i64 z))
section
variable {P:Program} {G:World→Prop} {o:Oper} {F:Frm} {H:List Ob}
theorem Oj {op:BinOp} {t t':TypeId} {x:Operand} {u:Value} {b:Bool} (ho:o.op=.binOp op t x (.const .nilIface) t') (ht:TyI P t) (hx:F.ev x=.one (.d (.val u))) (hb:(op=.eql∧u=.nilIface∧b=true)∨(op=.neq∧u=.nilIface∧b=false)∨(op=.eql∧(∃ t v,u=.iface t v)∧b=false)∨(op=.neq∧(∃ t v,u=.iface t v)∧b=true)):Bs P G o F H (.one (.d (.val (.bool b)))) []:=by
 have hu:=ht.h
 rcases hb with ⟨rfl,rfl,rfl⟩|⟨rfl,rfl,rfl⟩|⟨rfl,⟨t2,v,rfl⟩,rfl⟩|⟨rfl,⟨t2,v,rfl⟩,rfl⟩
 ·refine CZ (y:=.const .nilIface) ho hx rfl (fun w=>?_) rfl
  have:=run_eql_nil_nil (P:=P) w t hu
  simp [eqGuard,this]
 ·refine CZ (y:=.const .nilIface) ho hx rfl (fun w=>?_) rfl
  have:=run_neq_nil_nil (P:=P) w t hu
  simp [eqGuard,this]
 ·refine CZ (y:=.const .nilIface) ho hx rfl (fun w=>?_) rfl
  have:=run_eql_held_nil (P:=P) w t t2 v hu
  simp [eqGuard,this]
 ·refine CZ (y:=.const .nilIface) ho hx rfl (fun w=>?_) rfl
  have:=run_neq_held_nil (P:=P) w t t2 v hu
  simp [eqGuard,this]
end
end Go.Proofs.YtmdfjbpggbhgnaaGreatDoor
namespace Go.Proofs.YtmdfjbpggbhgnaaGreatDoor
open Go.RowKit
theorem Al:TyK Tryz.prog 3 false 1:=⟨⟨_,Tryz.underlying3,rfl⟩,by kernel_rfl⟩
theorem Bj:TyZ Tryz.prog 3 (.int .i64 0) 1 8:=⟨by kernel_rfl,rfl,by kernel_rfl⟩
theorem Ij:TyK Tryz.prog 4 false 1:=⟨⟨_,Tryz.underlying4,rfl⟩,by kernel_rfl⟩
theorem AY:TyK Tryz.prog 126 false 1:=⟨⟨_,Tryz.underlying126,rfl⟩,by kernel_rfl⟩
theorem DY:TyZ Tryz.prog 126 (.int .u32 0) 1 4:=⟨by kernel_rfl,rfl,by kernel_rfl⟩
theorem AM:TyK Tryz.prog 24 false 1:=⟨⟨_,Tryz.underlying24,rfl⟩,by kernel_rfl⟩
theorem AG:TyK Tryz.prog 41 false 1:=⟨⟨_,Tryz.underlying41,rfl⟩,by kernel_rfl⟩
theorem ET:TyK Tryz.prog 22 false 1:=⟨⟨_,Tryz.underlying22,rfl⟩,by kernel_rfl⟩
theorem Bt:TyK Tryz.prog 23 false 1:=⟨⟨_,Tryz.underlying23,rfl⟩,by kernel_rfl⟩
theorem AJ:TyK Tryz.prog 27 false 1:=⟨⟨_,Tryz.underlying27,rfl⟩,by kernel_rfl⟩
theorem An:TyK Tryz.prog 28 false 1:=⟨⟨_,Tryz.underlying28,rfl⟩,by kernel_rfl⟩
theorem Mh:TyZ Tryz.prog 28 (.slice none 0 0) 1 24:=⟨by kernel_rfl,rfl,by kernel_rfl⟩
theorem Bi:TyK Tryz.prog 26 true 3:=⟨⟨_,Tryz.underlying26,rfl⟩,by kernel_rfl⟩
theorem TX:TyZ Tryz.prog 26 (.agg #[.slice none 0 0,.slice none 0 0,.slice none 0 0]) 3 72:=⟨by kernel_rfl,rfl,by kernel_rfl⟩
theorem Mi:TyF Tryz.prog 26 0 0 22:=⟨_,_,Tryz.underlying26,rfl,rfl,rfl⟩
theorem CB:TyF Tryz.prog 26 1 1 23:=⟨_,_,Tryz.underlying26,rfl,rfl,rfl⟩
theorem DP:TyF Tryz.prog 26 2 2 24:=⟨_,_,Tryz.underlying26,rfl,rfl,rfl⟩
theorem TY:TyB Tryz.prog 26 [(0,1),(1,1),(2,1)] [.slice none 0 0,.slice none 0 0,.slice none 0 0]:=⟨⟨_,Tryz.underlying26,by kernel_rfl⟩,by kernel_rfl,by kernel_rfl⟩
theorem CC:TyK Tryz.prog 30 true 3:=⟨⟨_,Tryz.underlying30,rfl⟩,by kernel_rfl⟩
theorem Abj:TyZ Tryz.prog 30 (.agg #[.slice none 0 0,.slice none 0 0,.slice none 0 0]) 3 72:=⟨by kernel_rfl,rfl,by kernel_rfl⟩
theorem DT:TyF Tryz.prog 30 0 0 24:=⟨_,_,Tryz.underlying30,rfl,rfl,rfl⟩
theorem Df:TyF Tryz.prog 30 1 1 27:=⟨_,_,Tryz.underlying30,rfl,rfl,rfl⟩
theorem Bw:TyF Tryz.prog 30 2 2 28:=⟨_,_,Tryz.underlying30,rfl,rfl,rfl⟩
theorem Abk:TyB Tryz.prog 30 [(0,1),(1,1),(2,1)] [.slice none 0 0,.slice none 0 0,.slice none 0 0]:=⟨⟨_,Tryz.underlying30,by kernel_rfl⟩,by kernel_rfl,by kernel_rfl⟩
theorem BB:TyK Tryz.prog 34 true 2:=⟨⟨_,Tryz.underlying34,rfl⟩,by kernel_rfl⟩
theorem DZ:TyZ Tryz.prog 34 (.agg #[.int .i64 0,.int .i64 0]) 2 16:=⟨by kernel_rfl,rfl,by kernel_rfl⟩
theorem FK:TyB Tryz.prog 34 [(0,1),(1,1)] [.int .i64 0,.int .i64 0]:=⟨⟨_,Tryz.underlying34,by kernel_rfl⟩,by kernel_rfl,by kernel_rfl⟩
theorem Aa:TyK Tryz.prog 43 true 3:=⟨⟨_,Tryz.underlying43,rfl⟩,by kernel_rfl⟩
theorem Aj:TyZ Tryz.prog 43 (.agg #[.bool false,.slice none 0 0,.int .i64 0]) 3 40:=⟨by kernel_rfl,rfl,by kernel_rfl⟩
theorem Ns:TyF Tryz.prog 43 0 0 4:=⟨_,_,Tryz.underlying43,rfl,rfl,rfl⟩
theorem BH:TyF Tryz.prog 43 1 1 41:=⟨_,_,Tryz.underlying43,rfl,rfl,rfl⟩
theorem Bm:TyF Tryz.prog 43 2 2 3:=⟨_,_,Tryz.underlying43,rfl,rfl,rfl⟩
theorem Ev:TyB Tryz.prog 43 [(0,1),(1,1),(2,1)] [.bool false,.slice none 0 0,.int .i64 0]:=⟨⟨_,Tryz.underlying43,by kernel_rfl⟩,by kernel_rfl,by kernel_rfl⟩
theorem Ag:TyK Tryz.prog 45 true 6:=⟨⟨_,Tryz.underlying45,rfl⟩,by kernel_rfl⟩
theorem Ao:TyZ Tryz.prog 45 (.agg #[.bool false,.slice none 0 0,.int .i64 0,.bool false,.slice none 0 0,.int .i64 0]) 6 80:=⟨by kernel_rfl,rfl,by kernel_rfl⟩
theorem Bg:TyF Tryz.prog 45 0 0 43:=⟨_,_,Tryz.underlying45,rfl,rfl,rfl⟩
theorem Av:TyF Tryz.prog 45 1 3 43:=⟨_,_,Tryz.underlying45,rfl,rfl,rfl⟩
theorem Di:TyB Tryz.prog 45 [(0,3),(3,3)] [.bool false,.slice none 0 0,.int .i64 0,.bool false,.slice none 0 0,.int .i64 0]:=⟨⟨_,Tryz.underlying45,by kernel_rfl⟩,by kernel_rfl,by kernel_rfl⟩
theorem AI:TyK Tryz.prog 61 true 2:=⟨⟨_,Tryz.underlying61,rfl⟩,by kernel_rfl⟩
theorem DQ:TyF Tryz.prog 61 0 0 3:=⟨_,_,Tryz.underlying61,rfl,rfl,rfl⟩
theorem Cm:TyF Tryz.prog 61 1 1 3:=⟨_,_,Tryz.underlying61,rfl,rfl,rfl⟩
theorem VS:TyB Tryz.prog 61 [(0,1),(1,1)] [.int .i64 0,.int .i64 0]:=⟨⟨_,Tryz.underlying61,by kernel_rfl⟩,by kernel_rfl,by kernel_rfl⟩
theorem Au:TyK Tryz.prog 63 true 6:=⟨⟨_,Tryz.underlying63,rfl⟩,by kernel_rfl⟩
theorem Aw:TyZ Tryz.prog 63 (.agg #[.int .i64 0,.slice none 0 0,.int .i64 0,.int .i64 0,.int .i64 0,.int .i64 0]) 6 64:=⟨by kernel_rfl,rfl,by kernel_rfl⟩
theorem PN:TyF Tryz.prog 63 0 0 3:=⟨_,_,Tryz.underlying63,rfl,rfl,rfl⟩
theorem Cy:TyF Tryz.prog 63 1 1 24:=⟨_,_,Tryz.underlying63,rfl,rfl,rfl⟩
theorem CG:TyF Tryz.prog 63 2 2 61:=⟨_,_,Tryz.underlying63,rfl,rfl,rfl⟩
theorem CH:TyF Tryz.prog 63 3 4 61:=⟨_,_,Tryz.underlying63,rfl,rfl,rfl⟩
theorem Ll:TyB Tryz.prog 63 [(0,1),(1,1),(2,2),(4,2)] [.int .i64 0,.slice none 0 0,.int .i64 0,.int .i64 0,.int .i64 0,.int .i64 0]:=⟨⟨_,Tryz.underlying63,by kernel_rfl⟩,by kernel_rfl,by kernel_rfl⟩
theorem FM:TyK Tryz.prog 81 true 3:=⟨⟨_,Tryz.underlying81,rfl⟩,by kernel_rfl⟩
theorem Rd:TyZ Tryz.prog 81 (.agg #[.int .i64 0,.int .i64 0,.int .i64 0]) 3 24:=⟨by kernel_rfl,rfl,by kernel_rfl⟩
theorem Sw:TyF Tryz.prog 81 0 0 3:=⟨_,_,Tryz.underlying81,rfl,rfl,rfl⟩
theorem Sy:TyF Tryz.prog 81 1 1 3:=⟨_,_,Tryz.underlying81,rfl,rfl,rfl⟩
theorem Sz:TyF Tryz.prog 81 2 2 3:=⟨_,_,Tryz.underlying81,rfl,rfl,rfl⟩
theorem Abl:TyB Tryz.prog 81 [(0,1),(1,1),(2,1)] [.int .i64 0,.int .i64 0,.int .i64 0]:=⟨⟨_,Tryz.underlying81,by kernel_rfl⟩,by kernel_rfl,by kernel_rfl⟩
theorem Ab:TyS Tryz.prog 24 3 1:=⟨Tryz.underlying24,by kernel_rfl⟩
theorem Bc:TyS Tryz.prog 41 126 1:=⟨Tryz.underlying41,by kernel_rfl⟩
theorem CS:TyS Tryz.prog 22 81 3:=⟨Tryz.underlying22,by kernel_rfl⟩
theorem Ae:TyS Tryz.prog 23 63 6:=⟨Tryz.underlying23,by kernel_rfl⟩
theorem Af:TyS Tryz.prog 27 45 6:=⟨Tryz.underlying27,by kernel_rfl⟩
theorem Ac:TyS Tryz.prog 28 43 3:=⟨Tryz.underlying28,by kernel_rfl⟩
theorem BJ:TyS Tryz.prog 46 28 1:=⟨Tryz.underlying46,by kernel_rfl⟩
theorem AQ:TyI Tryz.prog 36:=⟨by kernel_rfl⟩
end Go.Proofs.YtmdfjbpggbhgnaaGreatDoor
namespace Go.Proofs.YtmdfjbpggbhgnaaGreatDoor
open Go.RowKit
inductive TEq:D→D→Prop
 | val (v:Value):TEq (.val v) (.val v)
 | row {t t':Bool} {s n:Nat} {cs ds:List D} (hl:cs.length=ds.length) (hr:∀ (j:Nat) (c d:D),cs[j]?=some c→ds[j]?=some d→TEq c d):TEq (.row t s n cs) (.row t' s n ds)
 | ptr {t t':Bool} {cs ds:List D} (hl:cs.length=ds.length) (hr:∀ (j:Nat) (c d:D),cs[j]?=some c→ds[j]?=some d→TEq c d):TEq (.ptr t cs) (.ptr t' ds)
def anyS (S:Eu):Eu:=fun _ b=>S true b∨S false b
def Yx (w w':World):Eu:=fun t b=>t=false∧w.heap.size≤b∧b<w'.heap.size
def CVF (P:Program) (G:World→Prop) (f:FuncId) (args res:List A):Prop :=
 ∀ (w:World) (S:Eu) (vs:List Value),G w→(∀ t b,S t b→b<w.heap.size)→Bv (EN w S) args vs →
  Calls P f vs.toArray w fun e w'=>∃ v,e=.returned v∧Yk w' (Yx w w') res v∧Below w.heap.size w w'
theorem Yk.mono {w w':World} {S S':Eu} (hS:∀ t b,S t b→S' t b) (hw:∀ t b,S t b→w'.heap[b]?=w.heap[b]?) {res:List A} {v:Value} (h:Yk w S res v):Yk w' S' res v:=by
 match res,h with
 | [],h=>obtain ⟨vs,h1,h2⟩:=h;exact ⟨vs,h1,h2.imp fun _ _=>EN.mono hS hw⟩
 | [x],h=>exact EN.mono hS hw h
 | x::y::l,h=>obtain ⟨vs,h1,h2⟩:=h;exact ⟨vs,h1,h2.imp fun _ _=>EN.mono hS hw⟩
theorem CVF.cv {P:Program} {G:World→Prop} {f:FuncId} {args res:List A} (h:CVF P G f args res):CV P G f args res:=fun w S vs hg hlt ha =>
 (h w S vs hg hlt ha).mono fun e w' ⟨v,h1,h2,h3⟩=>⟨v,h1,h2.mono (fun t b hb=>⟨hb.1,.inr hb.2⟩) (fun _ _ _=>rfl),h3⟩
inductive AEq:A→A→Prop
 | one {d d':D} (h:TEq d d'):AEq (.one d) (.one d')
 | agg {ds ds':List D} (h:Bv TEq ds ds'):AEq (.agg ds) (.agg ds')
def dI (z:Int):D:=.val (.int .i64 z)
def dB (b:Bool):D:=.val (.bool b)
def dU (z:Nat):D:=.val (.int .u32 (z:Int))
def aI (z:Int):A:=.one (dI z)
def aB (b:Bool):A:=.one (dB b)
def BQ (t:Bool) (xs:List Int):D:=.row t 1 xs.length (xs.map dI)
def AN {α:Type} (f:α→List D) (l:List α):List D:=(l.map f).flatten
theorem PO {α:Type} (f:α→List D) (a b:List α):AN f (a++b)=AN f a++AN f b:=by simp [AN]
theorem VT {α:Type} {f:α→List D} {s:Nat} (hf:∀ x,(f x).length=s) (l:List α):(AN f l).length=l.length*s:=by
 induction l with
 | nil=>simp [AN]
 | cons x l ih =>
  simp only [AN,List.map_cons,List.flatten_cons,List.length_append,List.length_cons] at ih ⊢
  rw [ih,hf,Nat.add_mul]
  omega
theorem Fh {α:Type} {f:α→List D} {s:Nat} (hf:∀ x,(f x).length=s):∀ {l:List α} {k:Nat} {x:α},l[k]?=some x→((AN f l).drop (k*s)).take s=f x
 | [],k,x,h=>by simp at h
 | y::l,0,x,h=>by
  simp only [List.getElem?_cons_zero,Option.some.injEq] at h
  subst h
  simp only [AN,List.map_cons,List.flatten_cons,Nat.zero_mul,List.drop_zero]
  rw [List.take_append_of_le_length (by rw [hf];exact Nat.le_refl _),List.take_of_length_le (by rw [hf];exact Nat.le_refl _)]
 | y::l,k+1,x,h=>by
  simp only [List.getElem?_cons_succ] at h
  have ih:=Fh hf h
  simp only [AN,List.map_cons,List.flatten_cons] at ih ⊢
  rw [←ih,show (k+1)*s=(f y).length+k*s by rw [hf,Nat.add_mul];omega,List.drop_append]
  rw [List.drop_of_length_le (by omega),List.nil_append]
  congr 2
  omega
theorem Nt {α:Type} {f:α→D} {l:List α} {k:Nat} {x:α} (h:l[k]?=some x):((l.map f).drop (k*1)).take 1=[f x]:=by
 rw [Nat.mul_one]
 have hk:=(List.getElem?_eq_some_iff.1 h).1
 rw [←List.map_drop,←List.map_take,List.drop_eq_getElem_cons hk]
 have:l[k]=x:=(List.getElem?_eq_some_iff.1 h).2
 simp [this]
end Go.Proofs.YtmdfjbpggbhgnaaGreatDoor
namespace Go.Proofs.YtmdfjbpggbhgnaaGreatDoor
open Go.RowKit
section
variable {P:Program} {G:World→Prop} {N:Nat} {ops:Array Oper} {o:Oper} {F:Frm} {H:List Ob} {Q:UO} {K:Frm→List Ob→Prop}
theorem Yy {i:Nat} (h:Q .normal F H):IK i Q (.exit i) F H:=by
 show (match Nat.beq i i with|true=>Q .normal F H|false=>Q (.exit i) F H)
 rw [Nat.beq_refl]
 exact h
theorem AdY {l:List Oper} {j:Nat} {want bb:Bool} {oj:Oper} {t:Tmp} {x:X} {H2:List Ob} (hg:o.guard=some (j,want)) (hj:ops[j]?=some oj) (ht:oj.dst=some t) (hF:F t=.one (.d (.val (.bool bb)))) (hb:(bb == want)=true) (h:TOk P G o F H x H2) (k:Ti P G ops l (F.put o.dst x) H2 K):Ti P G ops (o::l) F H K :=
 .inr ⟨by unfold Dt;rw [hg];exact ⟨oj,t,hj,ht,.inl ⟨bb,hF,hb.symm⟩⟩,x,H2,h,k⟩
theorem AdZ {l:List Oper} {j:Nat} {want bb:Bool} {oj:Oper} {t:Tmp} {x:X} {obs:List Ob} (hg:o.guard=some (j,want)) (hj:ops[j]?=some oj) (ht:oj.dst=some t) (hF:F t=.one (.d (.val (.bool bb)))) (hb:(bb == want)=true) (h:Bs P G o F H x obs) (k:Ch P G ops l (F.put o.dst x) (H++obs) K):Ch P G ops (o::l) F H K :=
 .inr ⟨by unfold Dt;rw [hg];exact ⟨oj,t,hj,ht,.inl ⟨bb,hF,hb.symm⟩⟩,x,obs,h,k⟩
theorem Aea {j:Nat} {want bb:Bool} {oj:Oper} {t:Tmp} (hg:o.guard=some (j,want)) (hj:ops[j]?=some oj) (ht:oj.dst=some t) (hF:F t=.one (.d (.val (.bool bb)))) (hb:(bb == want)=false):Dt ops o F false:=by unfold Dt;rw [hg];exact ⟨oj,t,hj,ht,.inl ⟨bb,hF,hb.symm⟩⟩
theorem VU {j:Nat} {want:Bool} {oj:Oper} {t:Tmp} (hg:o.guard=some (j,want)) (hj:ops[j]?=some oj) (ht:oj.dst=some t) (hF:F t=.tup []):Dt ops o F false:=by unfold Dt;rw [hg];exact ⟨oj,t,hj,ht,.inr ⟨hF,rfl⟩⟩
theorem Abm {l:List Oper} {d:Tmp} (hw:Dt ops o F false) (hd:o.dst=some d) (k:Ti P G ops l (F.put (some d) (.tup [])) H K):Ti P G ops (o::l) F H K:=.inl ⟨hw,by rw [congrArg (fun q=>F.put q (X.tup [])) hd];exact k⟩
theorem Abn {l:List Oper} {d:Tmp} (hw:Dt ops o F false) (hd:o.dst=some d) (k:Ch P G ops l (F.put (some d) (.tup [])) H K):Ch P G ops (o::l) F H K:=.inl ⟨hw,by rw [congrArg (fun q=>F.put q (X.tup [])) hd];exact k⟩
theorem AfK {l:List Oper} {d:Tmp} {x:X} (hg:o.guard=none) (hd:o.dst=some d) (h:Bs P G o F H x []) (k:Ti P G ops l (F.put (some d) x) H K):Ti P G ops (o::l) F H K:=by
 refine AdI hg h ?_
 rw [congrArg (fun q=>F.put q x) hd]
 exact k
theorem ti_n {l:List Oper} {d:Tmp} {x:X} {ob:Ob} (hg:o.guard=none) (hd:o.dst=some d) (h:Bs P G o F H x [ob]) (k:Ti P G ops l (F.put (some d) x) (H++[ob]) K):Ti P G ops (o::l) F H K:=by
 refine AfG hg h ?_
 rw [congrArg (fun q=>F.put q x) hd]
 exact k
theorem ti_s {l:List Oper} {x:X} {H2:List Ob} (hg:o.guard=none) (hd:o.dst=none) (h:TOk P G o F H x H2) (k:Ti P G ops l F H2 K):Ti P G ops (o::l) F H K:=by
 have hp:F.put o.dst x=F:=by rw [hd];rfl
 refine Od hg h ?_
 rw [hp]
 exact k
theorem ti_t {l:List Oper} {d:Tmp} {x:X} {H2:List Ob} (hg:o.guard=none) (hd:o.dst=some d) (h:TOk P G o F H x H2) (k:Ti P G ops l (F.put (some d) x) H2 K):Ti P G ops (o::l) F H K:=by
 refine Od hg h ?_
 rw [congrArg (fun q=>F.put q x) hd]
 exact k
theorem AfL {l:List Oper} {d:Tmp} {x:X} (hg:o.guard=none) (hd:o.dst=some d) (h:Bs P G o F H x []) (k:Ch P G ops l (F.put (some d) x) H K):Ch P G ops (o::l) F H K:=by
 refine Yl hg h ?_
 rw [congrArg (fun q=>F.put q x) hd]
 exact k
theorem ch_n {l:List Oper} {d:Tmp} {x:X} {ob:Ob} (hg:o.guard=none) (hd:o.dst=some d) (h:Bs P G o F H x [ob]) (k:Ch P G ops l (F.put (some d) x) (H++[ob]) K):Ch P G ops (o::l) F H K:=by
 refine AaV hg h ?_
 rw [congrArg (fun q=>F.put q x) hd]
 exact k
theorem VV {x:Operand} {c:C} (ho:o.op=.move x) (hx:F.ev x=.one c):Bs P G o F H (.one c) []:=by rw [←hx];exact VJ ho
theorem Aeb {x:Operand} {l:List A} (ho:o.op=.move x) (hx:F.ev x=.tup l):Bs P G o F H (.tup l) []:=by rw [←hx];exact VJ ho
theorem Da {x:Operand} {c:C} (ho:o.op=.assign x) (hx:F.ev x=.one c):Bs P G o F H (.one c) []:=by rw [←hx];exact VK ho
theorem Aec {x:Operand} {i:Nat} {l:List A} {d:D} (ho:o.op=.extract x i) (hx:F.ev x=.tup l) (hy:l[i]?=some (.one d)):Bs P G o F H (.one (.d d)) []:=Nm ho hx hy
theorem FN {x:Operand} {i:Nat} {l:List A} {ds:List D} (ho:o.op=.extract x i) (hx:F.ev x=.tup l) (hy:l[i]?=some (.agg ds)):Bs P G o F H (.agg (ds.map .d)) []:=Nm ho hx hy
theorem Yz {c x y:Operand} {v:C} (ho:o.op=.pick c x y) (hc:F.ev c=.one (.d (.val (.bool true)))) (hx:F.ev x=.one v):Bs P G o F H (.one v) []:=by
 have:=VM (P:=P) (G:=G) (H:=H) ho hc
 dsimp only at this
 rwa [hx] at this
theorem YA {c x y:Operand} {v:C} (ho:o.op=.pick c x y) (hc:F.ev c=.one (.d (.val (.bool false)))) (hx:F.ev y=.one v):Bs P G o F H (.one v) []:=by
 have:=VM (P:=P) (G:=G) (H:=H) ho hc
 dsimp only at this
 rwa [hx] at this
theorem AfM {l:List Oper} {j:Nat} {want bb:Bool} {oj:Oper} {t d:Tmp} {x:X} (hg:o.guard=some (j,want)) (hd:o.dst=some d) (hj:ops[j]?=some oj) (ht:oj.dst=some t) (hF:F t=.one (.d (.val (.bool bb)))) (hb:(bb == want)=true) (h:Bs P G o F H x []) (k:Ti P G ops l (F.put (some d) x) H K):Ti P G ops (o::l) F H K:=by
 have h':=h.tok
 rw [List.append_nil] at h'
 refine AdY hg hj ht hF hb h' ?_
 rw [congrArg (fun q=>F.put q x) hd]
 exact k
theorem AfN {l:List Oper} {j:Nat} {want bb:Bool} {oj:Oper} {t d:Tmp} {x:X} (hg:o.guard=some (j,want)) (hd:o.dst=some d) (hj:ops[j]?=some oj) (ht:oj.dst=some t) (hF:F t=.one (.d (.val (.bool bb)))) (hb:(bb == want)=true) (h:Bs P G o F H x []) (k:Ch P G ops l (F.put (some d) x) H K):Ch P G ops (o::l) F H K:=by
 refine AdZ hg hj ht hF hb h ?_
 rw [congrArg (fun q=>F.put q x) hd,List.append_nil]
 exact k
section
variable {t t':TypeId} {x y:Operand} {k:IntKind} {p q:Int} {b:Bool}
theorem Abo (ho:o.op=.binOp .eql t x y t') (hx:F.ev x=.one (.d (.val (.int k p)))) (hy:F.ev y=.one (.d (.val (.int k q)))) (hb:(p == q)=b):Bs P G o F H (.one (.d (.val (.bool b)))) []:=hb ▸ AdO ho hx hy
theorem Abp (ho:o.op=.binOp .neq t x y t') (hx:F.ev x=.one (.d (.val (.int k p)))) (hy:F.ev y=.one (.d (.val (.int k q)))) (hb:(p != q)=b):Bs P G o F H (.one (.d (.val (.bool b)))) []:=hb ▸ AdP ho hx hy
theorem Abq (ho:o.op=.binOp .lss t x y t') (hx:F.ev x=.one (.d (.val (.int k p)))) (hy:F.ev y=.one (.d (.val (.int k q)))) (hb:decide (p<q)=b):Bs P G o F H (.one (.d (.val (.bool b)))) []:=hb ▸ LV ho hx hy
theorem Abr (ho:o.op=.binOp .leq t x y t') (hx:F.ev x=.one (.d (.val (.int k p)))) (hy:F.ev y=.one (.d (.val (.int k q)))) (hb:decide (p≤q)=b):Bs P G o F H (.one (.d (.val (.bool b)))) []:=hb ▸ AdQ ho hx hy
theorem VW (ho:o.op=.binOp .gtr t x y t') (hx:F.ev x=.one (.d (.val (.int k p)))) (hy:F.ev y=.one (.d (.val (.int k q)))) (hb:decide (q<p)=b):Bs P G o F H (.one (.d (.val (.bool b)))) []:=hb ▸ ZZ ho hx hy
theorem Abs (ho:o.op=.binOp .geq t x y t') (hx:F.ev x=.one (.d (.val (.int k p)))) (hy:F.ev y=.one (.d (.val (.int k q)))) (hb:decide (q≤p)=b):Bs P G o F H (.one (.d (.val (.bool b)))) []:=hb ▸ AdR ho hx hy
end
theorem Ik {p q:Int} (h:p=q):(p == q)=true:=by rw [h];exact beq_self_eq_true q
theorem Mj {p q:Int} (h:p≠q):(p == q)=false:=beq_eq_false_iff_ne.2 h
theorem Ok {p q:Int} (h:p≠q):(p != q)=true:=by simp [bne,Mj h]
theorem Re {p q:Int} (h:p=q):(p != q)=false:=by simp [bne,Ik h]
theorem YB {p:Prop} [Decidable p] (h:p):decide p=true:=decide_eq_true h
theorem YC {p:Prop} [Decidable p] (h:¬ p):decide p=false:=decide_eq_false h
theorem Ap {fn:Func} {res:List A} {rs:List ResultVar} (hr:fn.results.toList=rs) (h:Bv (RV P F H) rs res):AfH P fn res .ret F H:=⟨.inl rfl,by rw [hr];exact h⟩
theorem MT {t:Tmp} {z z':Int} (hF:F t=.one (.d (.val (.int .i64 z)))) (hz:z=z'):RV P F H (.tmp t) (aI z'):=.tmp (by rw [hF,hz];exact .one (.d fun _=>.val _))
theorem BL {t:Tmp} {z z':Bool} (hF:F t=.one (.d (.val (.bool z)))) (hz:z=z'):RV P F H (.tmp t) (aB z'):=.tmp (by rw [hF,hz];exact .one (.d fun _=>.val _))
end
section
variable {P:Program} {G:World→Prop} {o:Oper} {F:Frm} {H:List Ob}
theorem PP {t:TypeId} {x y:Operand} {id off k:Nat} {kk:Option Nat} {ob:Ob} {cy:List C} {b:Bool} (ho:o.op=.store t x y) (hx:F.ev x=.one (.ref id off kk)) (hH:H[id]?=some ob) (hk:ob.k=some kk) (hy:EB (F.ev y)=some cy) (hty:TyK P t b k) (hlen:Nat.beq cy.length k=true) (hoff:off+cy.length≤ob.cs.length) :
  TOk P G o F H .any (H.set id (ob.setC (ob.cs.take off++cy++ob.cs.drop (off+cy.length)))):=by
 have hlen:=Nat.eq_of_beq_eq_true hlen
 subst hlen
 exact Ss ho hx hH hk hy hty hoff
theorem GB {t e:TypeId} {x y:Operand} {tg:Bool} {s n i:Nat} {cs es:List D} {k:IntKind} {z:Int} (ho:o.op=.indexAddr t x y) (hx:F.ev x=.one (.d (.row tg s n cs))) (hy:F.ev y=.one (.d (.val (.int k z)))) (hz:z=(i:Int)) (ht:TyS P t e s) (hi:i<n) (hs:0<s) (hes:(cs.drop (i*s)).take s=es):Bs P G o F H (.one (.d (.ptr tg es))) []:=by
 subst hz
 exact IM ho hx hy ht .row hi hs (.row hes)
theorem Eg {t e ty:TypeId} {x y:Operand} {id s n i:Nat} {cs:List C} {k:IntKind} {z:Int} (ho:o.op=.indexAddr t x y) (hx:F.ev x=.one (.own id n)) (hH:H[id]?=some (.row ty s n cs)) (hy:F.ev y=.one (.d (.val (.int k z)))) (hz:z=(i:Int)) (ht:TyS P t e s) (hi:i<n) (hs:0<s):Bs P G o F H (.one (.ref id (i*s) (some n))) []:=by
 subst hz
 exact IM ho hx hy ht (.own hH) hi hs (.own hH)
end
section
variable {P:Program} {G:World→Prop} {o:Oper} {F:Frm} {H:List Ob}
theorem Ew {t e:TypeId} {x:Operand} {s by_:Nat} {z:Value} {cs:List C} (ho:o.op=.buildSlice t 1 #[(0,x)]) (ht:TyS P t e s) (hz:TyZ P e z s by_) (hx:EB (F.ev x)=some cs) (hcs:Nat.beq cs.length s=true) (hs:s≤1000) (h0:0<s):Bs P G o F H (.one (.own H.length 1)) [.row e s 1 cs]:=by
 have hc:=Nat.eq_of_beq_eq_true hcs
 have hl:(ES (madeCells z.cells (1*s)).toList).length=s:=by simp [ES,madeCells]
 refine Fg (ps:=[(0,cs)]) ho ht hz (by omega) (by decide) (by simp [GA,hx]) ?_ (by omega) h0
 unfold FD
 simp only [hcs,Nat.zero_mul,Nat.zero_add,hc,hl,FD]
 rw [show Nat.ble s s=true from Nat.ble_eq ▸ Nat.le_refl _,show Nat.beq s s=true from Nat.beq_refl _]
 simp only [List.take_zero,List.nil_append,List.drop_eq_nil_of_le (Nat.le_of_eq hl),List.append_nil]
theorem EU {t e:TypeId} {x y:Operand} {s by_:Nat} {z:Value} {cs cs':List C} (ho:o.op=.buildSlice t 2 #[(0,x),(1,y)]) (ht:TyS P t e s) (hz:TyZ P e z s by_) (hx:EB (F.ev x)=some cs) (hy:EB (F.ev y)=some cs') (hcs:Nat.beq cs.length s=true) (hcs':Nat.beq cs'.length s=true) (hs:s≤1000) (h0:0<s):Bs P G o F H (.one (.own H.length 2)) [.row e s 2 (cs++cs')]:=by
 have hc:=Nat.eq_of_beq_eq_true hcs
 have hc':=Nat.eq_of_beq_eq_true hcs'
 have hl:(ES (madeCells z.cells (2*s)).toList).length=2*s:=by simp [ES,madeCells]
 refine Fg (ps:=[(0,cs),(1,cs')]) ho ht hz (by omega) (by decide) (by simp [GA,hx,hy]) ?_ (by simp;omega) h0
 unfold FD
 simp only [Nat.zero_mul,Nat.zero_add,hc,hl,List.take_zero,List.nil_append]
 rw [show Nat.ble s (2*s)=true from Nat.ble_eq ▸ (by omega),show Nat.beq s s=true from Nat.beq_refl _]
 simp only []
 unfold FD
 simp only [Nat.one_mul,hc',List.length_append,List.length_drop,hc,hl]
 rw [show Nat.ble (s+s) (s+(2*s - s))=true from Nat.ble_eq ▸ (by omega),show Nat.beq s s=true from Nat.beq_refl _]
 simp only [FD]
 have hX:(List.drop s (ES (madeCells z.cells (2*s)).toList)).length=s:=by rw [List.length_drop,hl];omega
 rw [List.drop_eq_nil_of_le (i:=s+s) (h:=by rw [List.length_append,hX];omega),List.append_nil,List.take_append_of_le_length (by omega),List.take_of_length_le (by omega)]
theorem Aac {t e:TypeId} {x y:Operand} {id id' n m' n' s by_:Nat} {ty':TypeId} {z:Value} {cs news cs2:List C} (ho:o.op=.call { callee:=.builtin .append,args:=#[x,y],argTypes:=#[t,t] }) (hx:F.ev x=.one (.own id n)) (hH:H[id]?=some (.row e s n cs)) (hy:F.ev y=.one (.own id' m')) (hH':H[id']?=some (.row ty' s m' news)) (hne:Nat.beq id' id=false) (ht:TyS P t e s) (hz:TyZ P e z s by_) (hn:n+m'≤100000000000) (hby:by_≤1000) (h0:0<s) (hl:Nat.beq news.length (m'*s)=true) (hys:cs++news=cs2) (hn':n+m'=n'):TOk P G o F H (.one (.own id n')) (H.set id (.row e s n' cs2)):=by
 subst hys
 subst hn'
 exact VN ho hx hH hy (.own hH' (fun h=>by rw [h,Nat.beq_refl] at hne;cases hne)) ht hz hn h0 hby (Nat.eq_of_beq_eq_true hl)
end
theorem AK:Tryz.prog.follows .mixedOrders=true:=by kernel_rfl
section
variable {α β:Type} {R:α→β→Prop} {t:Bool} {H:List Ob}
theorem Ay {l:List α} {m:List β} {a:α} {b:β} {aS':List α} {bs':List β} (h1:l=a::aS') (h2:m=b::bs') (h:R a b) (hl:Bv R aS' bs'):Bv R l m:=by rw [h1,h2];exact Bv.cons_ h hl
theorem AC {l:List α} {m:List β} (h1:l=[]) (h2:m=[]):Bv R l m:=by rw [h1,h2];exact Bv.nil_
theorem SA {x:X} {y:A} {c:C} {d:D} (hx:x=.one c) (hy:y=.one d) (h:Gq t H c d):Lk t H x y:=by rw [hx,hy];exact .one h
theorem SE {x:X} {y:A} {cs:List C} {ds:List D} (hx:x=.agg cs) (hy:y=.agg ds) (h:Bv (Gq t H) cs ds):Lk t H x y:=by rw [hx,hy];exact .agg h
theorem Db {c:C} {x:D} (hc:c=.d x) (h:t=false→FB x):Gq t H c x:=by rw [hc];exact .d h
theorem IO {c:C} {y:D} {id ty s n:Nat} {cs:List C} {ds:List D} (hc:c=.own id n) (hH:H[id]?=some (.row ty s n cs)) (hy:y=.row t s n ds) (h:Bv (Gq t H) cs ds):Gq t H c y:=by rw [hc,hy];exact .own hH h.1 h.2
end
structure FnOk (P:Program) (f:FuncId):Prop where
 h : ∃ fn c, P.funcs[f]? = some fn ∧ (fn.name == "runtime.NumGoroutine") = false ∧ fn.body = some c
section
variable {P:Program} {G:World→Prop} {o:Oper} {F:Frm} {H:List Ob}
theorem AfO {f:FuncId} {xs:Array Operand} {ts:Array TypeId} {args res:List A} {x:X} (hf:FnOk P f) (h:CV P G f args res) (ho:o.op=.call { callee:=.value (.func f),args:=xs,argTypes:=ts }) (ha:Bv (fun x y=>Lk true H (F.ev x) y) xs.toList args) (hx:Adk res=x):Bs P G o F H x []:=by
 obtain ⟨fn,c,h1,h2,h3⟩:=hf.h
 rw [←hx]
 exact Abc ho h1 h2 h3 h ha
end
def C.belB (n:Nat):C→Bool
 | .d _=>true
 | .own id _=>Nat.ble (id+1) n
 | .ref id _ _=>Nat.ble (id+1) n
 | .clo _ caps=>caps.all fun p=>Nat.ble (p.1+1) n
 | .emp=>true
def X.belB (n:Nat):X→Bool
 | .one c=>c.belB n
 | .agg cs=>cs.all (C.belB n)
 | .tup _=>true
 | .any=>true
 | .pin l=>l.all fun p=>Nat.ble (p.1+1) n
theorem VX {n:Nat} {c:C} (h:c.belB n=true):c.bel n:=by
 cases c with
 | d x=>trivial
 | own id k=>exact Nat.le_of_ble_eq_true h
 | ref id off k=>exact Nat.le_of_ble_eq_true h
 | clo fn caps=>exact fun p hp=>Nat.le_of_ble_eq_true (List.all_eq_true.1 h p hp)
 | emp=>trivial
theorem Aed {n:Nat} {x:X} (h:x.belB n=true):x.bel n:=by
 cases x with
 | one c=>exact VX h
 | agg cs=>exact fun c hc=>VX (List.all_eq_true.1 h c hc)
 | tup l=>trivial
 | any=>trivial
 | pin l=>exact fun p hp=>Nat.le_of_ble_eq_true (List.all_eq_true.1 h p hp)
def SF (F:Frm) (n:Nat):List (Nat × X)→Prop
 | []=>True
 | (s,x)::l=>F s=x∧x.belB n=true∧SF F n l
theorem SI {F:Frm} {n:Nat}:∀ {l:List (Nat × X)},SF F n l→Su F n l
 | [],_=>trivial
 | (s,x)::l,h=>⟨h.1,Aed h.2.1,SI h.2.2⟩
def AfP (n:Nat):List Ob→Prop
 | []=>True
 | ob::l=>(∀ c∈ob.cs,C.bel n c)∧AfP n l
theorem VY {n:Nat}:∀ {l:List Ob},AfP n l→∀ ob∈l,∀ c∈ob.cs,C.bel n c
 | [],_,ob,h=>by cases h
 | o::l,h,ob,hm=>by
  rcases List.mem_cons.1 hm with rfl|hm
  ·exact h.1
  ·exact VY h.2 ob hm
theorem AF {n:Nat} {cs:List C} (h:cs.all (C.belB n)=true):∀ c∈cs,C.bel n c:=fun c hc=>VX (List.all_eq_true.1 h c hc)
theorem BM {N:Nat} {F:Frm} {H H':List Ob} (l:List (Nat × X)) (n:Nat) (hH:H.take n=H') (h:SF F n l) (hb:AfP n H'):Wk N F H (ofL l) H':=by
 subst hH
 exact AfJ l n (SI h) (VY hb)
end Go.Proofs.YtmdfjbpggbhgnaaGreatDoor
namespace Go.Proofs.YtmdfjbpggbhgnaaGreatDoor
open Go.RowKit
section
variable (P:Program) (G:World→Prop) (ops:Array Oper)
def Ch2:List Oper→Frm→List Ob→List Ob→(Frm→Prop)→Prop
 | [],F,_,_,K=>K F
 | o::l,F,H,H',K=>(Dt ops o F false∧Ch2 l (F.put o.dst (.tup [])) H H' K)∨(Dt ops o F true∧∃ x,Bs P G o F H x []∧Bs P G o F H' x []∧Ch2 l (F.put o.dst x) H H' K)
end
section
variable {P:Program} {G:World→Prop} {ops:Array Oper}
structure HInvS (b0 N:Nat) (w0:World) (S0:SD) (ops:Array Oper) (Fs:Nat→Frm) (H H':List Ob) (s:Nat) (listed:Array Bool) (a:Act) (m:Mm):Prop where
 H:m.H=if listed.getD s true=true then H' else H
 cx:Cx b0 m
 tot:Tot m
 frame:∀ t,(∀ (i:Nat) (o:Oper),ops[i]?=some o→listed.getD i true=false→o.dst≠some t)→FG m (Fs ops.size t) (a.tmps.getD t undef)
 size:a.tmps.size=N
 defers:a.defers=S0.ds
 below:Below b0 w0 m.w
 base:b0≤w0.heap.size
 S:∀ b,m.S false b→S0 false b∨b0≤b
 T:m.S true=S0 true
 ls:listed.size=ops.size
end
end Go.Proofs.YtmdfjbpggbhgnaaGreatDoor
namespace Go.Proofs.YtmdfjbpggbhgnaaGreatDoor
open Go.RowKit
theorem PQ {α:Type} {s:Nat}:∀ (ps:List (Nat × List α)) (pre rest:List α) (k:Nat),ps.map (·.1)=List.range' k ps.length→(∀ p∈ps,p.2.length=s)→pre.length=k*s→rest.length=ps.length*s →
  FD (fun i=>some (i*s,s)) (pre++rest) ps=some (pre++(ps.map (·.2)).flatten)
 | [],pre,rest,k,_,_,_,hr=>by
  have:rest=[]:=List.eq_nil_of_length_eq_zero (by simpa using hr)
  subst this
  simp [FD]
 | (i,vs)::ps,pre,rest,k,hi,hs,hp,hr=>by
  simp only [List.map_cons,List.length_cons,List.range'_succ,List.cons.injEq] at hi
  obtain ⟨rfl,hi⟩:=hi
  have hv:vs.length=s:=hs (i,vs) (by simp)
  have hrl:rest.length=s+ps.length*s:=by rw [hr,List.length_cons,Nat.add_mul];omega
  unfold FD
  simp only []
  rw [show Nat.beq vs.length s=true by rw [hv];exact Nat.beq_refl s,show Nat.ble (i*s+vs.length) (pre++rest).length=true from Nat.ble_eq ▸ (by rw [List.length_append];omega)]
  simp only []
  have e1:(pre++rest).take (i*s)=pre:=by rw [List.take_append_of_le_length (by omega),List.take_of_length_le (by omega)]
  have e2:(pre++rest).drop (i*s+vs.length)=rest.drop s:=by
   rw [List.drop_append,List.drop_eq_nil_of_le (by omega),List.nil_append]
   congr 1
   omega
  rw [e1,e2,PQ ps (pre++vs) (rest.drop s) (i+1) hi (fun p hp'=>hs p (by simp [hp'])) (by rw [List.length_append,Nat.add_mul];omega) (by rw [List.length_drop];omega)]
  simp
section
variable {P:Program} {G:World→Prop} {o:Oper} {F:Frm} {H:List Ob}
theorem EV {t e:TypeId} {len s by_:Nat} {parts:Array (Nat × Operand)} {z:Value} {ps:List (Nat × List C)} {cs:List C} (ho:o.op=.buildSlice t len parts) (hp:GA F parts.toList=some ps) (ht:TyS P t e s) (hz:TyZ P e z s by_) (hln:len≤10000) (hs:s≤1000) (h0:0<s) (hi:ps.map (·.1)=List.range' 0 len) (hls:(ps.all fun p=>Nat.beq p.2.length s)=true) (hcs:(ps.map (·.2)).flatten=cs) :
  Bs P G o F H (.one (.own H.length len)) [.row e s len cs]:=by
 subst hcs
 have hpl:ps.length=len:=by have:=congrArg List.length hi;simpa using this
 have hall:∀ p∈ps,p.2.length=s:=fun p hp'=>Nat.eq_of_beq_eq_true (List.all_eq_true.1 hls p hp')
 have hm:len*s≤10000*1000:=Nat.mul_le_mul hln hs
 have hl:(ES (madeCells z.cells (len*s)).toList).length=len*s:=by simp [ES,madeCells]
 refine Fg (ps:=ps) ho ht hz (by omega) (by omega) hp ?_ ?_ h0
 ·have:=PQ (s:=s) ps [] (ES (madeCells z.cells (len*s)).toList) 0 (by rw [hpl];exact hi) hall (by simp) (by rw [hl,hpl])
  rwa [List.nil_append,List.nil_append] at this
 ·have e:(ps.map (·.2)).map List.length=List.replicate len s:=by
   rw [List.map_map,←hpl]
   refine List.ext_getElem (by simp) fun k h1 h2=>?_
   simp only [List.getElem_map,List.getElem_replicate]
   exact hall _ (List.getElem_mem _)
  rw [List.length_flatten,e]
  simp
end
end Go.Proofs.YtmdfjbpggbhgnaaGreatDoor
namespace Go.Proofs.YtmdfjbpggbhgnaaGreatDoor
open Go.RowKit
abbrev vi (z:Int):X:=.one (.d (.val (.int .i64 z)))
abbrev vr (i:Nat):X:=.one (.ref i 0 none)
abbrev vo (i n:Nat):X:=.one (.own i n)
abbrev vd (d:D):X:=.one (.d d)
theorem mB {F:Frm} {n:Nat}:∀ {l:List (Nat × X)},l.map (fun p=>F p.1)=l.map Prod.snd→l.all (fun p=>p.2.belB n)=true→SF F n l
 | [],_,_=>trivial
 | (s,x)::l,h,hb=>by
  simp only [List.map_cons,List.cons.injEq] at h
  simp only [List.all_cons,Bool.and_eq_true] at hb
  exact ⟨h.1,hb.1,mB h.2 hb.2⟩
section
variable {P:Program} {G:World→Prop} {o:Oper} {F:Frm} {H:List Ob}
section
variable {t:TypeId} {x:Operand} {c:C} {cs:List C} {ds:List D} {k id off:Nat} {ty:TypeId} {n s:Nat} {tg:Bool}
variable {f q ft:Nat} {b:Bool}
theorem fr (ho:o.op=.fieldAddr t x f) (hx:F.ev x=.one (.ref id off (some n))) (hH:H[id]?=some (.row ty s n cs)) (hf:TyF P t f q ft) (hk:TyK P ft b (k+1)):Bs P G o F H (.one (.ref id (off+q) (some n))) []:=IL ho hx (.row hH) hf hk .ref
end
section
variable {ops:Array Oper} {K:Frm→List Ob→Prop} {l:List Oper} {d:Tmp} {x:Operand} {c:C}
theorem AfQ (hg:o.guard=none) (hd:o.dst=some d) (ho:o.op=.move x) (hx:F.ev x=.one c) (k:Ch P G ops l (F.put (some d) (.one c)) H K):Ch P G ops (o::l) F H K:=AfL hg hd (VV ho hx) k
theorem AfR (hg:o.guard=none) (hd:o.dst=some d) (ho:o.op=.move x) (hx:F.ev x=.one c) (k:Ti P G ops l (F.put (some d) (.one c)) H K):Ti P G ops (o::l) F H K:=AfK hg hd (VV ho hx) k
theorem AfS (hg:o.guard=none) (hd:o.dst=some d) (ho:o.op=.assign x) (hx:F.ev x=.one c) (k:Ch P G ops l (F.put (some d) (.one c)) H K):Ch P G ops (o::l) F H K:=AfL hg hd (Da ho hx) k
theorem AfT (hg:o.guard=none) (hd:o.dst=some d) (ho:o.op=.assign x) (hx:F.ev x=.one c) (k:Ti P G ops l (F.put (some d) (.one c)) H K):Ti P G ops (o::l) F H K:=AfK hg hd (Da ho hx) k
end
section
variable {N:Nat} {ops:Array Oper} {Q:UO} {K:Frm→List Ob→Prop} {l:List Oper} {d:Tmp} {c:C} {xx:X}
theorem Tx (id:Nat) (h:Ti P G l.toArray l F H (Q .normal)) (hd:Sk N l=true:=by kernel_rfl):CW P G N (.region id l.toArray false) F H Q:=Abb hd h
theorem Je (h:K F H):Ti P G ops [] F H K:=h
theorem Ke (h:K F H):Ch P G ops [] F H K:=h
theorem Jo (h:Bs P G o F H xx []) (k:Ti P G ops l (F.put (some d) xx) H K) (hg:o.guard=none:=by with_unfolding_all exact rfl) (hd:o.dst=some d:=by with_unfolding_all exact rfl):Ti P G ops (o::l) F H K:=AfK hg hd h k
theorem Ko (h:Bs P G o F H xx []) (k:Ch P G ops l (F.put (some d) xx) H K) (hg:o.guard=none:=by with_unfolding_all exact rfl) (hd:o.dst=some d:=by with_unfolding_all exact rfl):Ch P G ops (o::l) F H K:=AfL hg hd h k
theorem Jn {ob:Ob} (h:Bs P G o F H xx [ob]) (k:Ti P G ops l (F.put (some d) xx) (H++[ob]) K) (hg:o.guard=none:=by with_unfolding_all exact rfl) (hd:o.dst=some d:=by with_unfolding_all exact rfl):Ti P G ops (o::l) F H K:=ti_n hg hd h k
theorem Kn {ob:Ob} (h:Bs P G o F H xx [ob]) (k:Ch P G ops l (F.put (some d) xx) (H++[ob]) K) (hg:o.guard=none:=by with_unfolding_all exact rfl) (hd:o.dst=some d:=by with_unfolding_all exact rfl):Ch P G ops (o::l) F H K:=ch_n hg hd h k
theorem Js {H2:List Ob} (h:TOk P G o F H xx H2) (k:Ti P G ops l F H2 K) (hg:o.guard=none:=by with_unfolding_all exact rfl) (hd:o.dst=none:=by with_unfolding_all exact rfl):Ti P G ops (o::l) F H K:=ti_s hg hd h k
theorem Jt {H2:List Ob} (h:TOk P G o F H xx H2) (k:Ti P G ops l (F.put (some d) xx) H2 K) (hg:o.guard=none:=by with_unfolding_all exact rfl) (hd:o.dst=some d:=by with_unfolding_all exact rfl):Ti P G ops (o::l) F H K:=ti_t hg hd h k
section
variable {x:Operand}
theorem Jm (k:Ti P G ops l (F.put (some d) (.one c)) H K) (hg:o.guard=none:=by with_unfolding_all exact rfl) (hd:o.dst=some d:=by with_unfolding_all exact rfl) (ho:o.op=.move x:=by with_unfolding_all exact rfl) (hx:F.ev x=.one c:=by with_unfolding_all exact rfl):Ti P G ops (o::l) F H K:=AfR hg hd ho hx k
theorem Ja (k:Ti P G ops l (F.put (some d) (.one c)) H K) (hg:o.guard=none:=by with_unfolding_all exact rfl) (hd:o.dst=some d:=by with_unfolding_all exact rfl) (ho:o.op=.assign x:=by with_unfolding_all exact rfl) (hx:F.ev x=.one c:=by with_unfolding_all exact rfl):Ti P G ops (o::l) F H K:=AfT hg hd ho hx k
theorem Km (k:Ch P G ops l (F.put (some d) (.one c)) H K) (hg:o.guard=none:=by with_unfolding_all exact rfl) (hd:o.dst=some d:=by with_unfolding_all exact rfl) (ho:o.op=.move x:=by with_unfolding_all exact rfl) (hx:F.ev x=.one c:=by with_unfolding_all exact rfl):Ch P G ops (o::l) F H K:=AfQ hg hd ho hx k
theorem Ka (k:Ch P G ops l (F.put (some d) (.one c)) H K) (hg:o.guard=none:=by with_unfolding_all exact rfl) (hd:o.dst=some d:=by with_unfolding_all exact rfl) (ho:o.op=.assign x:=by with_unfolding_all exact rfl) (hx:F.ev x=.one c:=by with_unfolding_all exact rfl):Ch P G ops (o::l) F H K:=AfS hg hd ho hx k
end
section
variable {j:Nat} {want bb:Bool} {oj:Oper} {t:Tmp}
theorem Jd (k:Ti P G ops l (F.put (some d) (.tup [])) H K) (hw:Dt ops o F false:=by with_unfolding_all first|exact Aea rfl rfl rfl rfl rfl|exact VU rfl rfl rfl rfl) (hd:o.dst=some d:=by with_unfolding_all exact rfl):Ti P G ops (o::l) F H K:=Abm hw hd k
theorem Jy (h:Bs P G o F H xx []) (k:Ti P G ops l (F.put (some d) xx) H K) (hg:o.guard=some (j,want):=by with_unfolding_all exact rfl) (hd:o.dst=some d:=by with_unfolding_all exact rfl) (hj:ops[j]?=some oj:=by with_unfolding_all exact rfl) (ht:oj.dst=some t:=by with_unfolding_all exact rfl) (hF:F t=.one (.d (.val (.bool bb))):=by with_unfolding_all exact rfl) (hb:(bb == want)=true:=by with_unfolding_all exact rfl):Ti P G ops (o::l) F H K:=AfM hg hd hj ht hF hb h k
theorem Kd (k:Ch P G ops l (F.put (some d) (.tup [])) H K) (hw:Dt ops o F false:=by with_unfolding_all first|exact Aea rfl rfl rfl rfl rfl|exact VU rfl rfl rfl rfl) (hd:o.dst=some d:=by with_unfolding_all exact rfl):Ch P G ops (o::l) F H K:=Abn hw hd k
theorem Ky (h:Bs P G o F H xx []) (k:Ch P G ops l (F.put (some d) xx) H K) (hg:o.guard=some (j,want):=by with_unfolding_all exact rfl) (hd:o.dst=some d:=by with_unfolding_all exact rfl) (hj:ops[j]?=some oj:=by with_unfolding_all exact rfl) (ht:oj.dst=some t:=by with_unfolding_all exact rfl) (hF:F t=.one (.d (.val (.bool bb))):=by with_unfolding_all exact rfl) (hb:(bb == want)=true:=by with_unfolding_all exact rfl):Ch P G ops (o::l) F H K:=AfN hg hd hj ht hF hb h k
end
theorem qa {x y:Code} (h:CW P G N x F H (TS (fun F' H'=>CW P G N y F' H' Q) Q)):CW P G N (.seq x y) F H Q:=AdL h
theorem qb {K:Frm→List Ob→Prop} (h:K F H):TS K Q .normal F H:=h
theorem qc (h:Q .normal F H):CW P G N .skip F H Q:=AaX h
theorem qd (h:Q .ret F H):CW P G N .ret F H Q:=AdK h
theorem qe {id:Nat} (h:Q (.exit id) F H):CW P G N (.exit id) F H Q:=AaY h
theorem qf {id:Nat} {c:Code} (h:CW P G N c F H (IK id Q)):CW P G N (.block id c) F H Q:=Yn h
theorem qg {K:Frm→List Ob→Prop} (h:Q .ret F H):TS K Q .ret F H:=h
theorem qh {K:Frm→List Ob→Prop} {id:Nat} (h:Q (.exit id) F H):TS K Q (.exit id) F H:=h
theorem qi {i:Nat} (h:Q .normal F H):IK i Q .normal F H:=h
theorem qj {i:Nat} (h:Q .ret F H):IK i Q .ret F H:=h
theorem qk {i:Nat} (h:Q .normal F H):IK i Q (.exit i) F H:=Yy h
theorem qm {x y:Code} {c:Operand} (hc:F.ev c=.one (.d (.val (.bool true)))) (h:CW P G N x F H Q):CW P G N (.cond c x y) F H Q:=Aba hc h
theorem qn {x y:Code} {c:Operand} (hc:F.ev c=.one (.d (.val (.bool false)))) (h:CW P G N y F H Q):CW P G N (.cond c x y) F H Q:=Yo hc h
end
section
variable {t:TypeId} {x:Operand} {p p' c:C} {cs cs':List C} {f q ft k:Nat} {b:Bool}
theorem xLd (hk:TyK P t false k) (ho:o.op=.load t x:=by with_unfolding_all exact rfl) (hx:F.ev x=.one p:=by with_unfolding_all exact rfl) (ha:At H p cs:=by with_unfolding_all first|exact .box rfl|exact .ptr|exact .row rfl) (hc:cs[0]?=some c:=by with_unfolding_all exact rfl):Bs P G o F H (.one c) []:=Og ho hx ha hc hk
theorem xLa (hk:TyK P t true k) (ho:o.op=.load t x:=by with_unfolding_all exact rfl) (hx:F.ev x=.one p:=by with_unfolding_all exact rfl) (ha:At H p cs:=by with_unfolding_all first|exact .box rfl|exact .ptr|exact .row rfl) (hc:cs.take k=cs':=by with_unfolding_all exact rfl) (hlen:cs'.length=k:=by with_unfolding_all exact rfl):Bs P G o F H (.agg cs') []:=Yt ho hx ha hk hc hlen
theorem xFa (hf:TyF P t f q ft) (hk:TyK P ft b (k+1)) (ho:o.op=.fieldAddr t x f:=by with_unfolding_all exact rfl) (hx:F.ev x=.one p:=by with_unfolding_all exact rfl) (ha:At H p cs:=by with_unfolding_all first|exact .box rfl|exact .ptr|exact .row rfl) (hp:Off q p p':=by with_unfolding_all first|exact .ref|exact .ptr):Bs P G o F H (.one p') []:=IL ho hx ha hf hk hp
theorem xLn {e n:Nat} (ht:TyS P t e k) (ho:o.op=.call { callee:=.builtin .len,args:=#[x],argTypes:=#[t] }:=by with_unfolding_all exact rfl) (hx:F.ev x=.one c:=by with_unfolding_all exact rfl) (hn:Len H c n:=by with_unfolding_all first|exact .own rfl|exact .row|exact .nil|exact .emp):Bs P G o F H (.one (.d (.val (.int .i64 n)))) []:=AdU ho hx hn ht
def AfU (b:Bool) (x y:X):X:=match b with
 | true=>x
 | false=>y
theorem xPk {z y:Operand} {v:C} (ho:o.op=.pick z x y:=by with_unfolding_all exact rfl) (hc:F.ev z=.one (.d (.val (.bool b))):=by with_unfolding_all exact rfl) (hx:AfU b (F.ev x) (F.ev y)=.one v:=by with_unfolding_all exact rfl):Bs P G o F H (.one v) []:=by
 cases b
 ·exact YA ho hc hx
 ·exact Yz ho hc hx
theorem xEx {i:Nat} {l:List A} {d:D} (ho:o.op=.extract x i:=by with_unfolding_all exact rfl) (hx:F.ev x=.tup l:=by with_unfolding_all exact rfl) (hy:l[i]?=some (.one d):=by with_unfolding_all exact rfl):Bs P G o F H (.one (.d d)) []:=Aec ho hx hy
theorem xBo {t:TypeId} (ho:o.op=.box t x:=by with_unfolding_all exact rfl) (hx:EB (F.ev x)=some cs:=by with_unfolding_all exact rfl):Bs P G o F H (.one (.ref H.length 0 none)) [.box t cs]:=AdV ho hx
theorem xMi {t:TypeId} {u:Value} {d:TypeDesc} (hu:P.underlying t=some d) (ho:o.op=.makeInterface t x:=by with_unfolding_all exact rfl) (hx:F.ev x=.one (.d (.val u)):=by with_unfolding_all exact rfl) (hd:(match d with|.interface _=>false|_=>true)=true:=by with_unfolding_all exact rfl):Bs P G o F H (.one (.d (.val (.iface t u)))) []:=IZ ho hx hu hd
end
section
variable {t t':TypeId} {x y:Operand} {k:IntKind} {p q:Int} {b:Bool}
theorem xEq (ho:o.op=.binOp .eql t x y t':=by with_unfolding_all exact rfl) (hx:F.ev x=.one (.d (.val (.int k p))):=by with_unfolding_all exact rfl) (hy:F.ev y=.one (.d (.val (.int k q))):=by with_unfolding_all exact rfl) (h:(p == q)=b:=by first|exact Ik (by first|rfl|omega)|exact Mj (by omega)):Bs P G o F H (.one (.d (.val (.bool b)))) []:=Abo ho hx hy h
theorem xNe (ho:o.op=.binOp .neq t x y t':=by with_unfolding_all exact rfl) (hx:F.ev x=.one (.d (.val (.int k p))):=by with_unfolding_all exact rfl) (hy:F.ev y=.one (.d (.val (.int k q))):=by with_unfolding_all exact rfl) (h:(p != q)=b:=by first|exact Re (by first|rfl|omega)|exact Ok (by omega)):Bs P G o F H (.one (.d (.val (.bool b)))) []:=Abp ho hx hy h
theorem xLt (ho:o.op=.binOp .lss t x y t':=by with_unfolding_all exact rfl) (hx:F.ev x=.one (.d (.val (.int k p))):=by with_unfolding_all exact rfl) (hy:F.ev y=.one (.d (.val (.int k q))):=by with_unfolding_all exact rfl) (h:decide (p<q)=b:=by first|exact YB (by omega)|exact YC (by omega)):Bs P G o F H (.one (.d (.val (.bool b)))) []:=Abq ho hx hy h
theorem xGt (ho:o.op=.binOp .gtr t x y t':=by with_unfolding_all exact rfl) (hx:F.ev x=.one (.d (.val (.int k p))):=by with_unfolding_all exact rfl) (hy:F.ev y=.one (.d (.val (.int k q))):=by with_unfolding_all exact rfl) (h:decide (q<p)=b:=by first|exact YB (by omega)|exact YC (by omega)):Bs P G o F H (.one (.d (.val (.bool b)))) []:=VW ho hx hy h
theorem xLe (ho:o.op=.binOp .leq t x y t':=by with_unfolding_all exact rfl) (hx:F.ev x=.one (.d (.val (.int k p))):=by with_unfolding_all exact rfl) (hy:F.ev y=.one (.d (.val (.int k q))):=by with_unfolding_all exact rfl) (h:decide (p≤q)=b:=by first|exact YB (by first|rfl|omega)|exact YC (by omega)|exact rfl):Bs P G o F H (.one (.d (.val (.bool b)))) []:=Abr ho hx hy h
theorem xGe (ho:o.op=.binOp .geq t x y t':=by with_unfolding_all exact rfl) (hx:F.ev x=.one (.d (.val (.int k p))):=by with_unfolding_all exact rfl) (hy:F.ev y=.one (.d (.val (.int k q))):=by with_unfolding_all exact rfl) (h:decide (q≤p)=b:=by first|exact YB (by first|rfl|omega)|exact YC (by omega)|exact rfl):Bs P G o F H (.one (.d (.val (.bool b)))) []:=Abs ho hx hy h
theorem xAd (ho:o.op=.binOp .add t x y t':=by with_unfolding_all exact rfl) (hx:F.ev x=.one (.d (.val (.int .i64 p))):=by with_unfolding_all exact rfl) (hy:F.ev y=.one (.d (.val (.int .i64 q))):=by with_unfolding_all exact rfl) (hb : -9223372036854775808≤p+q∧p+q≤9223372036854775807:=by omega):Bs P G o F H (.one (.d (.val (.int .i64 (p+q))))) []:=Yq ho hx hy hb
theorem xSb (ho:o.op=.binOp .sub t x y t':=by with_unfolding_all exact rfl) (hx:F.ev x=.one (.d (.val (.int .i64 p))):=by with_unfolding_all exact rfl) (hy:F.ev y=.one (.d (.val (.int .i64 q))):=by with_unfolding_all exact rfl) (hb : -9223372036854775808≤p - q∧p - q≤9223372036854775807:=by omega):Bs P G o F H (.one (.d (.val (.int .i64 (p - q))))) []:=Yr ho hx hy hb
end
section
variable {t e ty:TypeId} {x y:Operand} {tg:Bool} {id s n i k:Nat} {kd:IntKind} {z:Int} {b:Bool}
theorem xIr {ds es:List D} (ht:TyS P t e s) (hes:(ds.drop (i*s)).take s=es) (ho:o.op=.indexAddr t x y:=by with_unfolding_all exact rfl) (hx:F.ev x=.one (.d (.row tg s n ds)):=by with_unfolding_all exact rfl) (hy:F.ev y=.one (.d (.val (.int kd z))):=by with_unfolding_all exact rfl) (hz:z=(i:Int):=by first|with_unfolding_all exact rfl|omega) (hi:i<n:=by omega) (hs:0<s:=by decide):Bs P G o F H (.one (.d (.ptr tg es))) []:=GB ho hx hy hz ht hi hs hes
theorem xIo {cs:List C} (ht:TyS P t e s) (ho:o.op=.indexAddr t x y:=by with_unfolding_all exact rfl) (hx:F.ev x=.one (.own id n):=by with_unfolding_all exact rfl) (hH:H[id]?=some (.row ty s n cs):=by with_unfolding_all exact rfl) (hy:F.ev y=.one (.d (.val (.int kd z))):=by with_unfolding_all exact rfl) (hz:z=(i:Int):=by with_unfolding_all exact rfl) (hi:i<n:=by omega) (hs:0<s:=by decide):Bs P G o F H (.one (.ref id (i*s) (some n))) []:=Eg ho hx hH hy hz ht hi hs
theorem xS1 {off:Nat} {kk:Option Nat} {ob:Ob} {c:C} (hty:TyK P t b 1) (ho:o.op=.store t x y:=by with_unfolding_all exact rfl) (hx:F.ev x=.one (.ref id off kk):=by with_unfolding_all exact rfl) (hH:H[id]?=some ob:=by with_unfolding_all exact rfl) (hk:ob.k=some kk:=by with_unfolding_all exact rfl) (hy:F.ev y=.one c:=by with_unfolding_all exact rfl) (hoff:off<ob.cs.length:=by with_unfolding_all exact Nat.le_of_ble_eq_true rfl):TOk P G o F H .any (H.set id (ob.setC (ob.cs.set off c))):=PD ho hx hH hk hy hty hoff
theorem xSk {off:Nat} {kk:Option Nat} {ob:Ob} {cy:List C} (hty:TyK P t b k) (ho:o.op=.store t x y:=by with_unfolding_all exact rfl) (hx:F.ev x=.one (.ref id off kk):=by with_unfolding_all exact rfl) (hH:H[id]?=some ob:=by with_unfolding_all exact rfl) (hk:ob.k=some kk:=by with_unfolding_all exact rfl) (hy:EB (F.ev y)=some cy:=by with_unfolding_all exact rfl) (hlen:Nat.beq cy.length k=true:=by with_unfolding_all exact rfl) (hoff:off+cy.length≤ob.cs.length:=by with_unfolding_all exact Nat.le_of_ble_eq_true rfl):TOk P G o F H .any (H.set id (ob.setC (ob.cs.take off++cy++ob.cs.drop (off+cy.length)))):=PP ho hx hH hk hy hty hlen hoff
end
theorem xCl {f : FuncId} {fn : Func} {cd : Code} {xs : Array Operand} {ts : Array TypeId} {args res : List A} {x : X} (h1 : P.funcs[f]? = some fn) (h : CV P G f args res) (h2 : (fn.name == "runtime.NumGoroutine") = false := by kernel_rfl) (h3 : fn.body = some cd := by with_unfolding_all exact rfl) (ho : o.op = .call { callee := .value (.func f), args := xs, argTypes := ts } := by with_unfolding_all exact rfl) (ha : Bv (fun x y => Lk true H (F.ev x) y) xs.toList args := by with_unfolding_all first | ((repeat' first | exact AC rfl rfl | refine Ay rfl rfl ?_ ?_ | refine SA rfl rfl ?_ | refine SE rfl rfl ?_ | exact Db rfl (fun h => by cases h) | exact cexp_n rfl rfl | exact cexp_e rfl rfl | refine IO rfl rfl rfl ?_) <;> fail) | fail) (hx : Adk res = x := by with_unfolding_all exact rfl) : Bs P G o F H x [] := AfO ⟨fn, cd, h1, h2, h3⟩ h ho ha hx
end
section
variable {G:World→Prop} {o:Oper} {F:Frm} {H:List Ob} {ops:Array Oper} {l:List Oper} {K:Frm→List Ob→Prop} {d:Tmp} {t:TypeId} {x:Operand} {p p' c:C} {cs cs':List C} {f q ft k n e:Nat} {b:Bool}
theorem jF (kk:Ti Tryz.prog G ops l (F.put (some d) (.one p')) H K) (hg:o.guard=none:=by with_unfolding_all exact rfl) (hd:o.dst=some d:=by with_unfolding_all exact rfl) (ho:o.op=.fieldAddr t x f:=by with_unfolding_all exact rfl) (hf:TyF Tryz.prog t f q ft:=by first|exact DT|exact CB|exact PN|exact Av|exact Bg|exact Cy|exact Df|exact Bw|exact CG|exact BH|exact Bm|exact Cm|exact CH|exact DQ|exact Ns|exact Mi|exact Sz|exact DP|exact Sy|exact Sw) (hk:TyK Tryz.prog ft b (k+1):=by first|exact Al|exact Aa|exact AM|exact Ag|exact Bt|exact Au|exact An|exact AI|exact AJ|exact AG|exact Bi|exact CC|exact AY|exact ET|exact Ij|exact BB|exact FM) (hx:F.ev x=.one p:=by with_unfolding_all exact rfl) (ha:At H p cs:=by with_unfolding_all first|exact .box rfl|exact .ptr|exact .row rfl) (hp:Off q p p':=by with_unfolding_all first|exact .ref|exact .ptr):Ti Tryz.prog G ops (o::l) F H K:=Jo (xFa hf hk ho hx ha hp) kk hg hd
theorem jD (kk:Ti Tryz.prog G ops l (F.put (some d) (.one c)) H K) (hg:o.guard=none:=by with_unfolding_all exact rfl) (hd:o.dst=some d:=by with_unfolding_all exact rfl) (ho:o.op=.load t x:=by with_unfolding_all exact rfl) (hk:TyK Tryz.prog t false k:=by first|exact Al|exact Aa|exact AM|exact Ag|exact Bt|exact Au|exact An|exact AI|exact AJ|exact AG|exact Bi|exact CC|exact AY|exact ET|exact Ij|exact BB|exact FM) (hx:F.ev x=.one p:=by with_unfolding_all exact rfl) (ha:At H p cs:=by with_unfolding_all first|exact .box rfl|exact .ptr|exact .row rfl) (hc:cs[0]?=some c:=by with_unfolding_all exact rfl):Ti Tryz.prog G ops (o::l) F H K:=Jo (xLd hk ho hx ha hc) kk hg hd
theorem jA (kk:Ti Tryz.prog G ops l (F.put (some d) (.agg cs')) H K) (hg:o.guard=none:=by with_unfolding_all exact rfl) (hd:o.dst=some d:=by with_unfolding_all exact rfl) (ho:o.op=.load t x:=by with_unfolding_all exact rfl) (hk:TyK Tryz.prog t true k:=by first|exact Al|exact Aa|exact AM|exact Ag|exact Bt|exact Au|exact An|exact AI|exact AJ|exact AG|exact Bi|exact CC|exact AY|exact ET|exact Ij|exact BB|exact FM) (hx:F.ev x=.one p:=by with_unfolding_all exact rfl) (ha:At H p cs:=by with_unfolding_all first|exact .box rfl|exact .ptr|exact .row rfl) (hc:cs.take k=cs':=by with_unfolding_all exact rfl) (hlen:cs'.length=k:=by with_unfolding_all exact rfl):Ti Tryz.prog G ops (o::l) F H K:=Jo (xLa hk ho hx ha hc hlen) kk hg hd
theorem jN (kk:Ti Tryz.prog G ops l (F.put (some d) (.one (.d (.val (.int .i64 n))))) H K) (hg:o.guard=none:=by with_unfolding_all exact rfl) (hd:o.dst=some d:=by with_unfolding_all exact rfl) (ho:o.op=.call { callee:=.builtin .len,args:=#[x],argTypes:=#[t] }:=by with_unfolding_all exact rfl) (ht:TyS Tryz.prog t e k:=by first|exact Ab|exact Ac|exact Ae|exact Af|exact Ar|exact Bc|exact CS|exact BJ) (hx:F.ev x=.one c:=by with_unfolding_all exact rfl) (hn:Len H c n:=by with_unfolding_all first|exact .own rfl|exact .row|exact .nil|exact .emp):Ti Tryz.prog G ops (o::l) F H K:=Jo (xLn ht ho hx hn) kk hg hd
theorem kF (kk:Ch Tryz.prog G ops l (F.put (some d) (.one p')) H K) (hg:o.guard=none:=by with_unfolding_all exact rfl) (hd:o.dst=some d:=by with_unfolding_all exact rfl) (ho:o.op=.fieldAddr t x f:=by with_unfolding_all exact rfl) (hf:TyF Tryz.prog t f q ft:=by first|exact DT|exact CB|exact PN|exact Av|exact Bg|exact Cy|exact Df|exact Bw|exact CG|exact BH|exact Bm|exact Cm|exact CH|exact DQ|exact Ns|exact Mi|exact Sz|exact DP|exact Sy|exact Sw) (hk:TyK Tryz.prog ft b (k+1):=by first|exact Al|exact Aa|exact AM|exact Ag|exact Bt|exact Au|exact An|exact AI|exact AJ|exact AG|exact Bi|exact CC|exact AY|exact ET|exact Ij|exact BB|exact FM) (hx:F.ev x=.one p:=by with_unfolding_all exact rfl) (ha:At H p cs:=by with_unfolding_all first|exact .box rfl|exact .ptr|exact .row rfl) (hp:Off q p p':=by with_unfolding_all first|exact .ref|exact .ptr):Ch Tryz.prog G ops (o::l) F H K:=Ko (xFa hf hk ho hx ha hp) kk hg hd
theorem kD (kk:Ch Tryz.prog G ops l (F.put (some d) (.one c)) H K) (hg:o.guard=none:=by with_unfolding_all exact rfl) (hd:o.dst=some d:=by with_unfolding_all exact rfl) (ho:o.op=.load t x:=by with_unfolding_all exact rfl) (hk:TyK Tryz.prog t false k:=by first|exact Al|exact Aa|exact AM|exact Ag|exact Bt|exact Au|exact An|exact AI|exact AJ|exact AG|exact Bi|exact CC|exact AY|exact ET|exact Ij|exact BB|exact FM) (hx:F.ev x=.one p:=by with_unfolding_all exact rfl) (ha:At H p cs:=by with_unfolding_all first|exact .box rfl|exact .ptr|exact .row rfl) (hc:cs[0]?=some c:=by with_unfolding_all exact rfl):Ch Tryz.prog G ops (o::l) F H K:=Ko (xLd hk ho hx ha hc) kk hg hd
theorem kA (kk:Ch Tryz.prog G ops l (F.put (some d) (.agg cs')) H K) (hg:o.guard=none:=by with_unfolding_all exact rfl) (hd:o.dst=some d:=by with_unfolding_all exact rfl) (ho:o.op=.load t x:=by with_unfolding_all exact rfl) (hk:TyK Tryz.prog t true k:=by first|exact Al|exact Aa|exact AM|exact Ag|exact Bt|exact Au|exact An|exact AI|exact AJ|exact AG|exact Bi|exact CC|exact AY|exact ET|exact Ij|exact BB|exact FM) (hx:F.ev x=.one p:=by with_unfolding_all exact rfl) (ha:At H p cs:=by with_unfolding_all first|exact .box rfl|exact .ptr|exact .row rfl) (hc:cs.take k=cs':=by with_unfolding_all exact rfl) (hlen:cs'.length=k:=by with_unfolding_all exact rfl):Ch Tryz.prog G ops (o::l) F H K:=Ko (xLa hk ho hx ha hc hlen) kk hg hd
theorem kN (kk:Ch Tryz.prog G ops l (F.put (some d) (.one (.d (.val (.int .i64 n))))) H K) (hg:o.guard=none:=by with_unfolding_all exact rfl) (hd:o.dst=some d:=by with_unfolding_all exact rfl) (ho:o.op=.call { callee:=.builtin .len,args:=#[x],argTypes:=#[t] }:=by with_unfolding_all exact rfl) (ht:TyS Tryz.prog t e k:=by first|exact Ab|exact Ac|exact Ae|exact Af|exact Ar|exact Bc|exact CS|exact BJ) (hx:F.ev x=.one c:=by with_unfolding_all exact rfl) (hn:Len H c n:=by with_unfolding_all first|exact .own rfl|exact .row|exact .nil|exact .emp):Ch Tryz.prog G ops (o::l) F H K:=Ko (xLn ht ho hx hn) kk hg hd
end
end Go.Proofs.YtmdfjbpggbhgnaaGreatDoor
