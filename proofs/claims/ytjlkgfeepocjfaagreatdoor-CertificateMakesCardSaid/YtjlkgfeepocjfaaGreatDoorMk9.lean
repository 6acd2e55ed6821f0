/- What the proofs of this claim share, part 9. No conditions. -/
import Derived.Test.YtjlkgfeepocjfaaGreatDoorMk8
import Derived.WideLaws
import Derived.Test.YtjlkgfeepocjfaaGreatDoorRows
set_option linter.all false
open Go.Proofs.Tryz
namespace Go.Proofs.YtjlkgfeepocjfaaGreatDoor
open Go.RowKit
variable {N by_ i id j n off s:Nat} {F:Frm} {H H' H2:List Ob} {l:List Oper} {xs:List Int} {p q z:Int} {e t ty:TypeId} {b bb want:Bool} {f:FuncId} {oj:Oper} {d:Tmp} {ob:Ob} {y:Operand} {kk:Option Nat}
def Wk (N:Nat) (F:Frm) (H:List Ob) (F':Frm) (H':List Ob):Prop :=
 ∀ (b0:Nat) (w0:World) (S0:SD) (a:Act) (m:Mm),m.H=H→St b0 N w0 S0 F a m→∃ m',m'.w=m.w∧m'.H=H'∧St b0 N w0 S0 F' a m'
section
variable {P:Program} {G:World→Prop} {N:Nat} {F F':Frm} {H H':List Ob} {Q:Aas}
theorem AJ {c:Code} (h:Wk N F H F' H') (k:CW P G N c F' H' Q):CW P G N c F H Q:=fun b0 w0 S0 a m hG hH hs=>by
 obtain ⟨m',h1,h2,h3⟩:=h b0 w0 S0 a m hH hs
 rw [←h1]
 exact k b0 w0 S0 a m' hG h2 h3
def wkC (N:Nat) (K:Frm→List Ob→Prop):Frm→List Ob→Prop:=fun F H=>∃ F' H',Wk N F H F' H'∧K F' H'
theorem Al {c:Code} (I:Nat→Frm→List Ob→Prop) {n0:Nat} (h0:I n0 F H) (round:∀ n F H,I n F H→CW P G N c F H (Zn (wkC N fun F' H'=>∃ n',n'<n∧I n' F' H') Q)):CW P G N (.loop c) F H Q:=fun b0 w0 S0 a m hG hH hs=>by
 refine Aff (fun n a w=>∃ F' m',m'.w=w∧St b0 N w0 S0 F' a m'∧I n F' m'.H) (n0:=n0) ⟨F,m,rfl,hs,by rw [hH];exact h0⟩ fun n a w ⟨F',m',h1,h2,h3⟩=>?_
 subst h1
 refine wp_mono (round n F' m'.H h3 b0 w0 S0 a m' hG rfl h2) fun e a w ⟨F2,m2,k1,k2,k3⟩=>?_
 cases e with
 | normal =>
  obtain ⟨F3,H3,k4,n',hlt,hI⟩:=k3
  obtain ⟨m3,k5,k6,k7⟩:=k4 b0 w0 S0 a m2 rfl k2
  subst k6
  exact ⟨n',hlt,F3,m3,k5.trans k1,k7,hI⟩
 | exit id=>exact ⟨F2,m2,k1,k2,k3⟩
 | goto l=>exact ⟨F2,m2,k1,k2,k3⟩
 | ret=>exact ⟨F2,m2,k1,k2,k3⟩
 | panic ch=>exact ⟨F2,m2,k1,k2,k3⟩
 | outgrown=>exact ⟨F2,m2,k1,k2,k3⟩
end
def ofL:List (Nat × X)→Frm
 | []=>fun _=>.any
 | (s,x)::l=>fun t=>match Nat.beq t s with|true=>x|false=>ofL l t
def C.bel (n:Nat):C→Prop
 | .d _=>True
 | .own id _=>id<n
 | .ref id _ _=>id<n
 | .clo _ caps=>∀ p∈caps,p.1<n
 | .emp=>True
def X.bel (n:Nat):X→Prop
 | .one c=>c.bel n
 | .agg cs=>∀ c∈cs,c.bel n
 | .tup _=>True
 | .any=>True
 | .pin l=>∀ p∈l,p.1<n
 | .tupC _=>False
def Xl (F:Frm) (n:Nat):List (Nat × X)→Prop
 | []=>True
 | (s,x)::l=>F s=x∧x.bel n∧Xl F n l
theorem TP {F:Frm} {n:Nat}:∀ {l:List (Nat × X)},Xl F n l→∀ t,(ofL l t=F t∧(ofL l t).bel n)∨ofL l t=.any
 | [],_,t=>.inr rfl
 | (s,x)::l,h,t=>by
  obtain ⟨h1,h2,h3⟩:=h
  simp only [ofL]
  cases hb:Nat.beq t s with
  | true =>
   have:=fa hb
   subst this
   exact .inl ⟨h1.symm,h2⟩
  | false=>exact TP h3 t
theorem Vm.cut {m:Mm} {k:Option Nat} {v:Value} {E:Nat→Option Et} (h:Vm m id off k v) (hb:id<n) (hE:∀ i,i<n→E i=m.E i):Vm { m with H:=m.H.take n,E:=E } id off k v:=by
 obtain ⟨h1,ob,h2,h3,h4⟩:=h
 refine ⟨h1,ob,by rw [cq,if_pos hb];exact h2,h3,fun hk=>?_⟩
 obtain ⟨e,g,h5,h6,h7⟩:=h4 hk
 exact ⟨e,g,by rw [show ({ m with H:=m.H.take n,E:=E }:Mm).E id=m.E id from hE id hb];exact h5,h6,h7⟩
theorem Ep.cut {m:Mm} {c:C} {v:Value} {E:Nat→Option Et} (h:Ep m c v) (hb:c.bel n) (hE:∀ i,i<n→E i=m.E i):Ep { m with H:=m.H.take n,E:=E } c v:=by
 cases c with
 | d x=>exact h
 | own id p =>
  obtain ⟨h1,ob,h2,h3,h4⟩:=h
  have hb':id<n:=hb
  refine ⟨h1,ob,by rw [cq,if_pos hb'];exact h2,h3,fun hk=>?_⟩
  obtain ⟨e,h5,h6⟩:=h4 hk
  exact ⟨e,(hE id hb).trans h5,h6⟩
 | ref id off k=>exact Vm.cut h hb hE
 | clo fn caps =>
  obtain ⟨vs,h1,h2,h3⟩:=h
  exact ⟨vs,h1,h2,fun j p v hp hv=>(h3 j p v hp hv).cut (hb p (gM hp)) hE⟩
 | emp=>exact h
theorem Arp (l:List (Nat × X)) (n:Nat) (h:Xl F n l) (hH:∀ ob∈H.take n,∀ c∈ob.cs,C.bel n c):Wk N F H (ofL l) (H.take n):=fun b0 w0 S0 a m hm hs=>by
 subst hm
 let E:Nat→Option Et:=fun i=>if i<n then m.E i else none
 have hE:∀ i,i<n→E i=m.E i:=fun i hi=>if_pos hi
 have hE':∀ i e,E i=some e→i<n∧m.E i=some e:=fun i e he=>by
  have he':(if i<n then m.E i else none)=some e:=he
  split at he'
  ·exact ⟨by assumption,he'⟩
  ·cases he'
 have lcut:∀ {cs:List C} {vs:List Value},(∀ c∈cs,C.bel n c)→Ba (Ep m) cs vs→Ba (Ep { m with H:=m.H.take n,E:=E }) cs vs:=fun hb hl=>⟨hl.1,fun j c v hc hv=>(hl.2 j c v hc hv).cut (hb c (gM hc)) hE⟩
 refine ⟨{ m with H:=m.H.take n,E:=E },rfl,rfl,⟨⟨fun id e he=>?_,fun i j e e' hij hi hj=>hs.cx.apart i j e e' hij (hE' i e hi).2 (hE' j e' hj).2,fun id e g t he=>hs.cx.far id e g t (hE' id e he).2,hs.cx.lt⟩,fun id ob hob hk=>?_,fun t=>?_,hs.size,hs.defers,hs.below,hs.base,hs.S,hs.T⟩⟩
 ·obtain ⟨hlt,he⟩:=hE' id e he
  obtain ⟨h1,ob,h2,h3⟩:=hs.cx.each id e he
  have h2':(m.H.take n)[id]?=some ob:=by rw [cq,if_pos hlt];exact h2
  refine ⟨h1,ob,h2',?_⟩
  have hb:=hH ob (gM h2')
  cases ob <;> cases e <;> simp only [Abf] at h3 ⊢
  ·exact ⟨h3.1,lcut hb h3.2⟩
  ·exact ⟨h3.1,h3.2.1,h3.2.2.1,lcut hb h3.2.2.2⟩
 ·have hob':(m.H.take n)[id]?=some ob:=hob
  rw [cq] at hob'
  split at hob'
  ·rename_i hlt
   show (E id).isSome=true
   rw [hE id hlt]
   exact hs.tot id ob hob' hk
  ·cases hob'
 ·rcases TP h t with ⟨h1,h2⟩|h1
  ·rw [h1] at h2 ⊢
   have hx:=hs.frame t
   cases hF:F t with
   | one c=>rw [hF] at hx h2;exact Ep.cut hx h2 hE
   | agg cs =>
    rw [hF] at hx h2
    obtain ⟨xs,h3,h4⟩:=hx
    exact ⟨xs,h3,lcut h2 h4⟩
   | tup l'=>rw [hF] at hx;exact hx
   | any=>trivial
   | pin l'=>rw [hF] at hx h2;exact fun p hp=>Vm.cut (hx p hp) (h2 p hp) hE
   | tupC l'=>rw [hF] at h2;exact h2.elim
  ·rw [h1];trivial
theorem Fh (t e s:Nat) (h:F t=.one (.d (.val (.slice none 0 0)))):Wk N F H (F.put (some t) (.one (.own H.length 0))) (H++[.row e s 0 []]):=fun b0 w0 S0 a m hm hs=>by
 subst hm
 have hle:Le m { m with H:=m.H++[.row e s 0 []],E:=fun i=>if i=m.H.length then some (.row (.slice none 0 0) e s 0 []) else m.E i } :=
  ⟨fun _ _ h=>h,rfl,fun _ _ _=>rfl,fun id ob hob=>⟨ob,by rw [ek (gS.1 hob).1];exact hob,MR.same fun x hx=>by
   have:=(gS.1 hob).1
   show (if id=m.H.length then _ else m.E id)=some x
   rw [if_neg (by omega)]
   exact hx⟩⟩
 have get:∀ i x,(if i=m.H.length then some (Et.row (.slice none 0 0) e s 0 []) else m.E i)=some x→(i=m.H.length∧x=.row (.slice none 0 0) e s 0 [])∨m.E i=some x:=fun i x hx=>by
  split at hx
  ·exact .inl ⟨by assumption,(Option.some.inj hx).symm⟩
  ·exact .inr hx
 refine ⟨{ m with H:=m.H++[.row e s 0 []],E:=fun i=>if i=m.H.length then some (.row (.slice none 0 0) e s 0 []) else m.E i },rfl,rfl,⟨⟨fun id x hx=>?_,fun i j x y hij hi hj g h1 h2=>?_,fun id x g t hx hg=>?_,hs.cx.lt⟩,fun id ob hob hk=>?_,fun t'=>?_,hs.size,hs.defers,hs.below,hs.base,hs.S,hs.T⟩⟩
 ·rcases get id x hx with ⟨rfl,rfl⟩|h1
  ·exact ⟨World.ownsRow_nil _ _ _ _,.row e s 0 [],by simp,rfl,rfl,rfl,Ba.nil_⟩
  ·obtain ⟨h2,ob,h3,h4⟩:=hs.cx.each id x h1
   exact ⟨h2,ob,by rw [ek (gS.1 h3).1];exact h3,h4.le hle⟩
 ·rcases get i x hi with ⟨rfl,rfl⟩|h3
  ·simp [Et.own,Value.ownBlock] at h1
  ·rcases get j y hj with ⟨rfl,rfl⟩|h4
   ·simp [Et.own,Value.ownBlock] at h2
   ·exact hs.cx.apart i j x y hij h3 h4 g h1 h2
 ·rcases get id x hx with ⟨rfl,rfl⟩|h3
  ·simp [Et.own,Value.ownBlock] at hg
  ·exact hs.cx.far id x g t h3 hg
 ·show (if id=m.H.length then _ else m.E id).isSome=true
  split
  ·rfl
  ·rename_i hne
   have hob':(m.H++[.row e s 0 []])[id]?=some ob:=hob
   have hlt:=(gS.1 hob').1
   simp only [ao,bw,List.length_nil] at hlt
   rw [ek (by omega)] at hob'
   exact hs.tot id ob hob' hk
 ·rw [IQ]
  split
  ·rename_i ht
   cases ht
   have hv:=hs.frame t
   rw [h] at hv
   have hv':=DK (m:=m) hv
   rw [hv']
   exact ⟨rfl,.row e s 0 [],by simp,(fun n n' h1 h2=>by cases h1;cases h2;exact aa _),fun _=>⟨.row (.slice none 0 0) e s 0 [],by simp,rfl⟩⟩
  ·exact (hs.frame t').le hle
def Cz (l:List Oper):List (Nat × Nat)→List Oper
 | []=>l
 | (k,p)::es=>Cz (Bv l k p) es
def Xm (md:Region.Mode) (l:List Oper):List (Nat × Nat)→Bool
 | []=>true
 | (k,p)::es=>Afl md l k p && Xm md (Bv l k p) es
theorem OT (l:List Oper) (k p:Nat):(Bv l k p).length=l.length:=by simp [Bv]
theorem Hi:∀ (es:List (Nat × Nat)) (l:List Oper),(Cz l es).length=l.length
 | [],l=>rfl
 | (k,p)::es,l=>by
  unfold Cz
  rw [Hi es,OT]
theorem TQ {k p:Nat} (h:n≤k):(Bv l k p).take n=l.take n:=by
 refine ef fun j=>?_
 simp only [cq,Bv,jw]
 by_cases hj:j<n
 ·rw [if_pos hj,if_pos hj]
  have hkj:¬ k=j:=by omega
  cases l[j]? <;> simp [hkj]
 ·rw [if_neg hj,if_neg hj]
theorem TR {k p:Nat} (h:n≤k):(Bv l k p).drop n=(l.drop n).modify (k - n) fun o=>{ o with after:=o.after.push ⟨p,.data⟩ }:=by
 refine ef fun j=>?_
 simp only [bt,Bv,jw]
 have hkj:k=n+j ↔ k - n=j:=by omega
 cases l[n+j]? <;> simp [hkj]
section
variable {P:Program} {md:Region.Mode} {Q:Exit→Act→World→Prop}
theorem TT (hQ:∀ (d:Option Tmp) v c a w,Q (.panic c) (Act.put a d v) w→Q (.panic c) a w):∀ (es:List (Nat × Nat)) (l:List Oper),Xm md l es=true→∀ (f:Nat) (listed:Array Bool) (a:Act) (w:World),listed.size=l.length →
  wpAny P md (Cz l es).toArray Q f listed a w→wpAny P md l.toArray Q f listed a w
 | [],_,_,_,_,_,_,_,h=>h
 | (k,p)::es,l,hB,f,listed,a,w,hs,h=>by
  simp only [Xm,ai] at hB
  exact QF hB.1 hQ f listed a w hs (TT hQ es _ hB.2 f listed a w (by rw [OT];exact hs) h)
theorem QG:∀ (es:List (Nat × Nat)) (l:List Oper) (n:Nat),(es.all fun e=>decide (n≤e.1))=true→(Cz l es).take n=l.take n
 | [],_,_,_=>rfl
 | (k,p)::es,l,n,h=>by
  simp only [List.all_cons,ai,decide_eq_true_eq] at h
  unfold Cz
  rw [QG es _ n h.2,TQ h.1]
theorem QH:∀ (es:List (Nat × Nat)) (l:List Oper) (n:Nat),(es.all fun e=>decide (n≤e.1))=true→wpList P (Cz l es).toArray Q ((Cz l es).drop n)=wpList P l.toArray Q (l.drop n)
 | [],_,_,_=>rfl
 | (k,p)::es,l,n,h=>by
  simp only [List.all_cons,ai,decide_eq_true_eq] at h
  unfold Cz
  rw [QH es _ n h.2,TR h.1]
  exact funext fun a=>funext fun w=>Lu _ _ a w
end
section
variable {P:Program} {G:World→Prop} {N:Nat} {F:Frm} {H:List Ob} {Q:Aas}
theorem Im (n:Nat) (es:List (Nat × Nat)) (hm:P.follows .mixedOrders=true) (hB:(Th N l && VF .any (l.take n).toArray && MO .any (Cz l es).toArray n && Xm .any l es && es.all fun e=>decide (n≤e.1))=true)
    (h:Ch P G (l.take n).toArray (l.take n) F H fun F' H'=>Ti P G l.toArray (l.drop n) F' H' (Q .normal)):CW P G N (.region id l.toArray true) F H Q:=fun b0 w0 S0 a m hG hH hs=>by
  subst hH
  simp only [ai] at hB
  obtain ⟨⟨⟨⟨hd,hC⟩,hp⟩,he⟩,hk⟩:=hB
  have hd1:Th N (l.take n)=true:=List.all_eq_true.2 fun o ho=>List.all_eq_true.1 hd o (fe ho)
  have hd2:Th N (l.drop n)=true:=List.all_eq_true.2 fun o ho=>List.all_eq_true.1 hd o (jl ho)
  have hn:n<l.length:=by
    have:=hp
    simp only [MO,ai,decide_eq_true_eq,kt,Hi] at this
    exact this.1.1.1.1
  have hlen:(l.take n).length=n:=by simp;omega
  have hsz:(l.take n).toArray.size=n:=by simp;omega
  refine wp_region_noPanic (wp_region_any hm ?_)
  obtain ⟨Fs,Hs,xs,obs,h1,h2,h3,h4⟩:=h.seq
  have hs':=hs.drew
  let R:Exit→Act→World→Prop:=NoPanic fun e a w=>∃ F' m',m'.w=w∧St b0 N w0 S0 F' a m'∧Q e F' m'.H
  have key:wpAny P .any (l.take n).toArray (ND P l.toArray R (l.drop n)) n (Array.replicate n false) a m.w.drew:=by
    refine VG (G:=G) (w0:=w0) (S0:=S0) (b0:=b0) hG hC (N:=N) (by simpa using hd1) (Fs:=Fs) (Hs:=Hs) (xs:=xs) (obs:=obs) (fun i o hi=>h4 i o (by simpa using hi)) (fun a' m' hH' hst=>?_) n (Array.replicate n false) a { m with w:=m.w.drew,H:=Hs n } ?_ (by simp [Afe])
    · rw [hsz] at hst hH'
      rw [hlen] at h3
      rw [←hH'] at h3
      exact Zm hG (l.drop n) (Fs n) a' m' (Q .normal) hd2 hst h3 fun F'' a'' m'' k1 k2=>⟨F'',m'',rfl,k1,k2⟩
    · have:=Lp (P:=P) (G:=G) (ops:=(l.take n).toArray) (Fs:=Fs) (Hs:=Hs) (xs:=xs) (obs:=obs) (fun i o hi=>h4 i o (by simpa using hi)) (by rw [h1];exact hs') (m:={ m with w:=m.w.drew }) h2.symm
      rw [hsz] at this
      exact this
  have hPQ:ND P (Cz l es).toArray R ((Cz l es).drop n)=ND P l.toArray R (l.drop n):=by
    funext e a w
    cases e <;> first
      | (show wpList P _ R _ a w = wpList P _ R _ a w
         rw [QH es l n hk])
      | rfl
  rw [←QG es l n hk,←hPQ] at key
  have inv0:HeadInv .any (Cz l es).toArray n (Array.replicate (Cz l es).toArray.size false) :=
    ⟨by simp,fun j oj _ hl=>(by rw [getD_replicate_false] at hl;cases hl),fun t _ ht=>getD_in (by simpa using ht) (getD_replicate_false _ _)⟩
  have hall:=MP hp n (Array.replicate (Cz l es).toArray.size false) (Array.replicate n false) a m.w.drew inv0 (by simp) (fun i _=>by rw [getD_replicate_false,getD_replicate_false]) key
  have hsl:(Cz l es).toArray.size=l.toArray.size:=by simp [Hi]
  rw [hsl,show n+(l.toArray.size - n)=l.toArray.size by simp;omega] at hall
  exact TT (by intro _ _ _ _ _ h;exact h) es l he _ _ _ _ (by simp) hall
end
structure TyI (P:Program) (t:TypeId):Prop where
 h:P.underlying t=some (.interface (P.methodsAt t))
def cI (xs:List Int):List C:=xs.map fun z=>.d (.val (.int .i64 z))
theorem AnE (xs:List Int):(cI xs).length=xs.length:=by simp [cI]
theorem Arq {k:Nat} (h:xs[k]?=some z):((cI xs).drop (k*1))[0]?=some (.d (.val (.int .i64 z))):=by
 rw [de,bt,ce]
 simp [cI,h]
theorem AnF (xs:List Int) (k:Nat) (z:Int):(cI xs).set (k*1) (.d (.val (.int .i64 z)))=cI (xs.set k z):=by
 rw [de]
 simp [cI,fg]
theorem AnG (xs:List Int) (z:Int):cI xs++[.d (.val (.int .i64 z))]=cI (xs++[z]):=by simp [cI]
section
variable {P:Program} {G:World→Prop} {o:Oper} {F:Frm} {H:List Ob}
theorem RJ {op:BinOp} {t':TypeId} {x:Operand} {u:Value} (ho:o.op=.binOp op t x (.const .nilIface) t') (ht:TyI P t) (hx:F.ev x=.one (.d (.val u))) (hb:(op=.eql∧u=.nilIface∧b=true)∨(op=.neq∧u=.nilIface∧b=false)∨(op=.eql∧(∃ t v,u=.iface t v)∧b=false)∨(op=.neq∧(∃ t v,u=.iface t v)∧b=true)):AZ P G o F H (.one (.d (.val (.bool b)))) []:=by
 have hu:=ht.h
 rcases hb with ⟨rfl,rfl,rfl⟩|⟨rfl,rfl,rfl⟩|⟨rfl,⟨t2,v,rfl⟩,rfl⟩|⟨rfl,⟨t2,v,rfl⟩,rfl⟩
 ·refine Dv (y:=.const .nilIface) ho hx rfl (fun w=>?_) rfl
  have:=run_eql_nil_nil (P:=P) w t hu
  simp [eqGuard,this]
 ·refine Dv (y:=.const .nilIface) ho hx rfl (fun w=>?_) rfl
  have:=run_neq_nil_nil (P:=P) w t hu
  simp [eqGuard,this]
 ·refine Dv (y:=.const .nilIface) ho hx rfl (fun w=>?_) rfl
  have:=run_eql_held_nil (P:=P) w t t2 v hu
  simp [eqGuard,this]
 ·refine Dv (y:=.const .nilIface) ho hx rfl (fun w=>?_) rfl
  have:=run_neq_held_nil (P:=P) w t t2 v hu
  simp [eqGuard,this]
theorem Abt {x:X} (h:∀ (b0:Nat) (m:Mm) (a:Act),H <+: m.H→Cx b0 m→AmG m F a o→∃ v w',(execOp a.eval o).run P m.w=.ok (.value v) w'∧Below m.w.heap.size m.w w'∧∀ m2,Le m m2→m2.w=w'→(∀ b,m.w.heap.size≤b→b<w'.heap.size→m2.S false b)→FU m2 x v):AZ P G o F H x []:=by
 intro b0 m a hp hx hg hb0 hE hor K Q hK
 rw [bc] at hp
 obtain ⟨v,w',h1,h2,h3⟩:=h b0 m a hp hx hor
 unfold Oper.wp
 rw [h1]
 exact hK v w' [] ⟨rfl,h2,fun k e hk=>by simp at hk,List.Pairwise.nil⟩ (h3 _ (MS h2 hx.lt (fun k hk=>by simp at hk)) rfl fun b hb hb'=>.inr ⟨rfl,hb,hb',fun e he=>by simp at he⟩)
theorem Abu {t e:Nat} (ho:o.op=.buildSlice t 0 #[]) (ht:TyS P t e s):AZ P G o F H (.one .emp) []:=Abt fun b0 m a hp hx hor=>by
 obtain ⟨i,hi,hi2⟩:=Option.map_eq_some_iff.1 ht.s
 refine ⟨.slice (some ⟨m.w.heap.size,0,none⟩) 0 0,m.w.alloc (.cells #[] e),?_,(ab _ _).alloc (aa _) _,fun m2 _ _ _=>⟨_,rfl⟩⟩
 unfold execOp
 simp [ho,Instr.buildSlice,run_underlying ht.h,sizeOf,typeInfo,hi,Instr.fill,newRow,Array.range_zero']
end
theorem Az:TyK prog 3 false 1:=⟨⟨_,underlying3,rfl⟩,by kernel_rfl⟩
theorem CC:TyZ prog 3 (.int .i64 0) 1 8:=⟨by kernel_rfl,rfl,by kernel_rfl⟩
theorem FQ:TyK prog 4 false 1:=⟨⟨_,underlying4,rfl⟩,by kernel_rfl⟩
theorem Abv:TyZ prog 4 (.bool false) 1 1:=⟨by kernel_rfl,rfl,by kernel_rfl⟩
theorem Cg:TyK prog 143 false 1:=⟨⟨_,underlying143,rfl⟩,by kernel_rfl⟩
theorem DF:TyZ prog 143 (.int .u32 0) 1 4:=⟨by kernel_rfl,rfl,by kernel_rfl⟩
theorem BJ:TyK prog 24 false 1:=⟨⟨_,underlying24,rfl⟩,by kernel_rfl⟩
theorem BQ:TyK prog 41 false 1:=⟨⟨_,underlying41,rfl⟩,by kernel_rfl⟩
theorem OU:TyK prog 22 false 1:=⟨⟨_,underlying22,rfl⟩,by kernel_rfl⟩
theorem Bt:TyK prog 23 false 1:=⟨⟨_,underlying23,rfl⟩,by kernel_rfl⟩
theorem Bg:TyK prog 27 false 1:=⟨⟨_,underlying27,rfl⟩,by kernel_rfl⟩
theorem AG:TyK prog 28 false 1:=⟨⟨_,underlying28,rfl⟩,by kernel_rfl⟩
theorem DM:TyK prog 26 true 3:=⟨⟨_,underlying26,rfl⟩,by kernel_rfl⟩
theorem QI:TyZ prog 26 (.agg #[.slice none 0 0,.slice none 0 0,.slice none 0 0]) 3 72:=⟨by kernel_rfl,rfl,by kernel_rfl⟩
theorem VO:TyF prog 26 0 0 22:=⟨_,_,underlying26,rfl,rfl,rfl⟩
theorem CU:TyF prog 26 1 1 23:=⟨_,_,underlying26,rfl,rfl,rfl⟩
theorem Gv:TyF prog 26 2 2 24:=⟨_,_,underlying26,rfl,rfl,rfl⟩
theorem Zr:TyB prog 26 [(0,1),(1,1),(2,1)] [.slice none 0 0,.slice none 0 0,.slice none 0 0]:=⟨⟨_,underlying26,by kernel_rfl⟩,by kernel_rfl,by kernel_rfl⟩
theorem Bd:TyK prog 30 true 3:=⟨⟨_,underlying30,rfl⟩,by kernel_rfl⟩
theorem DZ:TyZ prog 30 (.agg #[.slice none 0 0,.slice none 0 0,.slice none 0 0]) 3 72:=⟨by kernel_rfl,rfl,by kernel_rfl⟩
theorem Oc:TyF prog 30 0 0 24:=⟨_,_,underlying30,rfl,rfl,rfl⟩
theorem Io:TyF prog 30 1 1 27:=⟨_,_,underlying30,rfl,rfl,rfl⟩
theorem DI:TyF prog 30 2 2 28:=⟨_,_,underlying30,rfl,rfl,rfl⟩
theorem EO:TyB prog 30 [(0,1),(1,1),(2,1)] [.slice none 0 0,.slice none 0 0,.slice none 0 0]:=⟨⟨_,underlying30,by kernel_rfl⟩,by kernel_rfl,by kernel_rfl⟩
theorem AV:TyK prog 34 true 2:=⟨⟨_,underlying34,rfl⟩,by kernel_rfl⟩
theorem CN:TyZ prog 34 (.agg #[.int .i64 0,.int .i64 0]) 2 16:=⟨by kernel_rfl,rfl,by kernel_rfl⟩
theorem Cr:TyB prog 34 [(0,1),(1,1)] [.int .i64 0,.int .i64 0]:=⟨⟨_,underlying34,by kernel_rfl⟩,by kernel_rfl,by kernel_rfl⟩
theorem Aa:TyK prog 43 true 3:=⟨⟨_,underlying43,rfl⟩,by kernel_rfl⟩
theorem Aj:TyZ prog 43 (.agg #[.bool false,.slice none 0 0,.int .i64 0]) 3 40:=⟨by kernel_rfl,rfl,by kernel_rfl⟩
theorem Zs:TyF prog 43 0 0 4:=⟨_,_,underlying43,rfl,rfl,rfl⟩
theorem EZ:TyF prog 43 1 1 41:=⟨_,_,underlying43,rfl,rfl,rfl⟩
theorem FZ:TyF prog 43 2 2 3:=⟨_,_,underlying43,rfl,rfl,rfl⟩
theorem Ga:TyB prog 43 [(0,1),(1,1),(2,1)] [.bool false,.slice none 0 0,.int .i64 0]:=⟨⟨_,underlying43,by kernel_rfl⟩,by kernel_rfl,by kernel_rfl⟩
theorem Ab:TyK prog 45 true 6:=⟨⟨_,underlying45,rfl⟩,by kernel_rfl⟩
theorem Ai:TyZ prog 45 (.agg #[.bool false,.slice none 0 0,.int .i64 0,.bool false,.slice none 0 0,.int .i64 0]) 6 80:=⟨by kernel_rfl,rfl,by kernel_rfl⟩
theorem CO:TyF prog 45 0 0 43:=⟨_,_,underlying45,rfl,rfl,rfl⟩
theorem AI:TyF prog 45 1 3 43:=⟨_,_,underlying45,rfl,rfl,rfl⟩
theorem BR:TyB prog 45 [(0,3),(3,3)] [.bool false,.slice none 0 0,.int .i64 0,.bool false,.slice none 0 0,.int .i64 0]:=⟨⟨_,underlying45,by kernel_rfl⟩,by kernel_rfl,by kernel_rfl⟩
theorem AM:TyK prog 63 true 2:=⟨⟨_,underlying63,rfl⟩,by kernel_rfl⟩
theorem Es:TyF prog 63 0 0 3:=⟨_,_,underlying63,rfl,rfl,rfl⟩
theorem Fa:TyF prog 63 1 1 3:=⟨_,_,underlying63,rfl,rfl,rfl⟩
theorem Hj:TyB prog 63 [(0,1),(1,1)] [.int .i64 0,.int .i64 0]:=⟨⟨_,underlying63,by kernel_rfl⟩,by kernel_rfl,by kernel_rfl⟩
theorem Bh:TyK prog 65 true 6:=⟨⟨_,underlying65,rfl⟩,by kernel_rfl⟩
theorem Bu:TyZ prog 65 (.agg #[.int .i64 0,.slice none 0 0,.int .i64 0,.int .i64 0,.int .i64 0,.int .i64 0]) 6 64:=⟨by kernel_rfl,rfl,by kernel_rfl⟩
theorem EB:TyF prog 65 0 0 3:=⟨_,_,underlying65,rfl,rfl,rfl⟩
theorem Mg:TyF prog 65 1 1 24:=⟨_,_,underlying65,rfl,rfl,rfl⟩
theorem Ea:TyF prog 65 2 2 63:=⟨_,_,underlying65,rfl,rfl,rfl⟩
theorem Eb:TyF prog 65 3 4 63:=⟨_,_,underlying65,rfl,rfl,rfl⟩
theorem Od:TyB prog 65 [(0,1),(1,1),(2,2),(4,2)] [.int .i64 0,.slice none 0 0,.int .i64 0,.int .i64 0,.int .i64 0,.int .i64 0]:=⟨⟨_,underlying65,by kernel_rfl⟩,by kernel_rfl,by kernel_rfl⟩
theorem Lv:TyK prog 61 true 3:=⟨⟨_,underlying61,rfl⟩,by kernel_rfl⟩
theorem OV:TyZ prog 61 (.agg #[.int .i64 0,.int .i64 0,.int .i64 0]) 3 24:=⟨by kernel_rfl,rfl,by kernel_rfl⟩
theorem RK:TyF prog 61 0 0 3:=⟨_,_,underlying61,rfl,rfl,rfl⟩
theorem Mh:TyF prog 61 1 1 3:=⟨_,_,underlying61,rfl,rfl,rfl⟩
theorem Oe:TyF prog 61 2 2 3:=⟨_,_,underlying61,rfl,rfl,rfl⟩
theorem Akv:TyB prog 61 [(0,1),(1,1),(2,1)] [.int .i64 0,.int .i64 0,.int .i64 0]:=⟨⟨_,underlying61,by kernel_rfl⟩,by kernel_rfl,by kernel_rfl⟩
theorem Ae:TyS prog 24 3 1:=⟨underlying24,by kernel_rfl⟩
theorem Fi:TyS prog 80 4 1:=⟨underlying80,by kernel_rfl⟩
theorem BK:TyS prog 41 143 1:=⟨underlying41,by kernel_rfl⟩
theorem Ci:TyS prog 22 61 3:=⟨underlying22,by kernel_rfl⟩
theorem Ak:TyS prog 23 65 6:=⟨underlying23,by kernel_rfl⟩
theorem Ad:TyS prog 27 45 6:=⟨underlying27,by kernel_rfl⟩
theorem Ag:TyS prog 28 43 3:=⟨underlying28,by kernel_rfl⟩
theorem Am:TyI prog 36:=⟨by kernel_rfl⟩
def AnH (w w':World):EN:=fun t b=>t=false∧w.heap.size≤b∧b<w'.heap.size
def CVF (P:Program) (G:World→Prop) (f:FuncId) (args res:List A):Prop :=
 ∀ (w:World) (S:EN) (vs:List Value),G w→(∀ t b,S t b→b<w.heap.size)→Ba (Ft w S) args vs →
  Calls P f vs.toArray w fun e w'=>∃ v,e=.returned v∧Afc w' (AnH w w') res v∧Below w.heap.size w w'
theorem Afc.mono {w w':World} {S S':EN} (hS:∀ t b,S t b→S' t b) (hw:∀ t b,S t b→w'.heap[b]?=w.heap[b]?) {res:List A} {v:Value} (h:Afc w S res v):Afc w' S' res v:=by
 match res,h with
 | [],h=>obtain ⟨vs,h1,h2⟩:=h;exact ⟨vs,h1,h2.imp fun _ _=>Ft.mono hS hw⟩
 | [x],h=>exact Ft.mono hS hw h
 | x::y::l,h=>obtain ⟨vs,h1,h2⟩:=h;exact ⟨vs,h1,h2.imp fun _ _=>Ft.mono hS hw⟩
theorem CVF.cv {P:Program} {G:World→Prop} {args res:List A} (h:CVF P G f args res):CV P G f args res:=fun w S vs hg hlt ha =>
 (h w S vs hg hlt ha).mono fun e w' ⟨v,h1,h2,h3⟩=>⟨v,h1,h2.mono (fun t b hb=>⟨hb.1,.inr hb.2⟩) (fun _ _ _=>rfl),h3⟩
def dI (z:Int):D:=.val (.int .i64 z)
def dB (b:Bool):D:=.val (.bool b)
def aI (z:Int):A:=.one (dI z)
def aB (b:Bool):A:=.one (dB b)
def AU (t:Bool) (xs:List Int):D:=.row t 1 xs.length (xs.map dI)
def An {α:Type} (f:α→List D) (l:List α):List D:=(l.map f).flatten
theorem OW {α:Type} (f:α→List D) (a b:List α):An f (a++b)=An f a++An f b:=by simp [An]
theorem FE {α:Type} {f:α→List D} {s:Nat} (hf:∀ x,(f x).length=s):∀ {l:List α} {k:Nat} {x:α},l[k]?=some x→((An f l).drop (k*s)).take s=f x
 | [],k,x,h=>by simp at h
 | y::l,0,x,h=>by
  simp only [gu,Option.some.injEq] at h
  subst h
  simp only [An,bp,gg,fm,gq]
  rw [jx (by rw [hf];exact aa _),aj (by rw [hf];exact aa _)]
 | y::l,k+1,x,h=>by
  simp only [fi] at h
  have ih:=FE hf h
  simp only [An,bp,gg] at ih ⊢
  rw [←ih,show (k+1)*s=(f y).length+k*s by rw [hf,bk];omega,List.drop_append]
  rw [List.drop_of_length_le (by omega),dv]
  congr 2
  omega
theorem Ahw {α:Type} {f:α→D} {l:List α} {k:Nat} {x:α} (h:l[k]?=some x):((l.map f).drop (k*1)).take 1=[f x]:=by
 rw [de]
 have hk:=(gS.1 h).1
 rw [←List.map_drop,←List.map_take,dz hk]
 have:l[k]=x:=(gS.1 h).2
 simp [this]
section
variable {P:Program} {G:World→Prop} {N:Nat} {ops:Array Oper} {o:Oper} {F:Frm} {H:List Ob} {Q:Aas} {K:Frm→List Ob→Prop}
theorem Afm (h:Q .normal F H):IR i Q (.exit i) F H:=by
 show (match Nat.beq i i with|true=>Q .normal F H|false=>Q (.exit i) F H)
 rw [fk]
 exact h
theorem Afn (hij:Nat.beq j i=false) (h:Q (.exit j) F H):IR i Q (.exit j) F H:=by
 show (match Nat.beq j i with|true=>Q .normal F H|false=>Q (.exit j) F H)
 rw [hij]
 exact h
theorem AnI {t:Tmp} {x:X} (hg:o.guard=some (j,want)) (hj:ops[j]?=some oj) (ht:oj.dst=some t) (hF:F t=.one (.d (.val (.bool bb)))) (hb:(bb == want)=true) (h:TOk P G o F H x H2) (k:Ti P G ops l (F.put o.dst x) H2 K):Ti P G ops (o::l) F H K :=
 .inr ⟨by unfold CS;rw [hg];exact ⟨oj,t,hj,ht,.inl ⟨bb,hF,hb.symm⟩⟩,x,H2,h,k⟩
theorem AnJ {t:Tmp} {x:X} {obs:List Ob} (hg:o.guard=some (j,want)) (hj:ops[j]?=some oj) (ht:oj.dst=some t) (hF:F t=.one (.d (.val (.bool bb)))) (hb:(bb == want)=true) (h:AZ P G o F H x obs) (k:Ch P G ops l (F.put o.dst x) (H++obs) K):Ch P G ops (o::l) F H K :=
 .inr ⟨by unfold CS;rw [hg];exact ⟨oj,t,hj,ht,.inl ⟨bb,hF,hb.symm⟩⟩,x,obs,h,k⟩
theorem AnK {t:Tmp} (hg:o.guard=some (j,want)) (hj:ops[j]?=some oj) (ht:oj.dst=some t) (hF:F t=.one (.d (.val (.bool bb)))) (hb:(bb == want)=false):CS ops o F false:=by unfold CS;rw [hg];exact ⟨oj,t,hj,ht,.inl ⟨bb,hF,hb.symm⟩⟩
theorem Abw {t:Tmp} (hg:o.guard=some (j,want)) (hj:ops[j]?=some oj) (ht:oj.dst=some t) (hF:F t=.tup []):CS ops o F false:=by unfold CS;rw [hg];exact ⟨oj,t,hj,ht,.inr ⟨hF,rfl⟩⟩
theorem Akw (hw:CS ops o F false) (hd:o.dst=some d) (k:Ti P G ops l (F.put (some d) (.tup [])) H K):Ti P G ops (o::l) F H K:=.inl ⟨hw,by rw [congrArg (fun q=>F.put q (X.tup [])) hd];exact k⟩
theorem Akx (hw:CS ops o F false) (hd:o.dst=some d) (k:Ch P G ops l (F.put (some d) (.tup [])) H K):Ch P G ops (o::l) F H K:=.inl ⟨hw,by rw [congrArg (fun q=>F.put q (X.tup [])) hd];exact k⟩
theorem Zt {p:Prop} (h:p:=by
 rw [congrArg (fun q=>F.put q x) hd]
 exact k):p:=h
theorem Arr {x:X} (hg:o.guard=none) (hd:o.dst=some d) (h:AZ P G o F H x []) (k:Ti P G ops l (F.put (some d) x) H K):Ti P G ops (o::l) F H K:=by
 refine Ann hg h ?_
 exact Zt
theorem ti_n {x:X} (hg:o.guard=none) (hd:o.dst=some d) (h:AZ P G o F H x [ob]) (k:Ti P G ops l (F.put (some d) x) (H++[ob]) K):Ti P G ops (o::l) F H K:=by
 refine Anm hg h ?_
 exact Zt
theorem ti_s {x:X} (hg:o.guard=none) (hd:o.dst=none) (h:TOk P G o F H x H2) (k:Ti P G ops l F H2 K):Ti P G ops (o::l) F H K:=by
 have hp:F.put o.dst x=F:=by rw [hd];rfl
 refine RC hg h ?_
 rw [hp]
 exact k
theorem ti_t {x:X} (hg:o.guard=none) (hd:o.dst=some d) (h:TOk P G o F H x H2) (k:Ti P G ops l (F.put (some d) x) H2 K):Ti P G ops (o::l) F H K:=by
 refine RC hg h ?_
 exact Zt
theorem Ars {x:X} (hg:o.guard=none) (hd:o.dst=some d) (h:AZ P G o F H x []) (k:Ch P G ops l (F.put (some d) x) H K):Ch P G ops (o::l) F H K:=by
 refine Afd hg h ?_
 exact Zt
theorem ch_n {x:X} (hg:o.guard=none) (hd:o.dst=some d) (h:AZ P G o F H x [ob]) (k:Ch P G ops l (F.put (some d) x) (H++[ob]) K):Ch P G ops (o::l) F H K:=by
 refine Akk hg h ?_
 exact Zt
theorem Xn {x:Operand} {c:C} (ho:o.op=.move x) (hx:F.ev x=.one c):AZ P G o F H (.one c) []:=by rw [←hx];exact VK ho
theorem Xo {x:Operand} {l:List A} (ho:o.op=.move x) (hx:F.ev x=.tup l):AZ P G o F H (.tup l) []:=by rw [←hx];exact VK ho
theorem Xp {x:Operand} {c:C} (ho:o.op=.assign x) (hx:F.ev x=.one c):AZ P G o F H (.one c) []:=by rw [←hx];exact Abk ho
theorem AnL {x:Operand} {l:List A} {d:D} (ho:o.op=.extract x i) (hx:F.ev x=.tup l) (hy:l[i]?=some (.one d)):AZ P G o F H (.one (.d d)) []:=QE ho hx hy
theorem CQ {x:Operand} {l:List A} {ds:List D} (ho:o.op=.extract x i) (hx:F.ev x=.tup l) (hy:l[i]?=some (.agg ds)):AZ P G o F H (.agg (ds.map .d)) []:=QE ho hx hy
theorem Afo {c x:Operand} {v:C} (ho:o.op=.pick c x y) (hc:F.ev c=.one (.d (.val (.bool true)))) (hx:F.ev x=.one v):AZ P G o F H (.one v) []:=by
 have:=Abo (P:=P) (G:=G) (H:=H) ho hc
 dsimp only at this
 rwa [hx] at this
theorem Afp {c x:Operand} {v:C} (ho:o.op=.pick c x y) (hc:F.ev c=.one (.d (.val (.bool false)))) (hx:F.ev y=.one v):AZ P G o F H (.one v) []:=by
 have:=Abo (P:=P) (G:=G) (H:=H) ho hc
 dsimp only at this
 rwa [hx] at this
theorem Art {t:Tmp} {x:X} (hg:o.guard=some (j,want)) (hd:o.dst=some d) (hj:ops[j]?=some oj) (ht:oj.dst=some t) (hF:F t=.one (.d (.val (.bool bb)))) (hb:(bb == want)=true) (h:AZ P G o F H x []) (k:Ti P G ops l (F.put (some d) x) H K):Ti P G ops (o::l) F H K:=by
 have h':=h.tok
 rw [bc] at h'
 refine AnI hg hj ht hF hb h' ?_
 exact Zt
theorem Aru {t:Tmp} {x:X} (hg:o.guard=some (j,want)) (hd:o.dst=some d) (hj:ops[j]?=some oj) (ht:oj.dst=some t) (hF:F t=.one (.d (.val (.bool bb)))) (hb:(bb == want)=true) (h:AZ P G o F H x []) (k:Ch P G ops l (F.put (some d) x) H K):Ch P G ops (o::l) F H K:=by
 refine AnJ hg hj ht hF hb h ?_
 rw [congrArg (fun q=>F.put q x) hd,bc]
 exact k
theorem AZ.tok0 {x:X} (h:AZ P G o F H x []):TOk P G o F H x H:=by
 have:=h.tok
 rwa [bc] at this
section
variable {t t':TypeId} {x y:Operand} {k:IntKind} {p q:Int} {b:Bool}
theorem Aky (ho:o.op=.binOp .eql t x y t') (hx:F.ev x=.one (.d (.val (.int k p)))) (hy:F.ev y=.one (.d (.val (.int k q)))) (hb:(p == q)=b):AZ P G o F H (.one (.d (.val (.bool b)))) []:=hb ▸ Anu ho hx hy
theorem VP (ho:o.op=.binOp .neq t x y t') (hx:F.ev x=.one (.d (.val (.int k p)))) (hy:F.ev y=.one (.d (.val (.int k q)))) (hb:(p != q)=b):AZ P G o F H (.one (.d (.val (.bool b)))) []:=hb ▸ Anv ho hx hy
theorem Akz (ho:o.op=.binOp .lss t x y t') (hx:F.ev x=.one (.d (.val (.int k p)))) (hy:F.ev y=.one (.d (.val (.int k q)))) (hb:decide (p<q)=b):AZ P G o F H (.one (.d (.val (.bool b)))) []:=hb ▸ Abn ho hx hy
theorem AkA (ho:o.op=.binOp .leq t x y t') (hx:F.ev x=.one (.d (.val (.int k p)))) (hy:F.ev y=.one (.d (.val (.int k q)))) (hb:decide (p≤q)=b):AZ P G o F H (.one (.d (.val (.bool b)))) []:=hb ▸ Anw ho hx hy
theorem Hk (ho:o.op=.binOp .gtr t x y t') (hx:F.ev x=.one (.d (.val (.int k p)))) (hy:F.ev y=.one (.d (.val (.int k q)))) (hb:decide (q<p)=b):AZ P G o F H (.one (.d (.val (.bool b)))) []:=hb ▸ Aht ho hx hy
theorem AkB (ho:o.op=.binOp .geq t x y t') (hx:F.ev x=.one (.d (.val (.int k p)))) (hy:F.ev y=.one (.d (.val (.int k q)))) (hb:decide (q≤p)=b):AZ P G o F H (.one (.d (.val (.bool b)))) []:=hb ▸ Anx ho hx hy
end
theorem Qn (h:p=q):(p == q)=true:=by rw [h];exact beq_self_eq_true q
theorem TU (h:p≠q):(p == q)=false:=beq_eq_false_iff_ne.2 h
theorem Hl (h:p≠q):(p != q)=true:=by simp [bne,TU h]
theorem OX (h:p=q):(p != q)=false:=by simp [bne,Qn h]
theorem Afq {p:Prop} [Decidable p] (h:p):decide p=true:=decide_eq_true h
theorem Afr {p:Prop} [Decidable p] (h:¬ p):decide p=false:=decide_eq_false h
theorem Au {fn:Func} {res:List A} {rs:List ResultVar} (hr:fn.results.toList=rs) (h:Ba (RV P F H) rs res):Arn P fn res .ret F H:=⟨.inl rfl,by rw [hr];exact h⟩
theorem Lw {t:Tmp} {z':Int} (hF:F t=.one (.d (.val (.int .i64 z)))) (hz:z=z'):RV P F H (.tmp t) (aI z'):=.tmp (by rw [hF,hz];exact .one (.d fun _=>.val _))
theorem Db {t:Tmp} {z z':Bool} (hF:F t=.one (.d (.val (.bool z)))) (hz:z=z'):RV P F H (.tmp t) (aB z'):=.tmp (by rw [hF,hz];exact .one (.d fun _=>.val _))
end
section
variable {P:Program} {G:World→Prop} {o:Oper} {F:Frm} {H:List Ob}
theorem Mi {x:Operand} {k:Nat} {cy:List C} (ho:o.op=.store t x y) (hx:F.ev x=.one (.ref id off kk)) (hH:H[id]?=some ob) (hk:ob.k=some kk) (hy:ES (F.ev y)=some cy) (hty:TyK P t b k) (hlen:Nat.beq cy.length k=true) (hoff:off+cy.length≤ob.cs.length) :
  TOk P G o F H .any (H.set id (ob.setC (ob.cs.take off++cy++ob.cs.drop (off+cy.length)))):=by
 have hlen:=fa hlen
 subst hlen
 exact Xk ho hx hH hk hy hty hoff
theorem DG {x:Operand} {tg:Bool} {cs es:List D} {k:IntKind} (ho:o.op=.indexAddr t x y) (hx:F.ev x=.one (.d (.row tg s n cs))) (hy:F.ev y=.one (.d (.val (.int k z)))) (hz:z=(i:Int)) (ht:TyS P t e s) (hi:i<n) (hs:0<s) (hes:(cs.drop (i*s)).take s=es):AZ P G o F H (.one (.d (.ptr tg es))) []:=by
 subst hz
 exact Nt ho hx hy ht .row hi hs (.row hes)
theorem IU {x:Operand} {cs:List C} {k:IntKind} (ho:o.op=.indexAddr t x y) (hx:F.ev x=.one (.own id n)) (hH:H[id]?=some (.row ty s n cs)) (hy:F.ev y=.one (.d (.val (.int k z)))) (hz:z=(i:Int)) (ht:TyS P t e s) (hi:i<n) (hs:0<s):AZ P G o F H (.one (.ref id (i*s) (some n))) []:=by
 subst hz
 exact Nt ho hx hy ht (.own hH) hi hs (.own hH)
theorem AnM {x:Operand} {k:Nat} (ho:o.op=.load t x) (hx:F.ev x=.one (.ref id (i*1) (some n))) (hH:H[id]?=some (.row ty s n (cI xs))) (hz:xs[i]?=some z) (hk:TyK P t false k):AZ P G o F H (.one (.d (.val (.int .i64 z)))) [] :=
 Oa ho hx (.row hH) (Arq hz) hk
theorem Ahx {x:Operand} (ho:o.op=.store t x y) (hx:F.ev x=.one (.ref id (i*1) (some n))) (hH:H[id]?=some (.row ty s n (cI xs))) (hy:F.ev y=.one (.d (.val (.int .i64 z)))) (hty:TyK P t b 1) (hi:i<xs.length) {ys:List Int} (hys:xs.set i z=ys):TOk P G o F H .any (H.set id (.row ty s n (cI ys))):=by
 have:=Mf (P:=P) (G:=G) ho hx hH rfl hy hty (by simp [Ob.cs,AnE,hi])
 simp only [Ob.cs,Ob.setC,AnF,hys] at this
 exact this
theorem QJ {x:Operand} {id':Nat} {ty':TypeId} {z:Value} {ys:List Int} {u:Int} {n':Nat} (ho:o.op=.call { callee:=.builtin .append,args:=#[x,y],argTypes:=#[t,t] }) (hx:F.ev x=.one (.own id n)) (hH:H[id]?=some (.row e 1 n (cI xs))) (hy:F.ev y=.one (.own id' 1)) (hH':H[id']?=some (.row ty' 1 1 [.d (.val (.int .i64 u))])) (hne:Nat.beq id' id=false) (ht:TyS P t e 1) (hz:TyZ P e z 1 by_) (hn:n+1≤100000000000) (hby:by_≤1000) (hys:xs++[u]=ys) (hn':n+1=n'):TOk P G o F H (.one (.own id n')) (H.set id (.row e 1 n' (cI ys))):=by
 subst hys
 subst hn'
 have:=TI (P:=P) (G:=G) ho hx hH hy (.own hH' (fun h=>by rw [h,fk] at hne;cases hne)) ht hz hn (by omega) hby rfl
 rwa [AnG] at this
end
section
variable {P:Program} {G:World→Prop} {o:Oper} {F:Frm} {H:List Ob}
theorem BH {x:Operand} {z:Value} {cs:List C} (ho:o.op=.buildSlice t 1 #[(0,x)]) (ht:TyS P t e s) (hz:TyZ P e z s by_) (hx:ES (F.ev x)=some cs) (hcs:Nat.beq cs.length s=true) (hs:s≤1000) (h0:0<s):AZ P G o F H (.one (.own H.length 1)) [.row e s 1 cs]:=by
 have hc:=fa hcs
 have hl:(ET (madeCells z.cells (1*s)).toList).length=s:=by simp [ET,madeCells]
 refine Gu (ps:=[(0,cs)]) ho ht hz (by omega) (by decide) (by simp [IT,hx]) ?_ (by omega) h0
 unfold GX
 simp only [hcs,fm,av,hc,hl,GX]
 rw [show Nat.ble s s=true from Nat.ble_eq ▸ aa _,show Nat.beq s s=true from fk _]
 simp only [jy,dv,gj (gz hl),bc]
theorem Fj {x:Operand} {z:Value} {cs cs':List C} (ho:o.op=.buildSlice t 2 #[(0,x),(1,y)]) (ht:TyS P t e s) (hz:TyZ P e z s by_) (hx:ES (F.ev x)=some cs) (hy:ES (F.ev y)=some cs') (hcs:Nat.beq cs.length s=true) (hcs':Nat.beq cs'.length s=true) (hs:s≤1000) (h0:0<s):AZ P G o F H (.one (.own H.length 2)) [.row e s 2 (cs++cs')]:=by
 have hc:=fa hcs
 have hc':=fa hcs'
 have hl:(ET (madeCells z.cells (2*s)).toList).length=2*s:=by simp [ET,madeCells]
 refine Gu (ps:=[(0,cs),(1,cs')]) ho ht hz (by omega) (by decide) (by simp [IT,hx,hy]) ?_ (by simp;omega) h0
 unfold GX
 simp only [fm,av,hc,hl,jy,dv]
 rw [show Nat.ble s (2*s)=true from Nat.ble_eq ▸ (by omega),show Nat.beq s s=true from fk _]
 simp only []
 unfold GX
 simp only [Nat.one_mul,hc',ao,gn,hc,hl]
 rw [show Nat.ble (s+s) (s+(2*s - s))=true from Nat.ble_eq ▸ (by omega),show Nat.beq s s=true from fk _]
 simp only [GX]
 have hX:(List.drop s (ET (madeCells z.cells (2*s)).toList)).length=s:=by rw [gn,hl];omega
 rw [gj (i:=s+s) (h:=by rw [ao,hX];omega),bc,jx (by omega),aj (by omega)]
theorem Mj {x:Operand} {id' m' n':Nat} {ty':TypeId} {z:Value} {cs news cs2:List C} (ho:o.op=.call { callee:=.builtin .append,args:=#[x,y],argTypes:=#[t,t] }) (hx:F.ev x=.one (.own id n)) (hH:H[id]?=some (.row e s n cs)) (hy:F.ev y=.one (.own id' m')) (hH':H[id']?=some (.row ty' s m' news)) (hne:Nat.beq id' id=false) (ht:TyS P t e s) (hz:TyZ P e z s by_) (hn:n+m'≤100000000000) (hby:by_≤1000) (h0:0<s) (hl:Nat.beq news.length (m'*s)=true) (hys:cs++news=cs2) (hn':n+m'=n'):TOk P G o F H (.one (.own id n')) (H.set id (.row e s n' cs2)):=by
 subst hys
 subst hn'
 exact TI ho hx hH hy (.own hH' (fun h=>by rw [h,fk] at hne;cases hne)) ht hz hn h0 hby (fa hl)
end
theorem AC:prog.follows .mixedOrders=true:=by kernel_rfl
section
variable {α β:Type} {R:α→β→Prop} {t:Bool} {H:List Ob}
theorem AO {l:List α} {m:List β} {a:α} {b:β} {aS':List α} {bs':List β} (h1:l=a::aS') (h2:m=b::bs') (h:R a b) (hl:Ba R aS' bs'):Ba R l m:=by rw [h1,h2];exact Ba.cons_ h hl
theorem Br {l:List α} {m:List β} (h1:l=[]) (h2:m=[]):Ba R l m:=by rw [h1,h2];exact Ba.nil_
theorem Dn {x:X} {y:A} {c:C} {d:D} (hx:x=.one c) (hy:y=.one d) (h:FB t H c d):LW t H x y:=by rw [hx,hy];exact .one h
theorem Cf {x:X} {y:A} {cs:List C} {ds:List D} (hx:x=.agg cs) (hy:y=.agg ds) (h:Ba (FB t H) cs ds):LW t H x y:=by rw [hx,hy];exact .agg h
theorem Bi {c:C} {x:D} (hc:c=.d x) (h:t=false→DY x):FB t H c x:=by rw [hc];exact .d h
theorem GL {c:C} {y:D} {t':Bool} (hc:c=.d (.val (.slice none 0 0))) (hy:y=.row t' s 0 []):FB t H c y:=by rw [hc,hy];exact .nil
theorem Dc {c:C} {y:D} {ty:Nat} {cs:List C} {ds:List D} (hc:c=.own id n) (hH:H[id]?=some (.row ty s n cs)) (hy:y=.row t s n ds) (h:Ba (FB t H) cs ds):FB t H c y:=by rw [hc,hy];exact .own hH h.1 h.2
end
structure FnOk (P:Program) (f:FuncId):Prop where
 h : ∃ fn c, P.funcs[f]? = some fn ∧ (fn.name == "runtime.NumGoroutine") = false ∧ fn.body = some c
section
variable {P:Program} {G:World→Prop} {o:Oper} {F:Frm} {H:List Ob}
theorem Arv {xs:Array Operand} {ts:Array TypeId} {args res:List A} {x:X} (hf:FnOk P f) (h:CV P G f args res) (ho:o.op=.call { callee:=.value (.func f),args:=xs,argTypes:=ts }) (ha:Ba (fun x y=>LW true H (F.ev x) y) xs.toList args) (hx:Akq res=x):AZ P G o F H x []:=by
 obtain ⟨fn,c,h1,h2,h3⟩:=hf.h
 rw [←hx]
 exact Akr ho h1 h2 h3 h ha
end
def C.belB (n:Nat):C→Bool
 | .d _=>true
 | .own id _=>Nat.ble (id+1) n
 | .ref id _ _=>Nat.ble (id+1) n
 | .clo _ caps=>caps.all fun p=>Nat.ble (p.1+1) n
 | .emp=>true
def X.belB (n:Nat):X→Bool
 | .one c=>c.belB n
 | .agg cs=>cs.all (C.belB n)
 | .tup _=>true
 | .any=>true
 | .pin l=>l.all fun p=>Nat.ble (p.1+1) n
 | .tupC _=>false
theorem Abx {c:C} (h:c.belB n=true):c.bel n:=by
 cases c with
 | d x=>trivial
 | own id k=>exact ax h
 | ref id off k=>exact ax h
 | clo fn caps=>exact fun p hp=>ax (List.all_eq_true.1 h p hp)
 | emp=>trivial
theorem AnN {x:X} (h:x.belB n=true):x.bel n:=by
 cases x with
 | one c=>exact Abx h
 | agg cs=>exact fun c hc=>Abx (List.all_eq_true.1 h c hc)
 | tup l=>trivial
 | any=>trivial
 | pin l=>exact fun p hp=>ax (List.all_eq_true.1 h p hp)
 | tupC l=>cases h
def TV (F:Frm) (n:Nat):List (Nat × X)→Prop
 | []=>True
 | (s,x)::l=>F s=x∧x.belB n=true∧TV F n l
theorem Xq {F:Frm} {n:Nat}:∀ {l:List (Nat × X)},TV F n l→Xl F n l
 | [],_=>trivial
 | (s,x)::l,h=>⟨h.1,AnN h.2.1,Xq h.2.2⟩
def AqN (n:Nat):List Ob→Prop
 | []=>True
 | ob::l=>(∀ c∈ob.cs,C.bel n c)∧AqN n l
theorem Aby {n:Nat}:∀ {l:List Ob},AqN n l→∀ ob∈l,∀ c∈ob.cs,C.bel n c
 | [],_,ob,h=>by cases h
 | o::l,h,ob,hm=>by
  rcases List.mem_cons.1 hm with rfl|hm
  ·exact h.1
  ·exact Aby h.2 ob hm
theorem BS {cs:List C} (h:cs.all (C.belB n)=true):∀ c∈cs,C.bel n c:=fun c hc=>Abx (List.all_eq_true.1 h c hc)
theorem OY:∀ c∈cI xs,C.bel n c:=fun c hc=>by obtain ⟨z,_,rfl⟩:=List.mem_map.1 hc;trivial
theorem Arw {ds:List D}:∀ c∈ds.map C.d,C.bel n c:=fun c hc=>by obtain ⟨z,_,rfl⟩:=List.mem_map.1 hc;trivial
theorem Gw (l:List (Nat × X)) (n:Nat) (hH:H.take n=H') (h:TV F n l) (hb:AqN n H'):Wk N F H (ofL l) H':=by
 subst hH
 exact Arp l n (Xq h) (Aby hb)
theorem Be {l:List (Nat × X)} (n:Nat) (hH:H.take n=H':=by rfl) (h:TV F n l:=by exact mB rfl rfl) (hb:AqN n H':=by repeat' first|exact trivial|exact BS rfl|exact OY|exact AcH|exact Pv|exact Arw|exact Ws|exact AhK|exact AbO|refine ⟨?_,?_⟩):Wk N F H (ofL l) H':=Gw l n hH h hb
section
variable (P:Program) (G:World→Prop) (ops:Array Oper)
def Ch2:List Oper→Frm→List Ob→List Ob→(Frm→Prop)→Prop
 | [],F,_,_,K=>K F
 | o::l,F,H,H',K=>(CS ops o F false∧Ch2 l (F.put o.dst (.tup [])) H H' K)∨(CS ops o F true∧∃ x,AZ P G o F H x []∧AZ P G o F H' x []∧Ch2 l (F.put o.dst x) H H' K)
end
section
variable {P:Program} {G:World→Prop} {ops:Array Oper}
theorem AnO {K:Frm→Prop} (h:K F):Ch2 P G ops [] F H H' K:=h
theorem AeQ {o:Oper} {K:Frm→Prop} {x:X} (hg:o.guard=none) (hd:o.dst=some d) (h:AZ P G o F H x []) (h':AZ P G o F H' x []) (k:Ch2 P G ops l (F.put (some d) x) H H' K):Ch2 P G ops (o::l) F H H' K :=
 .inr ⟨by unfold CS;rw [hg],x,h,h',by rw [congrArg (fun q=>F.put q x) hd];exact k⟩
theorem Ch2.seq:∀ {l:List Oper} {F:Frm} {H H':List Ob} {K:Frm→Prop},Ch2 P G ops l F H H' K →
  ∃ (Fs:Nat→Frm) (xs:Nat→X),Fs 0=F∧K (Fs l.length)∧∀ (i:Nat) (o:Oper),l[i]?=some o→Fs (i+1)=(Fs i).put o.dst (xs i) ∧
   ((CS ops o (Fs i) false∧xs i=.tup [])∨(CS ops o (Fs i) true∧AZ P G o (Fs i) H (xs i) []∧AZ P G o (Fs i) H' (xs i) []))
 | [],F,H,H',K,h=>⟨fun _=>F,fun _=>.any,rfl,h,fun i o hi=>by simp at hi⟩
 | o::l,F,H,H',K,h=>by
  have key:∃ x,((CS ops o F false∧x=.tup [])∨(CS ops o F true∧AZ P G o F H x []∧AZ P G o F H' x []))∧Ch2 P G ops l (F.put o.dst x) H H' K:=by
   rcases h with ⟨h1,h2⟩|⟨h1,x,h2,h2',h3⟩
   ·exact ⟨.tup [],.inl ⟨h1,rfl⟩,h2⟩
   ·exact ⟨x,.inr ⟨h1,h2,h2'⟩,h3⟩
  obtain ⟨x,hx,hc⟩:=key
  obtain ⟨Fs,xs,h1,h3,h4⟩:=Ch2.seq hc
  refine ⟨fun i=>match i with|0=>F|i+1=>Fs i,fun i=>match i with|0=>x|i+1=>xs i,rfl,by simpa using h3,fun i o' hi=>?_⟩
  rcases i with _|i
  ·simp only [gu,Option.some.injEq] at hi
   subst hi
   exact ⟨h1,hx⟩
  ·simp only [fi] at hi
   exact h4 i o' hi
end
theorem TW {α:Type} {s:Nat}:∀ (ps:List (Nat × List α)) (pre rest:List α) (k:Nat),ps.map (·.1)=List.range' k ps.length→(∀ p∈ps,p.2.length=s)→pre.length=k*s→rest.length=ps.length*s →
  GX (fun i=>some (i*s,s)) (pre++rest) ps=some (pre++(ps.map (·.2)).flatten)
 | [],pre,rest,k,_,_,_,hr=>by
  have:rest=[]:=bz (by simpa using hr)
  subst this
  simp [GX]
 | (i,vs)::ps,pre,rest,k,hi,hs,hp,hr=>by
  simp only [bp,bw,List.range'_succ,List.cons.injEq] at hi
  obtain ⟨rfl,hi⟩:=hi
  have hv:vs.length=s:=hs (i,vs) (by simp)
  have hrl:rest.length=s+ps.length*s:=by rw [hr,bw,bk];omega
  unfold GX
  simp only []
  rw [show Nat.beq vs.length s=true by rw [hv];exact fk s,show Nat.ble (i*s+vs.length) (pre++rest).length=true from Nat.ble_eq ▸ (by rw [ao];omega)]
  simp only []
  have e1:(pre++rest).take (i*s)=pre:=by rw [jx (by omega),aj (by omega)]
  have e2:(pre++rest).drop (i*s+vs.length)=rest.drop s:=by
   rw [List.drop_append,gj (by omega),dv]
   congr 1
   omega
  rw [e1,e2,TW ps (pre++vs) (rest.drop s) (i+1) hi (fun p hp'=>hs p (by simp [hp'])) (by rw [ao,bk];omega) (by rw [gn];omega)]
  simp
section
variable {P:Program} {G:World→Prop} {o:Oper} {F:Frm} {H:List Ob}
theorem ED {len:Nat} {parts:Array (Nat × Operand)} {z:Value} {ps:List (Nat × List C)} {cs:List C} (ho:o.op=.buildSlice t len parts) (hp:IT F parts.toList=some ps) (ht:TyS P t e s) (hz:TyZ P e z s by_) (hln:len≤10000) (hs:s≤1000) (h0:0<s) (hi:ps.map (·.1)=List.range' 0 len) (hls:(ps.all fun p=>Nat.beq p.2.length s)=true) (hcs:(ps.map (·.2)).flatten=cs) :
  AZ P G o F H (.one (.own H.length len)) [.row e s len cs]:=by
 subst hcs
 have hpl:ps.length=len:=by have:=congrArg List.length hi;simpa using this
 have hall:∀ p∈ps,p.2.length=s:=fun p hp'=>fa (List.all_eq_true.1 hls p hp')
 have hm:len*s≤10000*1000:=en hln hs
 have hl:(ET (madeCells z.cells (len*s)).toList).length=len*s:=by simp [ET,madeCells]
 refine Gu (ps:=ps) ho ht hz (by omega) (by omega) hp ?_ ?_ h0
 ·have:=TW (s:=s) ps [] (ET (madeCells z.cells (len*s)).toList) 0 (by rw [hpl];exact hi) hall (by simp) (by rw [hl,hpl])
  rwa [dv,dv] at this
 ·have e:(ps.map (·.2)).map List.length=List.replicate len s:=by
   rw [dp,←hpl]
   refine ja (by simp) fun k h1 h2=>?_
   simp only [ky,List.getElem_replicate]
   exact hall _ (fu _)
  rw [List.length_flatten,e]
  simp
end
abbrev vi (z:Int):X:=.one (.d (.val (.int .i64 z)))
abbrev vr (i:Nat):X:=.one (.ref i 0 none)
abbrev vo (i n:Nat):X:=.one (.own i n)
abbrev vd (d:D):X:=.one (.d d)
theorem mB {F:Frm} {n:Nat}:∀ {l:List (Nat × X)},l.map (fun p=>F p.1)=l.map Prod.snd→l.all (fun p=>p.2.belB n)=true→TV F n l
 | [],_,_=>trivial
 | (s,x)::l,h,hb=>by
  simp only [bp,List.cons.injEq] at h
  simp only [List.all_cons,ai] at hb
  exact ⟨h.1,hb.1,mB h.2 hb.2⟩
section
variable {P:Program} {G:World→Prop} {o:Oper} {F:Frm} {H:List Ob}
section
variable {ops:Array Oper} {K:Frm→List Ob→Prop} {l:List Oper} {d:Tmp} {x:Operand} {c:C}
theorem Arx (hg:o.guard=none) (hd:o.dst=some d) (ho:o.op=.move x) (hx:F.ev x=.one c) (k:Ch P G ops l (F.put (some d) (.one c)) H K):Ch P G ops (o::l) F H K:=Ars hg hd (Xn ho hx) k
theorem Ary (hg:o.guard=none) (hd:o.dst=some d) (ho:o.op=.move x) (hx:F.ev x=.one c) (k:Ti P G ops l (F.put (some d) (.one c)) H K):Ti P G ops (o::l) F H K:=Arr hg hd (Xn ho hx) k
theorem Arz (hg:o.guard=none) (hd:o.dst=some d) (ho:o.op=.assign x) (hx:F.ev x=.one c) (k:Ch P G ops l (F.put (some d) (.one c)) H K):Ch P G ops (o::l) F H K:=Ars hg hd (Xp ho hx) k
theorem ArA (hg:o.guard=none) (hd:o.dst=some d) (ho:o.op=.assign x) (hx:F.ev x=.one c) (k:Ti P G ops l (F.put (some d) (.one c)) H K):Ti P G ops (o::l) F H K:=Arr hg hd (Xp ho hx) k
end
section
variable {N:Nat} {ops:Array Oper} {Q:Aas} {K:Frm→List Ob→Prop} {l:List Oper} {d:Tmp} {c:C} {xx:X}
theorem Tx (id:Nat) (h:Ti P G l.toArray l F H (Q .normal)) (hd:Th N l=true:=by kernel_rfl):CW P G N (.region id l.toArray false) F H Q:=Akp hd h
theorem Je (h:K F H):Ti P G ops [] F H K:=h
theorem Ke (h:K F H):Ch P G ops [] F H K:=h
theorem Jo (h:AZ P G o F H xx []) (k:Ti P G ops l (F.put (some d) xx) H K) (hg:o.guard=none:=by with_unfolding_all exact rfl) (hd:o.dst=some d:=by with_unfolding_all exact rfl):Ti P G ops (o::l) F H K:=Arr hg hd h k
theorem Ko (h:AZ P G o F H xx []) (k:Ch P G ops l (F.put (some d) xx) H K) (hg:o.guard=none:=by with_unfolding_all exact rfl) (hd:o.dst=some d:=by with_unfolding_all exact rfl):Ch P G ops (o::l) F H K:=Ars hg hd h k
theorem Jn (h:AZ P G o F H xx [ob]) (k:Ti P G ops l (F.put (some d) xx) (H++[ob]) K) (hg:o.guard=none:=by with_unfolding_all exact rfl) (hd:o.dst=some d:=by with_unfolding_all exact rfl):Ti P G ops (o::l) F H K:=ti_n hg hd h k
theorem Kn (h:AZ P G o F H xx [ob]) (k:Ch P G ops l (F.put (some d) xx) (H++[ob]) K) (hg:o.guard=none:=by with_unfolding_all exact rfl) (hd:o.dst=some d:=by with_unfolding_all exact rfl):Ch P G ops (o::l) F H K:=ch_n hg hd h k
theorem Js (h:TOk P G o F H xx H2) (k:Ti P G ops l F H2 K) (hg:o.guard=none:=by with_unfolding_all exact rfl) (hd:o.dst=none:=by with_unfolding_all exact rfl):Ti P G ops (o::l) F H K:=ti_s hg hd h k
theorem Jt (h:TOk P G o F H xx H2) (k:Ti P G ops l (F.put (some d) xx) H2 K) (hg:o.guard=none:=by with_unfolding_all exact rfl) (hd:o.dst=some d:=by with_unfolding_all exact rfl):Ti P G ops (o::l) F H K:=ti_t hg hd h k
section
variable {x:Operand}
theorem Jm (k:Ti P G ops l (F.put (some d) (.one c)) H K) (hg:o.guard=none:=by with_unfolding_all exact rfl) (hd:o.dst=some d:=by with_unfolding_all exact rfl) (ho:o.op=.move x:=by with_unfolding_all exact rfl) (hx:F.ev x=.one c:=by with_unfolding_all exact rfl):Ti P G ops (o::l) F H K:=Ary hg hd ho hx k
theorem Ja (k:Ti P G ops l (F.put (some d) (.one c)) H K) (hg:o.guard=none:=by with_unfolding_all exact rfl) (hd:o.dst=some d:=by with_unfolding_all exact rfl) (ho:o.op=.assign x:=by with_unfolding_all exact rfl) (hx:F.ev x=.one c:=by with_unfolding_all exact rfl):Ti P G ops (o::l) F H K:=ArA hg hd ho hx k
theorem Km (k:Ch P G ops l (F.put (some d) (.one c)) H K) (hg:o.guard=none:=by with_unfolding_all exact rfl) (hd:o.dst=some d:=by with_unfolding_all exact rfl) (ho:o.op=.move x:=by with_unfolding_all exact rfl) (hx:F.ev x=.one c:=by with_unfolding_all exact rfl):Ch P G ops (o::l) F H K:=Arx hg hd ho hx k
theorem Ka (k:Ch P G ops l (F.put (some d) (.one c)) H K) (hg:o.guard=none:=by with_unfolding_all exact rfl) (hd:o.dst=some d:=by with_unfolding_all exact rfl) (ho:o.op=.assign x:=by with_unfolding_all exact rfl) (hx:F.ev x=.one c:=by with_unfolding_all exact rfl):Ch P G ops (o::l) F H K:=Arz hg hd ho hx k
end
section
variable {j:Nat} {want bb:Bool} {oj:Oper} {t:Tmp}
theorem Jd (k:Ti P G ops l (F.put (some d) (.tup [])) H K) (hw:CS ops o F false:=by with_unfolding_all first|exact AnK rfl rfl rfl rfl rfl|exact Abw rfl rfl rfl rfl) (hd:o.dst=some d:=by with_unfolding_all exact rfl):Ti P G ops (o::l) F H K:=Akw hw hd k
theorem Jy (h:AZ P G o F H xx []) (k:Ti P G ops l (F.put (some d) xx) H K) (hg:o.guard=some (j,want):=by with_unfolding_all exact rfl) (hd:o.dst=some d:=by with_unfolding_all exact rfl) (hj:ops[j]?=some oj:=by with_unfolding_all exact rfl) (ht:oj.dst=some t:=by with_unfolding_all exact rfl) (hF:F t=.one (.d (.val (.bool bb))):=by with_unfolding_all exact rfl) (hb:(bb == want)=true:=by with_unfolding_all exact rfl):Ti P G ops (o::l) F H K:=Art hg hd hj ht hF hb h k
theorem Kd (k:Ch P G ops l (F.put (some d) (.tup [])) H K) (hw:CS ops o F false:=by with_unfolding_all first|exact AnK rfl rfl rfl rfl rfl|exact Abw rfl rfl rfl rfl) (hd:o.dst=some d:=by with_unfolding_all exact rfl):Ch P G ops (o::l) F H K:=Akx hw hd k
theorem Ky (h:AZ P G o F H xx []) (k:Ch P G ops l (F.put (some d) xx) H K) (hg:o.guard=some (j,want):=by with_unfolding_all exact rfl) (hd:o.dst=some d:=by with_unfolding_all exact rfl) (hj:ops[j]?=some oj:=by with_unfolding_all exact rfl) (ht:oj.dst=some t:=by with_unfolding_all exact rfl) (hF:F t=.one (.d (.val (.bool bb))):=by with_unfolding_all exact rfl) (hb:(bb == want)=true:=by with_unfolding_all exact rfl):Ch P G ops (o::l) F H K:=Aru hg hd hj ht hF hb h k
end
theorem qa {x y:Code} (h:CW P G N x F H (Zn (fun F' H'=>CW P G N y F' H' Q) Q)):CW P G N (.seq x y) F H Q:=Anq h
theorem qb {K:Frm→List Ob→Prop} (h:K F H):Zn K Q .normal F H:=h
theorem qc (h:Q .normal F H):CW P G N .skip F H Q:=Akl h
theorem qd (h:Q .ret F H):CW P G N .ret F H Q:=Anp h
theorem qe (h:Q (.exit id) F H):CW P G N (.exit id) F H Q:=Akm h
theorem qf {c:Code} (h:CW P G N c F H (IR id Q)):CW P G N (.block id c) F H Q:=Afg h
theorem qg {K:Frm→List Ob→Prop} (h:Q .ret F H):Zn K Q .ret F H:=h
theorem qh {K:Frm→List Ob→Prop} (h:Q (.exit id) F H):Zn K Q (.exit id) F H:=h
theorem qi (h:Q .normal F H):IR i Q .normal F H:=h
theorem qj (h:Q .ret F H):IR i Q .ret F H:=h
theorem qk (h:Q .normal F H):IR i Q (.exit i) F H:=Afm h
theorem ql (hij:Nat.beq j i=false) (h:Q (.exit j) F H):IR i Q (.exit j) F H:=Afn hij h
theorem qm {x y:Code} {c:Operand} (hc:F.ev c=.one (.d (.val (.bool true)))) (h:CW P G N x F H Q):CW P G N (.cond c x y) F H Q:=Ako hc h
theorem qn {x y:Code} {c:Operand} (hc:F.ev c=.one (.d (.val (.bool false)))) (h:CW P G N y F H Q):CW P G N (.cond c x y) F H Q:=Afh hc h
end
section
variable {t:TypeId} {x:Operand} {p p' c:C} {cs cs':List C} {f q ft k:Nat} {b:Bool}
theorem xLd (hk:TyK P t false k) (ho:o.op=.load t x:=by with_unfolding_all exact rfl) (hx:F.ev x=.one p:=by with_unfolding_all exact rfl) (ha:At H p cs:=by with_unfolding_all first|exact .box rfl|exact .ptr|exact .row rfl) (hc:cs[0]?=some c:=by with_unfolding_all exact rfl):AZ P G o F H (.one c) []:=Oa ho hx ha hc hk
theorem xLa (hk:TyK P t true k) (ho:o.op=.load t x:=by with_unfolding_all exact rfl) (hx:F.ev x=.one p:=by with_unfolding_all exact rfl) (ha:At H p cs:=by with_unfolding_all first|exact .box rfl|exact .ptr|exact .row rfl) (hc:cs.take k=cs':=by with_unfolding_all exact rfl) (hlen:cs'.length=k:=by with_unfolding_all exact rfl):AZ P G o F H (.agg cs') []:=RH ho hx ha hk hc hlen
theorem xFa (hf:TyF P t f q ft) (hk:TyK P ft b (k+1)) (ho:o.op=.fieldAddr t x f:=by with_unfolding_all exact rfl) (hx:F.ev x=.one p:=by with_unfolding_all exact rfl) (ha:At H p cs:=by with_unfolding_all first|exact .box rfl|exact .ptr|exact .row rfl) (hp:Off q p p':=by with_unfolding_all first|exact .ref|exact .ptr):AZ P G o F H (.one p') []:=TF ho hx ha hf hk hp
theorem xLn {e:Nat} (ht:TyS P t e k) (ho:o.op=.call { callee:=.builtin .len,args:=#[x],argTypes:=#[t] }:=by with_unfolding_all exact rfl) (hx:F.ev x=.one c:=by with_unfolding_all exact rfl) (hn:Len H c n:=by with_unfolding_all first|exact .own rfl|exact .row|exact .nil|exact .emp):AZ P G o F H (.one (.d (.val (.int .i64 n)))) []:=Anz ho hx hn ht
def ArB (b:Bool) (x y:X):X:=match b with
 | true=>x
 | false=>y
theorem xPk {z:Operand} {v:C} (ho:o.op=.pick z x y:=by with_unfolding_all exact rfl) (hc:F.ev z=.one (.d (.val (.bool b))):=by with_unfolding_all exact rfl) (hx:ArB b (F.ev x) (F.ev y)=.one v:=by with_unfolding_all exact rfl):AZ P G o F H (.one v) []:=by
 cases b
 ·exact Afp ho hc hx
 ·exact Afo ho hc hx
theorem xEx {l:List A} {d:D} (ho:o.op=.extract x i:=by with_unfolding_all exact rfl) (hx:F.ev x=.tup l:=by with_unfolding_all exact rfl) (hy:l[i]?=some (.one d):=by with_unfolding_all exact rfl):AZ P G o F H (.one (.d d)) []:=AnL ho hx hy
theorem xBo {t:TypeId} (ho:o.op=.box t x:=by with_unfolding_all exact rfl) (hx:ES (F.ev x)=some cs:=by with_unfolding_all exact rfl):AZ P G o F H (.one (.ref H.length 0 none)) [.box t cs]:=AnA ho hx
theorem xMi {t:TypeId} {u:Value} {d:TypeDesc} (hu:P.underlying t=some d) (ho:o.op=.makeInterface t x:=by with_unfolding_all exact rfl) (hx:F.ev x=.one (.d (.val u)):=by with_unfolding_all exact rfl) (hd:(match d with|.interface _=>false|_=>true)=true:=by with_unfolding_all exact rfl):AZ P G o F H (.one (.d (.val (.iface t u)))) []:=NF ho hx hu hd
end
section
variable {t t':TypeId} {x y:Operand} {k:IntKind} {p q:Int} {b:Bool}
theorem xEq (ho:o.op=.binOp .eql t x y t':=by with_unfolding_all exact rfl) (hx:F.ev x=.one (.d (.val (.int k p))):=by with_unfolding_all exact rfl) (hy:F.ev y=.one (.d (.val (.int k q))):=by with_unfolding_all exact rfl) (h:(p == q)=b:=by first|exact Qn (by first|rfl|omega)|exact TU (by omega)):AZ P G o F H (.one (.d (.val (.bool b)))) []:=Aky ho hx hy h
theorem xNe (ho:o.op=.binOp .neq t x y t':=by with_unfolding_all exact rfl) (hx:F.ev x=.one (.d (.val (.int k p))):=by with_unfolding_all exact rfl) (hy:F.ev y=.one (.d (.val (.int k q))):=by with_unfolding_all exact rfl) (h:(p != q)=b:=by first|exact OX (by first|rfl|omega)|exact Hl (by omega)):AZ P G o F H (.one (.d (.val (.bool b)))) []:=VP ho hx hy h
theorem xLt (ho:o.op=.binOp .lss t x y t':=by with_unfolding_all exact rfl) (hx:F.ev x=.one (.d (.val (.int k p))):=by with_unfolding_all exact rfl) (hy:F.ev y=.one (.d (.val (.int k q))):=by with_unfolding_all exact rfl) (h:decide (p<q)=b:=by first|exact Afq (by omega)|exact Afr (by omega)):AZ P G o F H (.one (.d (.val (.bool b)))) []:=Akz ho hx hy h
theorem xGt (ho:o.op=.binOp .gtr t x y t':=by with_unfolding_all exact rfl) (hx:F.ev x=.one (.d (.val (.int k p))):=by with_unfolding_all exact rfl) (hy:F.ev y=.one (.d (.val (.int k q))):=by with_unfolding_all exact rfl) (h:decide (q<p)=b:=by first|exact Afq (by omega)|exact Afr (by omega)):AZ P G o F H (.one (.d (.val (.bool b)))) []:=Hk ho hx hy h
theorem xLe (ho:o.op=.binOp .leq t x y t':=by with_unfolding_all exact rfl) (hx:F.ev x=.one (.d (.val (.int k p))):=by with_unfolding_all exact rfl) (hy:F.ev y=.one (.d (.val (.int k q))):=by with_unfolding_all exact rfl) (h:decide (p≤q)=b:=by first|exact Afq (by first|rfl|omega)|exact Afr (by omega)|exact rfl):AZ P G o F H (.one (.d (.val (.bool b)))) []:=AkA ho hx hy h
theorem xGe (ho:o.op=.binOp .geq t x y t':=by with_unfolding_all exact rfl) (hx:F.ev x=.one (.d (.val (.int k p))):=by with_unfolding_all exact rfl) (hy:F.ev y=.one (.d (.val (.int k q))):=by with_unfolding_all exact rfl) (h:decide (q≤p)=b:=by first|exact Afq (by first|rfl|omega)|exact Afr (by omega)|exact rfl):AZ P G o F H (.one (.d (.val (.bool b)))) []:=AkB ho hx hy h
theorem xAd (ho:o.op=.binOp .add t x y t':=by with_unfolding_all exact rfl) (hx:F.ev x=.one (.d (.val (.int .i64 p))):=by with_unfolding_all exact rfl) (hy:F.ev y=.one (.d (.val (.int .i64 q))):=by with_unfolding_all exact rfl) (hb : -9223372036854775808≤p+q∧p+q≤9223372036854775807:=by omega):AZ P G o F H (.one (.d (.val (.int .i64 (p+q))))) []:=Afi ho hx hy hb
theorem xSb (ho:o.op=.binOp .sub t x y t':=by with_unfolding_all exact rfl) (hx:F.ev x=.one (.d (.val (.int .i64 p))):=by with_unfolding_all exact rfl) (hy:F.ev y=.one (.d (.val (.int .i64 q))):=by with_unfolding_all exact rfl) (hb : -9223372036854775808≤p - q∧p - q≤9223372036854775807:=by omega):AZ P G o F H (.one (.d (.val (.int .i64 (p - q))))) []:=Afj ho hx hy hb
end
section
variable {t e ty:TypeId} {x y:Operand} {tg:Bool} {id s n i k:Nat} {kd:IntKind} {z:Int} {b:Bool}
theorem xIr {ds es:List D} (ht:TyS P t e s) (hes:(ds.drop (i*s)).take s=es) (ho:o.op=.indexAddr t x y:=by with_unfolding_all exact rfl) (hx:F.ev x=.one (.d (.row tg s n ds)):=by with_unfolding_all exact rfl) (hy:F.ev y=.one (.d (.val (.int kd z))):=by with_unfolding_all exact rfl) (hz:z=(i:Int):=by first|with_unfolding_all exact rfl|omega) (hi:i<n:=by omega) (hs:0<s:=by decide):AZ P G o F H (.one (.d (.ptr tg es))) []:=DG ho hx hy hz ht hi hs hes
theorem xIo {cs:List C} (ht:TyS P t e s) (ho:o.op=.indexAddr t x y:=by with_unfolding_all exact rfl) (hx:F.ev x=.one (.own id n):=by with_unfolding_all exact rfl) (hH:H[id]?=some (.row ty s n cs):=by with_unfolding_all exact rfl) (hy:F.ev y=.one (.d (.val (.int kd z))):=by with_unfolding_all exact rfl) (hz:z=(i:Int):=by with_unfolding_all exact rfl) (hi:i<n:=by omega) (hs:0<s:=by decide):AZ P G o F H (.one (.ref id (i*s) (some n))) []:=IU ho hx hH hy hz ht hi hs
theorem xLi (hz:xs[i]?=some z) (hk:TyK P t false k) (ho:o.op=.load t x:=by with_unfolding_all exact rfl) (hx:F.ev x=.one (.ref id (i*1) (some n)):=by with_unfolding_all exact rfl) (hH:H[id]?=some (.row ty s n (cI xs)):=by with_unfolding_all exact rfl):AZ P G o F H (.one (.d (.val (.int .i64 z)))) []:=AnM ho hx hH hz hk
theorem xS1 {c:C} (hty:TyK P t b 1) (ho:o.op=.store t x y:=by with_unfolding_all exact rfl) (hx:F.ev x=.one (.ref id off kk):=by with_unfolding_all exact rfl) (hH:H[id]?=some ob:=by with_unfolding_all exact rfl) (hk:ob.k=some kk:=by with_unfolding_all exact rfl) (hy:F.ev y=.one c:=by with_unfolding_all exact rfl) (hoff:off<ob.cs.length:=by with_unfolding_all exact ax rfl):TOk P G o F H .any (H.set id (ob.setC (ob.cs.set off c))):=Mf ho hx hH hk hy hty hoff
theorem xSk {cy:List C} (hty:TyK P t b k) (ho:o.op=.store t x y:=by with_unfolding_all exact rfl) (hx:F.ev x=.one (.ref id off kk):=by with_unfolding_all exact rfl) (hH:H[id]?=some ob:=by with_unfolding_all exact rfl) (hk:ob.k=some kk:=by with_unfolding_all exact rfl) (hy:ES (F.ev y)=some cy:=by with_unfolding_all exact rfl) (hlen:Nat.beq cy.length k=true:=by with_unfolding_all exact rfl) (hoff:off+cy.length≤ob.cs.length:=by with_unfolding_all exact ax rfl):TOk P G o F H .any (H.set id (ob.setC (ob.cs.take off++cy++ob.cs.drop (off+cy.length)))):=Mi ho hx hH hk hy hty hlen hoff
end
theorem xCl {fn : Func} {cd : Code} {xs : Array Operand} {ts : Array TypeId} {args res : List A} {x : X} (h1 : P.funcs[f]? = some fn) (h : CV P G f args res) (h2 : (fn.name == "runtime.NumGoroutine") = false := by kernel_rfl) (h3 : fn.body = some cd := by with_unfolding_all exact rfl) (ho : o.op = .call { callee := .value (.func f), args := xs, argTypes := ts } := by with_unfolding_all exact rfl) (ha : Ba (fun x y => LW true H (F.ev x) y) xs.toList args := by with_unfolding_all first | ((repeat' first | exact Br rfl rfl | refine AO rfl rfl ?_ ?_ | refine Dn rfl rfl ?_ | refine Cf rfl rfl ?_ | exact Bi rfl (fun h => by cases h) | exact GL rfl rfl | exact cexp_e rfl rfl | refine Dc rfl rfl rfl ?_) <;> fail) | fail) (hx : Akq res = x := by with_unfolding_all exact rfl) : AZ P G o F H x [] := Arv ⟨fn, cd, h1, h2, h3⟩ h ho ha hx
end
section
variable {P:Program} {G:World→Prop} {F:Frm} {H:List Ob} {ops:Array Oper} {l:List Oper} {K:Frm→List Ob→Prop} {d:Tmp} {xx:X} {ob:Ob} {op:Op} {ty_:TypeId} {ps_:String} {af_:Array Edge} {gg_:Option (Nat × Bool)} {dd:Option Tmp} {x:Operand} {c p p':C} {cs cs':List C} {H2:List Ob} {t:TypeId} {o:Oper} {f q ft k n e:Nat} {b:Bool}
theorem gO (h:AZ P G ⟨some d,op,ty_,ps_,af_,none⟩ F H xx []) (k:Ti P G ops l (F.put (some d) xx) H K):Ti P G ops (⟨some d,op,ty_,ps_,af_,none⟩::l) F H K:=Jo h k rfl rfl
theorem gN (h:AZ P G ⟨some d,op,ty_,ps_,af_,none⟩ F H xx [ob]) (k:Ti P G ops l (F.put (some d) xx) (H++[ob]) K):Ti P G ops (⟨some d,op,ty_,ps_,af_,none⟩::l) F H K:=Jn h k rfl rfl
theorem gZ (h:TOk P G ⟨none,op,ty_,ps_,af_,none⟩ F H xx H2) (k:Ti P G ops l F H2 K):Ti P G ops (⟨none,op,ty_,ps_,af_,none⟩::l) F H K:=Js h k rfl rfl
theorem gT (h:TOk P G ⟨some d,op,ty_,ps_,af_,none⟩ F H xx H2) (k:Ti P G ops l (F.put (some d) xx) H2 K):Ti P G ops (⟨some d,op,ty_,ps_,af_,none⟩::l) F H K:=Jt h k rfl rfl
theorem gP (h:AZ P G ⟨some d,op,ty_,ps_,af_,none⟩ F H xx []) (k:Ch P G ops l (F.put (some d) xx) H K):Ch P G ops (⟨some d,op,ty_,ps_,af_,none⟩::l) F H K:=Ko h k rfl rfl
theorem gQ (h:AZ P G ⟨some d,op,ty_,ps_,af_,none⟩ F H xx [ob]) (k:Ch P G ops l (F.put (some d) xx) (H++[ob]) K):Ch P G ops (⟨some d,op,ty_,ps_,af_,none⟩::l) F H K:=Kn h k rfl rfl
theorem xM (hx:F.ev x=.one c:=by with_unfolding_all exact rfl):AZ P G ⟨dd,.move x,ty_,ps_,af_,gg_⟩ F H (.one c) []:=Xn rfl hx
theorem xA (hx:F.ev x=.one c:=by with_unfolding_all exact rfl):AZ P G ⟨dd,.assign x,ty_,ps_,af_,gg_⟩ F H (.one c) []:=Xp rfl hx
theorem xF (ho:o.op=.fieldAddr t x f:=by with_unfolding_all exact rfl) (hf:TyF prog t f q ft:=by first|exact AI|exact CO|exact Mg|exact CU|exact Oc|exact EB|exact DI|exact Ea|exact Es|exact Io|exact Fa|exact VO|exact EZ|exact Eb|exact FZ|exact Oe|exact Zs|exact Mh|exact RK|exact Gv) (hk:TyK prog ft b (k+1):=by first|exact Aa|exact Az|exact Ab|exact BJ|exact AM|exact Bt|exact AG|exact DM|exact Bd|exact Bh|exact Cg|exact Bg|exact OU|exact BQ|exact FQ|exact AV|exact Lv) (hx:F.ev x=.one p:=by with_unfolding_all exact rfl) (ha:At H p cs:=by with_unfolding_all first|exact .box rfl|exact .ptr|exact .row rfl) (hp:Off q p p':=by with_unfolding_all first|exact .ref|exact .ptr):AZ prog G o F H (.one p') []:=xFa hf hk ho hx ha hp
theorem xD (ho:o.op=.load t x:=by with_unfolding_all exact rfl) (hk:TyK prog t false k:=by first|exact Aa|exact Az|exact Ab|exact BJ|exact AM|exact Bt|exact AG|exact DM|exact Bd|exact Bh|exact Cg|exact Bg|exact OU|exact BQ|exact FQ|exact AV|exact Lv) (hx:F.ev x=.one p:=by with_unfolding_all exact rfl) (ha:At H p cs:=by with_unfolding_all first|exact .box rfl|exact .ptr|exact .row rfl) (hc:cs[0]?=some c:=by with_unfolding_all exact rfl):AZ prog G o F H (.one c) []:=xLd hk ho hx ha hc
theorem xL (ho:o.op=.load t x:=by with_unfolding_all exact rfl) (hk:TyK prog t true k:=by first|exact Aa|exact Az|exact Ab|exact BJ|exact AM|exact Bt|exact AG|exact DM|exact Bd|exact Bh|exact Cg|exact Bg|exact OU|exact BQ|exact FQ|exact AV|exact Lv) (hx:F.ev x=.one p:=by with_unfolding_all exact rfl) (ha:At H p cs:=by with_unfolding_all first|exact .box rfl|exact .ptr|exact .row rfl) (hc:cs.take k=cs':=by with_unfolding_all exact rfl) (hlen:cs'.length=k:=by with_unfolding_all exact rfl):AZ prog G o F H (.agg cs') []:=xLa hk ho hx ha hc hlen
theorem xN (ho:o.op=.call { callee:=.builtin .len,args:=#[x],argTypes:=#[t] }:=by with_unfolding_all exact rfl) (ht:TyS prog t e k:=by first|exact Ae|exact Ad|exact Ag|exact Ak|exact AN|exact BK|exact Ci|exact Fi) (hx:F.ev x=.one c:=by with_unfolding_all exact rfl) (hn:Len H c n:=by with_unfolding_all first|exact .own rfl|exact .row|exact .nil|exact .emp):AZ prog G o F H (.one (.d (.val (.int .i64 n)))) []:=xLn ht ho hx hn
end
end Go.Proofs.YtjlkgfeepocjfaaGreatDoor
