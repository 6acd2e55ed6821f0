/- What the proofs of this claim share, part 9. No conditions. -/
import Derived.Test.YtjlkgfeepocjfaaGreatDoorPn8
import Derived.WideLaws
import Derived.Test.YtjlkgfeepocjfaaGreatDoorRows
set_option linter.all false
open Go.Proofs.Tryz
namespace Go.Proofs.YtjlkgfeepocjfaaGreatDoor
open Go.RowKit
variable {N by_ i id j n off s:Nat} {F:Frm} {H H' H2:List Ob} {l:List Oper} {xs:List Int} {p q z:Int} {e t ty:TypeId} {b bb want:Bool} {y:Operand} {f:FuncId} {o oj:Oper} {d:Tmp} {ob:Ob} {kk:Option Nat}
def Wk (N:Nat) (F:Frm) (H:List Ob) (F':Frm) (H':List Ob):Prop :=
 ∀ (b0:Nat) (w0:World) (S0:SD) (a:Act) (m:Mm),m.H=H→St b0 N w0 S0 F a m→∃ m',m'.w=m.w∧m'.H=H'∧St b0 N w0 S0 F' a m'
section
variable {P:Program} {G:World→Prop} {N:Nat} {F F':Frm} {H H':List Ob} {Q:Sg}
theorem AY {c:Code} (h:Wk N F H F' H') (k:CW P G N c F' H' Q):CW P G N c F H Q:=fun b0 w0 S0 a m hG hH hs=>by
 obtain ⟨m',h1,h2,h3⟩:=h b0 w0 S0 a m hH hs
 rw [←h1]
 exact k b0 w0 S0 a m' hG h2 h3
def wkC (N:Nat) (K:Frm→List Ob→Prop):Frm→List Ob→Prop:=fun F H=>∃ F' H',Wk N F H F' H'∧K F' H'
theorem Aq {c:Code} (I:Nat→Frm→List Ob→Prop) {n0:Nat} (h0:I n0 F H) (round:∀ n F H,I n F H→CW P G N c F H (TE (wkC N fun F' H'=>∃ n',n'<n∧I n' F' H') Q)):CW P G N (.loop c) F H Q:=fun b0 w0 S0 a m hG hH hs=>by
 refine Aht (fun n a w=>∃ F' m',m'.w=w∧St b0 N w0 S0 F' a m'∧I n F' m'.H) (n0:=n0) ⟨F,m,rfl,hs,by rw [hH];exact h0⟩ fun n a w ⟨F',m',h1,h2,h3⟩=>?_
 subst h1
 refine wp_mono (round n F' m'.H h3 b0 w0 S0 a m' hG rfl h2) fun e a w ⟨F2,m2,k1,k2,k3⟩=>?_
 cases e with
 | normal =>
  obtain ⟨F3,H3,k4,n',hlt,hI⟩:=k3
  obtain ⟨m3,k5,k6,k7⟩:=k4 b0 w0 S0 a m2 rfl k2
  subst k6
  exact ⟨n',hlt,F3,m3,k5.trans k1,k7,hI⟩
 | exit id=>exact ⟨F2,m2,k1,k2,k3⟩
 | goto l=>exact ⟨F2,m2,k1,k2,k3⟩
 | ret=>exact ⟨F2,m2,k1,k2,k3⟩
 | panic ch=>exact ⟨F2,m2,k1,k2,k3⟩
 | outgrown=>exact ⟨F2,m2,k1,k2,k3⟩
end
def ofL:List (Nat × X)→Frm
 | []=>fun _=>.any
 | (s,x)::l=>fun t=>match Nat.beq t s with|true=>x|false=>ofL l t
def C.bel (n:Nat):C→Prop
 | .d _=>True
 | .own id _=>id<n
 | .ref id _ _=>id<n
 | .clo _ caps=>∀ p∈caps,p.1<n
 | .emp=>True
def X.bel (n:Nat):X→Prop
 | .one c=>c.bel n
 | .agg cs=>∀ c∈cs,c.bel n
 | .tup _=>True
 | .any=>True
 | .pin l=>∀ p∈l,p.1<n
 | .tupC _=>False
def Zy (F:Frm) (n:Nat):List (Nat × X)→Prop
 | []=>True
 | (s,x)::l=>F s=x∧x.bel n∧Zy F n l
theorem VR {F:Frm} {n:Nat}:∀ {l:List (Nat × X)},Zy F n l→∀ t,(ofL l t=F t∧(ofL l t).bel n)∨ofL l t=.any
 | [],_,t=>.inr rfl
 | (s,x)::l,h,t=>by
  obtain ⟨h1,h2,h3⟩:=h
  simp only [ofL]
  cases hb:Nat.beq t s with
  | true =>
   have:=di hb
   subst this
   exact .inl ⟨h1.symm,h2⟩
  | false=>exact VR h3 t
theorem VF.cut {m:Mm} {k:Option Nat} {v:Value} {E:Nat→Option Et} (h:VF m id off k v) (hb:id<n) (hE:∀ i,i<n→E i=m.E i):VF { m with H:=m.H.take n,E:=E } id off k v:=by
 obtain ⟨h1,ob,h2,h3,h4⟩:=h
 refine ⟨h1,ob,by rw [bq,if_pos hb];exact h2,h3,fun hk=>?_⟩
 obtain ⟨e,g,h5,h6,h7⟩:=h4 hk
 exact ⟨e,g,by rw [show ({ m with H:=m.H.take n,E:=E }:Mm).E id=m.E id from hE id hb];exact h5,h6,h7⟩
theorem DP.cut {m:Mm} {c:C} {v:Value} {E:Nat→Option Et} (h:DP m c v) (hb:c.bel n) (hE:∀ i,i<n→E i=m.E i):DP { m with H:=m.H.take n,E:=E } c v:=by
 cases c with
 | d x=>exact h
 | own id p =>
  obtain ⟨h1,ob,h2,h3,h4⟩:=h
  have hb':id<n:=hb
  refine ⟨h1,ob,by rw [bq,if_pos hb'];exact h2,h3,fun hk=>?_⟩
  obtain ⟨e,h5,h6⟩:=h4 hk
  exact ⟨e,(hE id hb).trans h5,h6⟩
 | ref id off k=>exact VF.cut h hb hE
 | clo fn caps =>
  obtain ⟨vs,h1,h2,h3⟩:=h
  exact ⟨vs,h1,h2,fun j p v hp hv=>(h3 j p v hp hv).cut (hb p (gM hp)) hE⟩
 | emp=>exact h
theorem Aut (l:List (Nat × X)) (n:Nat) (h:Zy F n l) (hH:∀ ob∈H.take n,∀ c∈ob.cs,C.bel n c):Wk N F H (ofL l) (H.take n):=fun b0 w0 S0 a m hm hs=>by
 subst hm
 let E:Nat→Option Et:=fun i=>if i<n then m.E i else none
 have hE:∀ i,i<n→E i=m.E i:=fun i hi=>if_pos hi
 have hE':∀ i e,E i=some e→i<n∧m.E i=some e:=fun i e he=>by
  have he':(if i<n then m.E i else none)=some e:=he
  split at he'
  ·exact ⟨by assumption,he'⟩
  ·cases he'
 have lcut:∀ {cs:List C} {vs:List Value},(∀ c∈cs,C.bel n c)→AP (DP m) cs vs→AP (DP { m with H:=m.H.take n,E:=E }) cs vs:=fun hb hl=>⟨hl.1,fun j c v hc hv=>(hl.2 j c v hc hv).cut (hb c (gM hc)) hE⟩
 refine ⟨{ m with H:=m.H.take n,E:=E },rfl,rfl,⟨⟨fun id e he=>?_,fun i j e e' hij hi hj=>hs.cx.apart i j e e' hij (hE' i e hi).2 (hE' j e' hj).2,fun id e g t he=>hs.cx.far id e g t (hE' id e he).2,hs.cx.lt⟩,fun id ob hob hk=>?_,fun t=>?_,hs.size,hs.defers,hs.below,hs.base,hs.S,hs.T⟩⟩
 ·obtain ⟨hlt,he⟩:=hE' id e he
  obtain ⟨h1,ob,h2,h3⟩:=hs.cx.each id e he
  have h2':(m.H.take n)[id]?=some ob:=by rw [bq,if_pos hlt];exact h2
  refine ⟨h1,ob,h2',?_⟩
  have hb:=hH ob (gM h2')
  cases ob <;> cases e <;> simp only [Adp] at h3 ⊢
  ·exact ⟨h3.1,lcut hb h3.2⟩
  ·exact ⟨h3.1,h3.2.1,h3.2.2.1,lcut hb h3.2.2.2⟩
 ·have hob':(m.H.take n)[id]?=some ob:=hob
  rw [bq] at hob'
  split at hob'
  ·rename_i hlt
   show (E id).isSome=true
   rw [hE id hlt]
   exact hs.tot id ob hob' hk
  ·cases hob'
 ·rcases VR h t with ⟨h1,h2⟩|h1
  ·rw [h1] at h2 ⊢
   have hx:=hs.frame t
   cases hF:F t with
   | one c=>rw [hF] at hx h2;exact DP.cut hx h2 hE
   | agg cs =>
    rw [hF] at hx h2
    obtain ⟨xs,h3,h4⟩:=hx
    exact ⟨xs,h3,lcut h2 h4⟩
   | tup l'=>rw [hF] at hx;exact hx
   | any=>trivial
   | pin l'=>rw [hF] at hx h2;exact fun p hp=>VF.cut (hx p hp) (h2 p hp) hE
   | tupC l'=>rw [hF] at h2;exact h2.elim
  ·rw [h1];trivial
theorem Mp (t e s:Nat) (h:F t=.one (.d (.val (.slice none 0 0)))):Wk N F H (F.put (some t) (.one (.own H.length 0))) (H++[.row e s 0 []]):=fun b0 w0 S0 a m hm hs=>by
 subst hm
 have hle:Le m { m with H:=m.H++[.row e s 0 []],E:=fun i=>if i=m.H.length then some (.row (.slice none 0 0) e s 0 []) else m.E i } :=
  ⟨fun _ _ h=>h,rfl,fun _ _ _=>rfl,fun id ob hob=>⟨ob,by rw [dk (gS.1 hob).1];exact hob,Np.same fun x hx=>by
   have:=(gS.1 hob).1
   show (if id=m.H.length then _ else m.E id)=some x
   rw [if_neg (by omega)]
   exact hx⟩⟩
 have get:∀ i x,(if i=m.H.length then some (Et.row (.slice none 0 0) e s 0 []) else m.E i)=some x→(i=m.H.length∧x=.row (.slice none 0 0) e s 0 [])∨m.E i=some x:=fun i x hx=>by
  split at hx
  ·exact .inl ⟨by assumption,(Option.some.inj hx).symm⟩
  ·exact .inr hx
 refine ⟨{ m with H:=m.H++[.row e s 0 []],E:=fun i=>if i=m.H.length then some (.row (.slice none 0 0) e s 0 []) else m.E i },rfl,rfl,⟨⟨fun id x hx=>?_,fun i j x y hij hi hj g h1 h2=>?_,fun id x g t hx hg=>?_,hs.cx.lt⟩,fun id ob hob hk=>?_,fun t'=>?_,hs.size,hs.defers,hs.below,hs.base,hs.S,hs.T⟩⟩
 ·rcases get id x hx with ⟨rfl,rfl⟩|h1
  ·exact ⟨jn _ _ _ _,.row e s 0 [],by simp,rfl,rfl,rfl,AP.nil_⟩
  ·obtain ⟨h2,ob,h3,h4⟩:=hs.cx.each id x h1
   exact ⟨h2,ob,by rw [dk (gS.1 h3).1];exact h3,h4.le hle⟩
 ·rcases get i x hi with ⟨rfl,rfl⟩|h3
  ·simp [Et.own,Value.ownBlock] at h1
  ·rcases get j y hj with ⟨rfl,rfl⟩|h4
   ·simp [Et.own,Value.ownBlock] at h2
   ·exact hs.cx.apart i j x y hij h3 h4 g h1 h2
 ·rcases get id x hx with ⟨rfl,rfl⟩|h3
  ·simp [Et.own,Value.ownBlock] at hg
  ·exact hs.cx.far id x g t h3 hg
 ·show (if id=m.H.length then _ else m.E id).isSome=true
  split
  ·rfl
  ·rename_i hne
   have hob':(m.H++[.row e s 0 []])[id]?=some ob:=hob
   have hlt:=(gS.1 hob').1
   simp only [aq,cq,List.length_nil] at hlt
   rw [dk (by omega)] at hob'
   exact hs.tot id ob hob' hk
 ·rw [EH]
  split
  ·rename_i ht
   cases ht
   have hv:=hs.frame t
   rw [h] at hv
   have hv':=CA (m:=m) hv
   rw [hv']
   exact ⟨rfl,.row e s 0 [],by simp,(fun n n' h1 h2=>by cases h1;cases h2;exact aa _),fun _=>⟨.row (.slice none 0 0) e s 0 [],by simp,rfl⟩⟩
  ·exact (hs.frame t').le hle
def Cv (l:List Oper):List (Nat × Nat)→List Oper
 | []=>l
 | (k,p)::es=>Cv (Bm l k p) es
def Zz (md:Region.Mode) (l:List Oper):List (Nat × Nat)→Bool
 | []=>true
 | (k,p)::es=>AhA md l k p && Zz md (Bm l k p) es
theorem Qk (l:List Oper) (k p:Nat):(Bm l k p).length=l.length:=by simp [Bm]
theorem Hw:∀ (es:List (Nat × Nat)) (l:List Oper),(Cv l es).length=l.length
 | [],l=>rfl
 | (k,p)::es,l=>by
  unfold Cv
  rw [Hw es,Qk]
theorem VS {k p:Nat} (h:n≤k):(Bm l k p).take n=l.take n:=by
 refine fk fun j=>?_
 simp only [bq,Bm,kh]
 by_cases hj:j<n
 ·rw [if_pos hj,if_pos hj]
  have hkj:¬ k=j:=by omega
  cases l[j]? <;> simp [hkj]
 ·rw [if_neg hj,if_neg hj]
theorem VT {k p:Nat} (h:n≤k):(Bm l k p).drop n=(l.drop n).modify (k - n) fun o=>{ o with after:=o.after.push ⟨p,.data⟩ }:=by
 refine fk fun j=>?_
 simp only [cn,Bm,kh]
 have hkj:k=n+j ↔ k - n=j:=by omega
 cases l[n+j]? <;> simp [hkj]
section
variable {P:Program} {md:Region.Mode} {Q:Exit→Act→World→Prop}
theorem VU (hQ:∀ (d:Option Tmp) v c a w,Q (.panic c) (Act.put a d v) w→Q (.panic c) a w):∀ (es:List (Nat × Nat)) (l:List Oper),Zz md l es=true→∀ (f:Nat) (listed:Array Bool) (a:Act) (w:World),listed.size=l.length →
  wpAny P md (Cv l es).toArray Q f listed a w→wpAny P md l.toArray Q f listed a w
 | [],_,_,_,_,_,_,_,h=>h
 | (k,p)::es,l,hB,f,listed,a,w,hs,h=>by
  simp only [Zz,aj] at hB
  exact Sk hB.1 hQ f listed a w hs (VU hQ es _ hB.2 f listed a w (by rw [Qk];exact hs) h)
theorem Sl:∀ (es:List (Nat × Nat)) (l:List Oper) (n:Nat),(es.all fun e=>decide (n≤e.1))=true→(Cv l es).take n=l.take n
 | [],_,_,_=>rfl
 | (k,p)::es,l,n,h=>by
  simp only [ii,aj,decide_eq_true_eq] at h
  unfold Cv
  rw [Sl es _ n h.2,VS h.1]
theorem Sn:∀ (es:List (Nat × Nat)) (l:List Oper) (n:Nat),(es.all fun e=>decide (n≤e.1))=true→wpList P (Cv l es).toArray Q ((Cv l es).drop n)=wpList P l.toArray Q (l.drop n)
 | [],_,_,_=>rfl
 | (k,p)::es,l,n,h=>by
  simp only [ii,aj,decide_eq_true_eq] at h
  unfold Cv
  rw [Sn es _ n h.2,VT h.1]
  exact funext fun a=>funext fun w=>LF _ _ a w
end
section
variable {P:Program} {G:World→Prop} {N:Nat} {F:Frm} {H:List Ob} {Q:Sg}
theorem FC (n:Nat) (es:List (Nat × Nat)) (hm:P.follows .mixedOrders=true) (hB:(Mk N l && OO .any (l.take n).toArray && Ly .any (Cv l es).toArray n && Zz .any l es && es.all fun e=>decide (n≤e.1))=true)
    (h:Ch P G (l.take n).toArray (l.take n) F H fun F' H'=>Ti P G l.toArray (l.drop n) F' H' (Q .normal)):CW P G N (.region id l.toArray true) F H Q:=fun b0 w0 S0 a m hG hH hs=>by
  subst hH
  simp only [aj] at hB
  obtain ⟨⟨⟨⟨hd,hC⟩,hp⟩,he⟩,hk⟩:=hB
  have hd1:Mk N (l.take n)=true:=List.all_eq_true.2 fun o ho=>List.all_eq_true.1 hd o (eh ho)
  have hd2:Mk N (l.drop n)=true:=List.all_eq_true.2 fun o ho=>List.all_eq_true.1 hd o (jv ho)
  have hn:n<l.length:=by
    have:=hp
    simp only [Ly,aj,decide_eq_true_eq,jy,Hw] at this
    exact this.1.1.1.1
  have hlen:(l.take n).length=n:=by simp;omega
  have hsz:(l.take n).toArray.size=n:=by simp;omega
  refine wp_region_noPanic (wp_region_any hm ?_)
  obtain ⟨Fs,Hs,xs,obs,h1,h2,h3,h4⟩:=h.seq
  have hs':=hs.drew
  let R:Exit→Act→World→Prop:=NoPanic fun e a w=>∃ F' m',m'.w=w∧St b0 N w0 S0 F' a m'∧Q e F' m'.H
  have key:wpAny P .any (l.take n).toArray (OM P l.toArray R (l.drop n)) n (Array.replicate n false) a m.w.drew:=by
    refine XU (G:=G) (w0:=w0) (S0:=S0) (b0:=b0) hG hC (N:=N) (by simpa using hd1) (Fs:=Fs) (Hs:=Hs) (xs:=xs) (obs:=obs) (fun i o hi=>h4 i o (by simpa using hi)) (fun a' m' hH' hst=>?_) n (Array.replicate n false) a { m with w:=m.w.drew,H:=Hs n } ?_ (by simp [Abs])
    · rw [hsz] at hst hH'
      rw [hlen] at h3
      rw [←hH'] at h3
      exact XT hG (l.drop n) (Fs n) a' m' (Q .normal) hd2 hst h3 fun F'' a'' m'' k1 k2=>⟨F'',m'',rfl,k1,k2⟩
    · have:=Lz (P:=P) (G:=G) (ops:=(l.take n).toArray) (Fs:=Fs) (Hs:=Hs) (xs:=xs) (obs:=obs) (fun i o hi=>h4 i o (by simpa using hi)) (by rw [h1];exact hs') (m:={ m with w:=m.w.drew }) h2.symm
      rw [hsz] at this
      exact this
  have hPQ:OM P (Cv l es).toArray R ((Cv l es).drop n)=OM P l.toArray R (l.drop n):=by
    funext e a w
    cases e <;> first
      | (show wpList P _ R _ a w = wpList P _ R _ a w
         rw [Sn es l n hk])
      | rfl
  rw [←Sl es l n hk,←hPQ] at key
  have inv0:HeadInv .any (Cv l es).toArray n (Array.replicate (Cv l es).toArray.size false) :=
    ⟨by simp,fun j oj _ hl=>(by rw [getD_replicate_false] at hl;cases hl),fun t _ ht=>getD_in (by simpa using ht) (getD_replicate_false _ _)⟩
  have hall:=Nm hp n (Array.replicate (Cv l es).toArray.size false) (Array.replicate n false) a m.w.drew inv0 (by simp) (fun i _=>by rw [getD_replicate_false,getD_replicate_false]) key
  have hsl:(Cv l es).toArray.size=l.toArray.size:=by simp [Hw]
  rw [hsl,show n+(l.toArray.size - n)=l.toArray.size by simp;omega] at hall
  exact VU (by intro _ _ _ _ _ h;exact h) es l he _ _ _ _ (by simp) hall
end
theorem Gq (id j e s:Nat) {t:TypeId} {cs:List C} (hid:H[id]?=some (.box t cs)) (hj:cs[j]?=some (.d (.val (.slice none 0 0)))):Wk N F H F (H.set id (.box t (cs.set j (.own H.length 0)))++[.row e s 0 []]):=fun b0 w0 S0 a m hm hs=>by
 subst hm
 have hlt:=(gS.1 hid).1
 let E:Nat→Option Et:=fun i=>if i=m.H.length then some (.row (.slice none 0 0) e s 0 []) else m.E i
 let m':Mm:={ m with H:=m.H.set id (.box t (cs.set j (.own m.H.length 0)))++[.row e s 0 []],E:=E }
 have hEo:∀ i,i<m.H.length→E i=m.E i:=fun i hi=>if_neg (by omega)
 have hH':∀ i (ob:Ob),m.H[i]?=some ob→∃ ob',m'.H[i]?=some ob'∧ob'.k=ob.k∧(i≠id→ob'=ob):=fun i ob hob=>by
  have hi:=(gS.1 hob).1
  by_cases h:id=i
  ·subst h
   rw [hid] at hob
   cases hob
   exact ⟨.box t (cs.set j (.own m.H.length 0)),by show (_++_)[id]?=_;rw [dk (by simpa using hi),ed hi],rfl,fun h=>absurd rfl h⟩
  ·exact ⟨ob,by show (_++_)[i]?=_;rw [dk (by simpa using hi),gm h];exact hob,rfl,fun _=>rfl⟩
 have hle:Le m m':=⟨fun _ _ h=>h,rfl,fun _ _ _=>rfl,fun i ob hob=>by
  have hi:=(gS.1 hob).1
  obtain ⟨ob',h1,h2,_⟩:=hH' i ob hob
  exact ⟨ob',h1,fun k hk=>.inl ⟨by rw [←h2];exact hk,fun x hx=>⟨x,(hEo i hi).trans hx,rfl⟩⟩⟩⟩
 have get:∀ i x,E i=some x→(i=m.H.length∧x=.row (.slice none 0 0) e s 0 [])∨(i<m.H.length∧m.E i=some x):=fun i x hx=>by
  have hx':(if i=m.H.length then some (Et.row (.slice none 0 0) e s 0 []) else m.E i)=some x:=hx
  split at hx'
  ·exact .inl ⟨by assumption,(Option.some.inj hx').symm⟩
  ·refine .inr ⟨?_,hx'⟩
   obtain ⟨_,ob,h2,_⟩:=hs.cx.each i x hx'
   exact (gS.1 h2).1
 have hnew:m'.H[m.H.length]?=some (.row e s 0 []):=by
  show (_++_)[m.H.length]?=_
  rw [dt (by simp)]
  simp
 have hown:DP m' (.own m.H.length 0) (.slice none 0 0):=⟨rfl,_,hnew,(fun n n' h1 h2=>by cases h1;cases h2;exact aa _),fun _=>⟨.row (.slice none 0 0) e s 0 [],if_pos rfl,rfl⟩⟩
 refine ⟨m',rfl,rfl,⟨⟨fun i x hx=>?_,fun i k x y hik hi hk g h1 h2=>?_,fun i x g t hx hg=>?_,hs.cx.lt⟩,fun i ob hob hk=>?_,fun t'=>(hs.frame t').le hle,hs.size,hs.defers,hs.below,hs.base,hs.S,hs.T⟩⟩
 ·rcases get i x hx with ⟨rfl,rfl⟩|⟨hi,h1⟩
  ·exact ⟨jn _ _ _ _,_,hnew,rfl,rfl,rfl,AP.nil_⟩
  ·obtain ⟨h2,ob,h3,h4⟩:=hs.cx.each i x h1
   obtain ⟨ob',h5,_,h6⟩:=hH' i ob h3
   refine ⟨h2,ob',h5,?_⟩
   by_cases h:i=id
   ·subst h
    rw [hid] at h3
    cases h3
    have h5':(m.H.set i (.box t (cs.set j (.own m.H.length 0)))++[.row e s 0 []])[i]?=some ob':=h5
    rw [dk (by simpa using hi),ed hi] at h5'
    cases h5'
    cases x with
    | row v t' s' n' xs=>exact h4.elim
    | box g vs t' =>
     obtain ⟨rfl,hl⟩:=h4
     refine ⟨rfl,?_⟩
     obtain ⟨v,hv,hr⟩:=hl.at_ hj
     have hv0:v=.slice none 0 0:=by cases hr;rfl
     subst hv0
     have:=(hl.imp fun _ _=>DP.le hle).set_ j hown
     rwa [show vs.set j (.slice none 0 0)=vs from by
      refine fk fun q=>?_
      rw [bu]
      split
      ·rename_i hq;subst hq;rw [if_pos (gS.1 hv).1];exact hv.symm
      ·rfl] at this
   ·rw [h6 h]
    exact h4.le hle
 ·rcases get i x hi with ⟨rfl,rfl⟩|⟨_,h3⟩
  ·simp [Et.own,Value.ownBlock] at h1
  ·rcases get k y hk with ⟨rfl,rfl⟩|⟨_,h4⟩
   ·simp [Et.own,Value.ownBlock] at h2
   ·exact hs.cx.apart i k x y hik h3 h4 g h1 h2
 ·rcases get i x hx with ⟨rfl,rfl⟩|⟨_,h3⟩
  ·simp [Et.own,Value.ownBlock] at hg
  ·exact hs.cx.far i x g t h3 hg
 ·show (E i).isSome=true
  by_cases h:i=m.H.length
  ·show (if i=m.H.length then _ else _:Option Et).isSome=true
   rw [if_pos h]
   rfl
  ·have hlt':=(gS.1 hob).1
   have hi:i<m.H.length:=by
    simp only [m',aq,dw,cq,List.length_nil] at hlt'
    omega
   rw [hEo i hi]
   obtain ⟨ob0,hob0⟩:∃ ob0,m.H[i]?=some ob0:=⟨_,gE hi⟩
   obtain ⟨ob',h5,h6,_⟩:=hH' i ob0 hob0
   rw [h5] at hob
   cases hob
   exact hs.tot i ob0 hob0 (by rw [←h6];exact hk)
structure TyI (P:Program) (t:TypeId):Prop where
 h:P.underlying t=some (.interface (P.methodsAt t))
def cI (xs:List Int):List C:=xs.map fun z=>.d (.val (.int .i64 z))
theorem AqF (xs:List Int):(cI xs).length=xs.length:=by simp [cI]
theorem Auu {k:Nat} (h:xs[k]?=some z):((cI xs).drop (k*1))[0]?=some (.d (.val (.int .i64 z))):=by
 rw [cz,cn,dv]
 simp [cI,h]
theorem AqG (xs:List Int) (k:Nat) (z:Int):(cI xs).set (k*1) (.d (.val (.int .i64 z)))=cI (xs.set k z):=by
 rw [cz]
 simp [cI,gj]
theorem AqH (xs:List Int) (z:Int):cI xs++[.d (.val (.int .i64 z))]=cI (xs++[z]):=by simp [cI]
theorem Amz (n:Nat):DW (madeCells (Value.int .i64 0).cells (n*1)).toList=cI (List.replicate n 0):=by
 rw [cz,show (Value.int .i64 0).cells=#[Value.int .i64 0] from rfl,toList_madeCells_one]
 simp [DW,cI]
section
variable {P:Program} {G:World→Prop} {o:Oper} {F:Frm} {H:List Ob}
theorem TI {op:BinOp} {t':TypeId} {x:Operand} {u:Value} (ho:o.op=.binOp op t x (.const .nilIface) t') (ht:TyI P t) (hx:F.ev x=.one (.d (.val u))) (hb:(op=.eql∧u=.nilIface∧b=true)∨(op=.neq∧u=.nilIface∧b=false)∨(op=.eql∧(∃ t v,u=.iface t v)∧b=false)∨(op=.neq∧(∃ t v,u=.iface t v)∧b=true)):AU P G o F H (.one (.d (.val (.bool b)))) []:=by
 have hu:=ht.h
 rcases hb with ⟨rfl,rfl,rfl⟩|⟨rfl,rfl,rfl⟩|⟨rfl,⟨t2,v,rfl⟩,rfl⟩|⟨rfl,⟨t2,v,rfl⟩,rfl⟩
 ·refine Dr (y:=.const .nilIface) ho hx rfl (fun w=>?_) rfl
  have:=run_eql_nil_nil (P:=P) w t hu
  simp [eqGuard,this]
 ·refine Dr (y:=.const .nilIface) ho hx rfl (fun w=>?_) rfl
  have:=run_neq_nil_nil (P:=P) w t hu
  simp [eqGuard,this]
 ·refine Dr (y:=.const .nilIface) ho hx rfl (fun w=>?_) rfl
  have:=run_eql_held_nil (P:=P) w t t2 v hu
  simp [eqGuard,this]
 ·refine Dr (y:=.const .nilIface) ho hx rfl (fun w=>?_) rfl
  have:=run_neq_held_nil (P:=P) w t t2 v hu
  simp [eqGuard,this]
theorem AdD {x:X} (h:∀ (b0:Nat) (m:Mm) (a:Act),H <+: m.H→Cx b0 m→Aml m F a o→∃ v w',(execOp a.eval o).run P m.w=.ok (.value v) w'∧Below m.w.heap.size m.w w'∧∀ m2,Le m m2→m2.w=w'→(∀ b,m.w.heap.size≤b→b<w'.heap.size→m2.S false b)→Ey m2 x v):AU P G o F H x []:=by
 intro b0 m a hp hx hg hb0 hE hor K Q hK
 rw [av] at hp
 obtain ⟨v,w',h1,h2,h3⟩:=h b0 m a hp hx hor
 unfold Oper.wp
 rw [h1]
 exact hK v w' [] ⟨rfl,h2,fun k e hk=>by simp at hk,List.Pairwise.nil⟩ (h3 _ (GL h2 hx.lt (fun k hk=>by simp at hk)) rfl fun b hb hb'=>.inr ⟨rfl,hb,hb',fun e he=>by simp at he⟩)
theorem Ql {t e:Nat} (ho:o.op=.buildSlice t 0 #[]) (ht:TyS P t e s):AU P G o F H (.one .emp) []:=AdD fun b0 m a hp hx hor=>by
 obtain ⟨i,hi,hi2⟩:=Option.map_eq_some_iff.1 ht.s
 refine ⟨.slice (some ⟨m.w.heap.size,0,none⟩) 0 0,m.w.alloc (.cells #[] e),?_,(ah _ _).alloc (aa _) _,fun m2 _ _ _=>⟨_,rfl⟩⟩
 unfold execOp
 simp [ho,Instr.buildSlice,run_underlying ht.h,sizeOf,typeInfo,hi,Instr.fill,newRow,Array.range_zero']
theorem Nv {x:Operand} {c:C} {z:Value} {tg:Bool} {ds:List D} (ho:o.op=.call { callee:=.builtin .append,args:=#[x,y],argTypes:=#[t,t] }) (hx:F.ev x=.one c) (hc:c=.emp∨c=.d (.val (.slice none 0 0))) (hy:F.ev y=.one (.d (.row tg s n ds))) (hf:∀ d∈ds,Dn d) (ht:TyS P t e s) (hz:TyZ P e z s by_) (hn:n≤1000000) (hby:by_≤1000) (hs0:0<s) :
  AU P G o F H (.one (.d (.row false s n ds))) []:=AdD fun b0 m a hp hcx hor=>by
 have hv:=AV hor (x:=x) (by rw [ho];simp [Op.operands,Call.operands])
 have hu:=AV hor (x:=y) (by rw [ho];simp [Op.operands,Call.operands])
 rw [hx] at hv
 rw [hy] at hu
 have hv':∃ A:Option Addr,a.eval x=.slice A 0 0:=by
  rcases hc with rfl|rfl
  ·exact hv
  ·exact ⟨none,CA (m:=m) hv⟩
 obtain ⟨A,hxe⟩:=hv'
 obtain ⟨i,hi,hi2⟩:=Option.map_eq_some_iff.1 hz.h
 simp only [Prod.mk.injEq] at hi2
 have hu':Ba m.w m.S (.row tg s n ds) (a.eval y):=hu
 generalize hye:a.eval y=u at hu'
 cases hu' with
 | @row _ _ _ cap _ B xs hc' hA hl hxl hm hr =>
  have hstart:∀ v w',(Builtin.append_ #[t,t] o.type #[.slice A 0 0,.slice B n cap]).run P m.w=.ok v w'→(execOp a.eval o).run P m.w=.ok (.value v) w':=fun v w' h=>by
   unfold execOp
   simp only [ho,resolve,invoke,builtin,ai,bk,bd,js,br,fz,hxe,hye,h]
  rcases co n with h0|h0
  ·subst h0
   have hd0:ds=[]:=bj (by simpa using hl)
   subst hd0
   refine ⟨.slice A 0 0,m.w,hstart _ _ (Hv ht.h hi (aa _)),ah _ _,fun m2 _ _ _=>?_⟩
   exact Ba.row [] (aa _) (fun _=>rfl) (by simp) rfl (fun h=>absurd rfl h) (fun j u x h=>by simp at h)
  ·have hne:ds≠[]:=fun h=>by rw [h] at hl;have:=Nat.mul_pos h0 hs0;simp at hl;omega
   obtain ⟨b,off,rfl,hb,hcells⟩:=hm hne
   have hcells':∀ (j:Nat) (v:Value),xs[j]?=some v→m.w.cell? ((⟨b,off,none⟩:Addr).add j)=some v:=fun j v hj=>by rw [mj];exact hcells j v hj
   have hbytes:n*i.bytes≤1000000*1000:=du hn (by omega)
   have hrun:∃ cap' cur,(Builtin.append_ #[t,t] o.type #[.slice A 0 0,.slice (some ⟨b,off,none⟩) n cap]).run P m.w=.ok (.slice (some ⟨m.w.heap.size,0,none⟩) n cap') (m.w.drew.alloc (.cells (xs.toArray++cur) e))∧n≤cap':=by
    cases A with
    | none=>exact ⟨_,_,run_append_nil (P:=P) m.w t o.type e i z ht.h hi hi2.1 ⟨b,off,none⟩ n cap xs (by rw [←hxl,hl,hi2.2.1]) hcells' h0 (by omega) (by omega),grownCap_ge _ _ _ _⟩
    | some p =>
     have:=run_append_grow (P:=P) m.w t o.type e i z ht.h hi hi2.1 p 0 0 [] (by simp) (fun j v h=>by simp at h) ⟨b,off,none⟩ n cap xs (by rw [←hxl,hl,hi2.2.1]) hcells' (by omega) (by omega) (by
      rw [ax,nextslicecap_zero h0];omega)
     simp only [ax,ea] at this
     refine ⟨_,_,by simpa using this,grownCap_ge _ _ _ _⟩
   obtain ⟨cap',cur,hrun,hcap⟩:=hrun
   refine ⟨_,_,hstart _ _ hrun,((ah _ _).drew).alloc (aa _) _,fun m2 hle hw hS=>?_⟩
   refine Ba.row xs hcap (by simp) hl hxl (fun _=>⟨m.w.heap.size,0,rfl,hS _ (aa _) (by simp),fun j v hj=>?_⟩) (fun j u v hu' hv'=>?_)
   ·rw [hw,ax]
    have:(m.w.drew.alloc (.cells (xs.toArray++cur) e)).heap[m.w.heap.size]?=some (.cells (xs.toArray++cur) e):=heap_alloc_new m.w.drew _
    rw [cell_of_row _ _ j _ e (0,0) this]
    have hjl:=(gS.1 hj).1
    rw [Array.getElem?_append_left (by simpa using hjl)]
    simpa using hj
   ·exact Ba.le hle (hr j u v hu' hv')
end
theorem Al:TyK prog 3 false 1:=⟨⟨_,underlying3,rfl⟩,by kernel_rfl⟩
theorem BK:TyZ prog 3 (.int .i64 0) 1 8:=⟨by kernel_rfl,rfl,by kernel_rfl⟩
theorem DE:TyK prog 4 false 1:=⟨⟨_,underlying4,rfl⟩,by kernel_rfl⟩
theorem AdE:TyZ prog 4 (.bool false) 1 1:=⟨by kernel_rfl,rfl,by kernel_rfl⟩
theorem Cn:TyK prog 143 false 1:=⟨⟨_,underlying143,rfl⟩,by kernel_rfl⟩
theorem Eq:TyZ prog 143 (.int .u32 0) 1 4:=⟨by kernel_rfl,rfl,by kernel_rfl⟩
theorem FD:TyK prog 36 false 1:=⟨⟨_,underlying36,rfl⟩,by kernel_rfl⟩
theorem TJ:TyZ prog 36 (.nilIface) 1 16:=⟨by kernel_rfl,rfl,by kernel_rfl⟩
theorem Ax:TyK prog 24 false 1:=⟨⟨_,underlying24,rfl⟩,by kernel_rfl⟩
theorem DF:TyK prog 22 false 1:=⟨⟨_,underlying22,rfl⟩,by kernel_rfl⟩
theorem Cc:TyK prog 23 false 1:=⟨⟨_,underlying23,rfl⟩,by kernel_rfl⟩
theorem Bh:TyK prog 27 false 1:=⟨⟨_,underlying27,rfl⟩,by kernel_rfl⟩
theorem Ao:TyK prog 28 false 1:=⟨⟨_,underlying28,rfl⟩,by kernel_rfl⟩
theorem CS:TyZ prog 28 (.slice none 0 0) 1 24:=⟨by kernel_rfl,rfl,by kernel_rfl⟩
theorem Gr:TyK prog 66 false 1:=⟨⟨_,underlying66,rfl⟩,by kernel_rfl⟩
theorem DY:TyK prog 26 true 3:=⟨⟨_,underlying26,rfl⟩,by kernel_rfl⟩
theorem So:TyZ prog 26 (.agg #[.slice none 0 0,.slice none 0 0,.slice none 0 0]) 3 72:=⟨by kernel_rfl,rfl,by kernel_rfl⟩
theorem LH:TyF prog 26 0 0 22:=⟨_,_,underlying26,rfl,rfl,rfl⟩
theorem DZ:TyF prog 26 1 1 23:=⟨_,_,underlying26,rfl,rfl,rfl⟩
theorem Qm:TyF prog 26 2 2 24:=⟨_,_,underlying26,rfl,rfl,rfl⟩
theorem Abv:TyB prog 26 [(0,1),(1,1),(2,1)] [.slice none 0 0,.slice none 0 0,.slice none 0 0]:=⟨⟨_,underlying26,by kernel_rfl⟩,by kernel_rfl,by kernel_rfl⟩
theorem EB:TyK prog 30 true 3:=⟨⟨_,underlying30,rfl⟩,by kernel_rfl⟩
theorem TK:TyZ prog 30 (.agg #[.slice none 0 0,.slice none 0 0,.slice none 0 0]) 3 72:=⟨by kernel_rfl,rfl,by kernel_rfl⟩
theorem Ei:TyF prog 30 0 0 24:=⟨_,_,underlying30,rfl,rfl,rfl⟩
theorem Ph:TyF prog 30 1 1 27:=⟨_,_,underlying30,rfl,rfl,rfl⟩
theorem Ej:TyF prog 30 2 2 28:=⟨_,_,underlying30,rfl,rfl,rfl⟩
theorem XX:TyB prog 30 [(0,1),(1,1),(2,1)] [.slice none 0 0,.slice none 0 0,.slice none 0 0]:=⟨⟨_,underlying30,by kernel_rfl⟩,by kernel_rfl,by kernel_rfl⟩
theorem Bw:TyK prog 34 true 2:=⟨⟨_,underlying34,rfl⟩,by kernel_rfl⟩
theorem Ds:TyZ prog 34 (.agg #[.int .i64 0,.int .i64 0]) 2 16:=⟨by kernel_rfl,rfl,by kernel_rfl⟩
theorem Hx:TyB prog 34 [(0,1),(1,1)] [.int .i64 0,.int .i64 0]:=⟨⟨_,underlying34,by kernel_rfl⟩,by kernel_rfl,by kernel_rfl⟩
theorem Ab:TyK prog 43 true 3:=⟨⟨_,underlying43,rfl⟩,by kernel_rfl⟩
theorem Ak:TyZ prog 43 (.agg #[.bool false,.slice none 0 0,.int .i64 0]) 3 40:=⟨by kernel_rfl,rfl,by kernel_rfl⟩
theorem Abw:TyF prog 43 2 2 3:=⟨_,_,underlying43,rfl,rfl,rfl⟩
theorem Mq:TyB prog 43 [(0,1),(1,1),(2,1)] [.bool false,.slice none 0 0,.int .i64 0]:=⟨⟨_,underlying43,by kernel_rfl⟩,by kernel_rfl,by kernel_rfl⟩
theorem Ae:TyK prog 45 true 6:=⟨⟨_,underlying45,rfl⟩,by kernel_rfl⟩
theorem Am:TyZ prog 45 (.agg #[.bool false,.slice none 0 0,.int .i64 0,.bool false,.slice none 0 0,.int .i64 0]) 6 80:=⟨by kernel_rfl,rfl,by kernel_rfl⟩
theorem Er:TyF prog 45 0 0 43:=⟨_,_,underlying45,rfl,rfl,rfl⟩
theorem BI:TyF prog 45 1 3 43:=⟨_,_,underlying45,rfl,rfl,rfl⟩
theorem Dp:TyB prog 45 [(0,3),(3,3)] [.bool false,.slice none 0 0,.int .i64 0,.bool false,.slice none 0 0,.int .i64 0]:=⟨⟨_,underlying45,by kernel_rfl⟩,by kernel_rfl,by kernel_rfl⟩
theorem BE:TyK prog 63 true 2:=⟨⟨_,underlying63,rfl⟩,by kernel_rfl⟩
theorem Nx:TyF prog 63 0 0 3:=⟨_,_,underlying63,rfl,rfl,rfl⟩
theorem Gs:TyF prog 63 1 1 3:=⟨_,_,underlying63,rfl,rfl,rfl⟩
theorem Qn:TyB prog 63 [(0,1),(1,1)] [.int .i64 0,.int .i64 0]:=⟨⟨_,underlying63,by kernel_rfl⟩,by kernel_rfl,by kernel_rfl⟩
theorem BZ:TyK prog 65 true 6:=⟨⟨_,underlying65,rfl⟩,by kernel_rfl⟩
theorem Cw:TyZ prog 65 (.agg #[.int .i64 0,.slice none 0 0,.int .i64 0,.int .i64 0,.int .i64 0,.int .i64 0]) 6 64:=⟨by kernel_rfl,rfl,by kernel_rfl⟩
theorem Gu:TyF prog 65 0 0 3:=⟨_,_,underlying65,rfl,rfl,rfl⟩
theorem EZ:TyF prog 65 1 1 24:=⟨_,_,underlying65,rfl,rfl,rfl⟩
theorem Hy:TyF prog 65 2 2 63:=⟨_,_,underlying65,rfl,rfl,rfl⟩
theorem Hz:TyF prog 65 3 4 63:=⟨_,_,underlying65,rfl,rfl,rfl⟩
theorem ZA:TyB prog 65 [(0,1),(1,1),(2,2),(4,2)] [.int .i64 0,.slice none 0 0,.int .i64 0,.int .i64 0,.int .i64 0,.int .i64 0]:=⟨⟨_,underlying65,by kernel_rfl⟩,by kernel_rfl,by kernel_rfl⟩
theorem Ny:TyK prog 61 true 3:=⟨⟨_,underlying61,rfl⟩,by kernel_rfl⟩
theorem Qo:TyZ prog 61 (.agg #[.int .i64 0,.int .i64 0,.int .i64 0]) 3 24:=⟨by kernel_rfl,rfl,by kernel_rfl⟩
theorem ZB:TyF prog 61 0 0 3:=⟨_,_,underlying61,rfl,rfl,rfl⟩
theorem IJ:TyF prog 61 1 1 3:=⟨_,_,underlying61,rfl,rfl,rfl⟩
theorem TL:TyF prog 61 2 2 3:=⟨_,_,underlying61,rfl,rfl,rfl⟩
theorem AmA:TyB prog 61 [(0,1),(1,1),(2,1)] [.int .i64 0,.int .i64 0,.int .i64 0]:=⟨⟨_,underlying61,by kernel_rfl⟩,by kernel_rfl,by kernel_rfl⟩
theorem Bs:TyK prog 68 true 4:=⟨⟨_,underlying68,rfl⟩,by kernel_rfl⟩
theorem NC:TyZ prog 68 (.agg #[.slice none 0 0,.slice none 0 0,.slice none 0 0,.slice none 0 0]) 4 96:=⟨by kernel_rfl,rfl,by kernel_rfl⟩
theorem Qp:TyF prog 68 0 0 22:=⟨_,_,underlying68,rfl,rfl,rfl⟩
theorem XY:TyF prog 68 1 1 24:=⟨_,_,underlying68,rfl,rfl,rfl⟩
theorem XZ:TyF prog 68 2 2 66:=⟨_,_,underlying68,rfl,rfl,rfl⟩
theorem Ya:TyF prog 68 3 3 24:=⟨_,_,underlying68,rfl,rfl,rfl⟩
theorem CX:TyB prog 68 [(0,1),(1,1),(2,1),(3,1)] [.slice none 0 0,.slice none 0 0,.slice none 0 0,.slice none 0 0]:=⟨⟨_,underlying68,by kernel_rfl⟩,by kernel_rfl,by kernel_rfl⟩
theorem Ea:TyK prog 74 true 3:=⟨⟨_,underlying74,rfl⟩,by kernel_rfl⟩
theorem ND:TyZ prog 74 (.agg #[.slice none 0 0,.slice none 0 0,.bool false]) 3 56:=⟨by kernel_rfl,rfl,by kernel_rfl⟩
theorem Yb:TyF prog 74 0 0 24:=⟨_,_,underlying74,rfl,rfl,rfl⟩
theorem LI:TyF prog 74 1 1 24:=⟨_,_,underlying74,rfl,rfl,rfl⟩
theorem Qq:TyF prog 74 2 2 4:=⟨_,_,underlying74,rfl,rfl,rfl⟩
theorem Abx:TyB prog 74 [(0,1),(1,1),(2,1)] [.slice none 0 0,.slice none 0 0,.bool false]:=⟨⟨_,underlying74,by kernel_rfl⟩,by kernel_rfl,by kernel_rfl⟩
theorem FE:TyK prog 121 true 7:=⟨⟨_,underlying121,rfl⟩,by kernel_rfl⟩
theorem Ca:TyZ prog 121 (.agg #[.int .i64 0,.int .i64 0,.int .i64 0,.int .i64 0,.int .i64 0,.int .i64 0,.int .i64 0]) 7 56:=⟨by kernel_rfl,rfl,by kernel_rfl⟩
theorem AdF:TyF prog 121 0 0 3:=⟨_,_,underlying121,rfl,rfl,rfl⟩
theorem AdG:TyF prog 121 1 1 3:=⟨_,_,underlying121,rfl,rfl,rfl⟩
theorem AdH:TyF prog 121 2 2 3:=⟨_,_,underlying121,rfl,rfl,rfl⟩
theorem Qr:TyF prog 121 3 3 3:=⟨_,_,underlying121,rfl,rfl,rfl⟩
theorem VV:TyF prog 121 4 4 3:=⟨_,_,underlying121,rfl,rfl,rfl⟩
theorem Qs:TyF prog 121 5 5 3:=⟨_,_,underlying121,rfl,rfl,rfl⟩
theorem AdI:TyF prog 121 6 6 3:=⟨_,_,underlying121,rfl,rfl,rfl⟩
theorem EN:TyB prog 121 [(0,1),(1,1),(2,1),(3,1),(4,1),(5,1),(6,1)] [.int .i64 0,.int .i64 0,.int .i64 0,.int .i64 0,.int .i64 0,.int .i64 0,.int .i64 0]:=⟨⟨_,underlying121,by kernel_rfl⟩,by kernel_rfl,by kernel_rfl⟩
theorem Aa:TyS prog 24 3 1:=⟨underlying24,by kernel_rfl⟩
theorem Fa:TyS prog 80 4 1:=⟨underlying80,by kernel_rfl⟩
theorem BG:TyS prog 22 61 3:=⟨underlying22,by kernel_rfl⟩
theorem Ap:TyS prog 23 65 6:=⟨underlying23,by kernel_rfl⟩
theorem Ah:TyS prog 27 45 6:=⟨underlying27,by kernel_rfl⟩
theorem Af:TyS prog 28 43 3:=⟨underlying28,by kernel_rfl⟩
theorem Bi:TyS prog 66 121 7:=⟨underlying66,by kernel_rfl⟩
theorem NF:TyS prog 31 24 1:=⟨underlying31,by kernel_rfl⟩
theorem BN:TyS prog 46 28 1:=⟨underlying46,by kernel_rfl⟩
theorem Ag:TyI prog 36:=⟨by kernel_rfl⟩
def VW (w w':World):Dm:=fun t b=>t=false∧w.heap.size≤b∧b<w'.heap.size
def CVF (P:Program) (G:World→Prop) (f:FuncId) (args res:List A):Prop :=
 ∀ (w:World) (S:Dm) (vs:List Value),G w→(∀ t b,S t b→b<w.heap.size)→AP (EA w S) args vs →
  Calls P f vs.toArray w fun e w'=>∃ v,e=.returned v∧Ahf w' (VW w w') res v∧Below w.heap.size w w'
theorem Ahf.mono {w w':World} {S S':Dm} (hS:∀ t b,S t b→S' t b) (hw:∀ t b,S t b→w'.heap[b]?=w.heap[b]?) {res:List A} {v:Value} (h:Ahf w S res v):Ahf w' S' res v:=by
 match res,h with
 | [],h=>obtain ⟨vs,h1,h2⟩:=h;exact ⟨vs,h1,h2.imp fun _ _=>EA.mono hS hw⟩
 | [x],h=>exact EA.mono hS hw h
 | x::y::l,h=>obtain ⟨vs,h1,h2⟩:=h;exact ⟨vs,h1,h2.imp fun _ _=>EA.mono hS hw⟩
theorem CVF.cv {P:Program} {G:World→Prop} {args res:List A} (h:CVF P G f args res):CV P G f args res:=fun w S vs hg hlt ha =>
 (h w S vs hg hlt ha).mono fun e w' ⟨v,h1,h2,h3⟩=>⟨v,h1,h2.mono (fun t b hb=>⟨hb.1,.inr hb.2⟩) (fun _ _ _=>rfl),h3⟩
def dI (z:Int):D:=.val (.int .i64 z)
def dB (b:Bool):D:=.val (.bool b)
def aI (z:Int):A:=.one (dI z)
def aB (b:Bool):A:=.one (dB b)
def AM (t:Bool) (xs:List Int):D:=.row t 1 xs.length (xs.map dI)
def Ar {α:Type} (f:α→List D) (l:List α):List D:=(l.map f).flatten
theorem Fb {α:Type} (f:α→List D) (a b:List α):Ar f (a++b)=Ar f a++Ar f b:=by simp [Ar]
theorem VX {α:Type} {f:α→List D} (hf:∀ x,(f x).length=s) (l:List α):(Ar f l).length=l.length*s:=by
 induction l with
 | nil=>simp [Ar]
 | cons x l ih =>
  simp only [Ar,br,gg,aq,cq] at ih ⊢
  rw [ih,hf,bo]
  omega
theorem EO {α:Type} {f:α→List D} {s:Nat} (hf:∀ x,(f x).length=s):∀ {l:List α} {k:Nat} {x:α},l[k]?=some x→((Ar f l).drop (k*s)).take s=f x
 | [],k,x,h=>by simp at h
 | y::l,0,x,h=>by
  simp only [eb,Option.some.injEq] at h
  subst h
  simp only [Ar,br,gg,ep,ju]
  rw [ki (by rw [hf];exact aa _),am (by rw [hf];exact aa _)]
 | y::l,k+1,x,h=>by
  simp only [fi] at h
  have ih:=EO hf h
  simp only [Ar,br,gg] at ih ⊢
  rw [←ih,show (k+1)*s=(f y).length+k*s by rw [hf,bo];omega,List.drop_append]
  rw [List.drop_of_length_le (by omega),ea]
  congr 2
  omega
theorem ZC {α:Type} {f:α→D} {l:List α} {k:Nat} {x:α} (h:l[k]?=some x):((l.map f).drop (k*1)).take 1=[f x]:=by
 rw [cz]
 have hk:=(gS.1 h).1
 rw [←List.map_drop,←List.map_take,dm hk]
 have:l[k]=x:=(gS.1 h).2
 simp [this]
section
variable {P:Program} {G:World→Prop} {N:Nat} {ops:Array Oper} {o:Oper} {F:Frm} {H:List Ob} {Q:Sg} {K:Frm→List Ob→Prop}
theorem AhB (h:Q .normal F H):Ot i Q (.exit i) F H:=by
 show (match Nat.beq i i with|true=>Q .normal F H|false=>Q (.exit i) F H)
 rw [en]
 exact h
theorem AqI {t:Tmp} {x:X} (hg:o.guard=some (j,want)) (hj:ops[j]?=some oj) (ht:oj.dst=some t) (hF:F t=.one (.d (.val (.bool bb)))) (hb:(bb == want)=true) (h:TOk P G o F H x H2) (k:Ti P G ops l (F.put o.dst x) H2 K):Ti P G ops (o::l) F H K :=
 .inr ⟨by unfold Cu;rw [hg];exact ⟨oj,t,hj,ht,.inl ⟨bb,hF,hb.symm⟩⟩,x,H2,h,k⟩
theorem AqJ {t:Tmp} {x:X} {obs:List Ob} (hg:o.guard=some (j,want)) (hj:ops[j]?=some oj) (ht:oj.dst=some t) (hF:F t=.one (.d (.val (.bool bb)))) (hb:(bb == want)=true) (h:AU P G o F H x obs) (k:Ch P G ops l (F.put o.dst x) (H++obs) K):Ch P G ops (o::l) F H K :=
 .inr ⟨by unfold Cu;rw [hg];exact ⟨oj,t,hj,ht,.inl ⟨bb,hF,hb.symm⟩⟩,x,obs,h,k⟩
theorem AqK {t:Tmp} (hg:o.guard=some (j,want)) (hj:ops[j]?=some oj) (ht:oj.dst=some t) (hF:F t=.one (.d (.val (.bool bb)))) (hb:(bb == want)=false):Cu ops o F false:=by unfold Cu;rw [hg];exact ⟨oj,t,hj,ht,.inl ⟨bb,hF,hb.symm⟩⟩
theorem AmB (hw:Cu ops o F false) (hd:o.dst=some d) (k:Ti P G ops l (F.put (some d) (.tup [])) H K):Ti P G ops (o::l) F H K:=.inl ⟨hw,by rw [congrArg (fun q=>F.put q (X.tup [])) hd];exact k⟩
theorem AmC (hw:Cu ops o F false) (hd:o.dst=some d) (k:Ch P G ops l (F.put (some d) (.tup [])) H K):Ch P G ops (o::l) F H K:=.inl ⟨hw,by rw [congrArg (fun q=>F.put q (X.tup [])) hd];exact k⟩
theorem Aby {p:Prop} (h:p:=by
 rw [congrArg (fun q=>F.put q x) hd]
 exact k):p:=h
theorem Auv {x:X} (hg:o.guard=none) (hd:o.dst=some d) (h:AU P G o F H x []) (k:Ti P G ops l (F.put (some d) x) H K):Ti P G ops (o::l) F H K:=by
 refine Aqo hg h ?_
 exact Aby
theorem ti_n {x:X} (hg:o.guard=none) (hd:o.dst=some d) (h:AU P G o F H x [ob]) (k:Ti P G ops l (F.put (some d) x) (H++[ob]) K):Ti P G ops (o::l) F H K:=by
 refine Aqn hg h ?_
 exact Aby
theorem ti_s {x:X} (hg:o.guard=none) (hd:o.dst=none) (h:TOk P G o F H x H2) (k:Ti P G ops l F H2 K):Ti P G ops (o::l) F H K:=by
 have hp:F.put o.dst x=F:=by rw [hd];rfl
 refine TD hg h ?_
 rw [hp]
 exact k
theorem ti_t {x:X} (hg:o.guard=none) (hd:o.dst=some d) (h:TOk P G o F H x H2) (k:Ti P G ops l (F.put (some d) x) H2 K):Ti P G ops (o::l) F H K:=by
 refine TD hg h ?_
 exact Aby
theorem Auw {x:X} (hg:o.guard=none) (hd:o.dst=some d) (h:AU P G o F H x []) (k:Ch P G ops l (F.put (some d) x) H K):Ch P G ops (o::l) F H K:=by
 refine Ahs hg h ?_
 exact Aby
theorem ch_n {x:X} (hg:o.guard=none) (hd:o.dst=some d) (h:AU P G o F H x [ob]) (k:Ch P G ops l (F.put (some d) x) (H++[ob]) K):Ch P G ops (o::l) F H K:=by
 refine Amm hg h ?_
 exact Aby
theorem Qt {x:Operand} {c:C} (ho:o.op=.move x) (hx:F.ev x=.one c):AU P G o F H (.one c) []:=by rw [←hx];exact XV ho
theorem ZD {x:Operand} {l:List A} (ho:o.op=.move x) (hx:F.ev x=.tup l):AU P G o F H (.tup l) []:=by rw [←hx];exact XV ho
theorem ZE {x:Operand} {c:C} (ho:o.op=.assign x) (hx:F.ev x=.one c):AU P G o F H (.one c) []:=by rw [←hx];exact Adu ho
theorem AqL {x:Operand} {l:List A} {d:D} (ho:o.op=.extract x i) (hx:F.ev x=.tup l) (hy:l[i]?=some (.one d)):AU P G o F H (.one (.d d)) []:=Si ho hx hy
theorem Es {x:Operand} {l:List A} {ds:List D} (ho:o.op=.extract x i) (hx:F.ev x=.tup l) (hy:l[i]?=some (.agg ds)):AU P G o F H (.agg (ds.map .d)) []:=Si ho hx hy
theorem AhC {c x:Operand} {v:C} (ho:o.op=.pick c x y) (hc:F.ev c=.one (.d (.val (.bool true)))) (hx:F.ev x=.one v):AU P G o F H (.one v) []:=by
 have:=Ady (P:=P) (G:=G) (H:=H) ho hc
 dsimp only at this
 rwa [hx] at this
theorem AhD {c x:Operand} {v:C} (ho:o.op=.pick c x y) (hc:F.ev c=.one (.d (.val (.bool false)))) (hx:F.ev y=.one v):AU P G o F H (.one v) []:=by
 have:=Ady (P:=P) (G:=G) (H:=H) ho hc
 dsimp only at this
 rwa [hx] at this
theorem Aux {t:Tmp} {x:X} (hg:o.guard=some (j,want)) (hd:o.dst=some d) (hj:ops[j]?=some oj) (ht:oj.dst=some t) (hF:F t=.one (.d (.val (.bool bb)))) (hb:(bb == want)=true) (h:AU P G o F H x []) (k:Ti P G ops l (F.put (some d) x) H K):Ti P G ops (o::l) F H K:=by
 have h':=h.tok
 rw [av] at h'
 refine AqI hg hj ht hF hb h' ?_
 exact Aby
theorem Auy {t:Tmp} {x:X} (hg:o.guard=some (j,want)) (hd:o.dst=some d) (hj:ops[j]?=some oj) (ht:oj.dst=some t) (hF:F t=.one (.d (.val (.bool bb)))) (hb:(bb == want)=true) (h:AU P G o F H x []) (k:Ch P G ops l (F.put (some d) x) H K):Ch P G ops (o::l) F H K:=by
 refine AqJ hg hj ht hF hb h ?_
 rw [congrArg (fun q=>F.put q x) hd,av]
 exact k
theorem AU.tok0 {x:X} (h:AU P G o F H x []):TOk P G o F H x H:=by
 have:=h.tok
 rwa [av] at this
section
variable {t t':TypeId} {x y:Operand} {k:IntKind} {p q:Int} {b:Bool}
theorem AdJ (ho:o.op=.binOp .eql t x y t') (hx:F.ev x=.one (.d (.val (.int k p)))) (hy:F.ev y=.one (.d (.val (.int k q)))) (hb:(p == q)=b):AU P G o F H (.one (.d (.val (.bool b)))) []:=hb ▸ Aqw ho hx hy
theorem Yc (ho:o.op=.binOp .neq t x y t') (hx:F.ev x=.one (.d (.val (.int k p)))) (hy:F.ev y=.one (.d (.val (.int k q)))) (hb:(p != q)=b):AU P G o F H (.one (.d (.val (.bool b)))) []:=hb ▸ Aqx ho hx hy
theorem AmD (ho:o.op=.binOp .lss t x y t') (hx:F.ev x=.one (.d (.val (.int k p)))) (hy:F.ev y=.one (.d (.val (.int k q)))) (hb:decide (p<q)=b):AU P G o F H (.one (.d (.val (.bool b)))) []:=hb ▸ Aki ho hx hy
theorem AmE (ho:o.op=.binOp .leq t x y t') (hx:F.ev x=.one (.d (.val (.int k p)))) (hy:F.ev y=.one (.d (.val (.int k q)))) (hb:decide (p≤q)=b):AU P G o F H (.one (.d (.val (.bool b)))) []:=hb ▸ Aqy ho hx hy
theorem TM (ho:o.op=.binOp .gtr t x y t') (hx:F.ev x=.one (.d (.val (.int k p)))) (hy:F.ev y=.one (.d (.val (.int k q)))) (hb:decide (q<p)=b):AU P G o F H (.one (.d (.val (.bool b)))) []:=hb ▸ Akj ho hx hy
theorem AmF (ho:o.op=.binOp .geq t x y t') (hx:F.ev x=.one (.d (.val (.int k p)))) (hy:F.ev y=.one (.d (.val (.int k q)))) (hb:decide (q≤p)=b):AU P G o F H (.one (.d (.val (.bool b)))) []:=hb ▸ Aqz ho hx hy
end
theorem Qu (h:p=q):(p == q)=true:=by rw [h];exact beq_self_eq_true q
theorem VY (h:p≠q):(p == q)=false:=beq_eq_false_iff_ne.2 h
theorem GM (h:p≠q):(p != q)=true:=by simp [bne,VY h]
theorem OS (h:p=q):(p != q)=false:=by simp [bne,Qu h]
theorem AhE {p:Prop} [Decidable p] (h:p):decide p=true:=decide_eq_true h
theorem AhF {p:Prop} [Decidable p] (h:¬ p):decide p=false:=decide_eq_false h
theorem AN {fn:Func} {res:List A} {rs:List ResultVar} (hr:fn.results.toList=rs) (h:AP (RV P F H) rs res):Aqu P fn res .ret F H:=⟨.inl rfl,by rw [hr];exact h⟩
theorem AhG {t:Tmp} {z':Int} (hF:F t=.one (.d (.val (.int .i64 z)))) (hz:z=z'):RV P F H (.tmp t) (aI z'):=.tmp (by rw [hF,hz];exact .one (.d fun _=>.val _))
theorem GI {t:Tmp} {z z':Bool} (hF:F t=.one (.d (.val (.bool z)))) (hz:z=z'):RV P F H (.tmp t) (aB z'):=.tmp (by rw [hF,hz];exact .one (.d fun _=>.val _))
end
section
variable {P:Program} {G:World→Prop} {o:Oper} {F:Frm} {H:List Ob}
theorem Qv {x:Operand} {k:Nat} {cy:List C} (ho:o.op=.store t x y) (hx:F.ev x=.one (.ref id off kk)) (hH:H[id]?=some ob) (hk:ob.k=some kk) (hy:EY (F.ev y)=some cy) (hty:TyK P t b k) (hlen:Nat.beq cy.length k=true) (hoff:off+cy.length≤ob.cs.length) :
  TOk P G o F H .any (H.set id (ob.setC (ob.cs.take off++cy++ob.cs.drop (off+cy.length)))):=by
 have hlen:=di hlen
 subst hlen
 exact Zx ho hx hH hk hy hty hoff
theorem Sp {x:Operand} {tg:Bool} {cs es:List D} {k:IntKind} (ho:o.op=.indexAddr t x y) (hx:F.ev x=.one (.d (.row tg s n cs))) (hy:F.ev y=.one (.d (.val (.int k z)))) (hz:z=(i:Int)) (ht:TyS P t e s) (hi:i<n) (hs:0<s) (hes:(cs.drop (i*s)).take s=es):AU P G o F H (.one (.d (.ptr tg es))) []:=by
 subst hz
 exact Ou ho hx hy ht .row hi hs (.row hes)
theorem FF {x:Operand} {cs:List C} {k:IntKind} (ho:o.op=.indexAddr t x y) (hx:F.ev x=.one (.own id n)) (hH:H[id]?=some (.row ty s n cs)) (hy:F.ev y=.one (.d (.val (.int k z)))) (hz:z=(i:Int)) (ht:TyS P t e s) (hi:i<n) (hs:0<s):AU P G o F H (.one (.ref id (i*s) (some n))) []:=by
 subst hz
 exact Ou ho hx hy ht (.own hH) hi hs (.own hH)
theorem AqM {x:Operand} {k:Nat} (ho:o.op=.load t x) (hx:F.ev x=.one (.ref id (i*1) (some n))) (hH:H[id]?=some (.row ty s n (cI xs))) (hz:xs[i]?=some z) (hk:TyK P t false k):AU P G o F H (.one (.d (.val (.int .i64 z)))) [] :=
 Pf ho hx (.row hH) (Auu hz) hk
theorem Ov {x:Operand} (ho:o.op=.store t x y) (hx:F.ev x=.one (.ref id (i*1) (some n))) (hH:H[id]?=some (.row ty s n (cI xs))) (hy:F.ev y=.one (.d (.val (.int .i64 z)))) (hty:TyK P t b 1) (hi:i<xs.length) {ys:List Int} (hys:xs.set i z=ys):TOk P G o F H .any (H.set id (.row ty s n (cI ys))):=by
 have:=Hu (P:=P) (G:=G) ho hx hH rfl hy hty (by simp [Ob.cs,AqF,hi])
 simp only [Ob.cs,Ob.setC,AqG,hys] at this
 exact this
theorem Qw {x:Operand} {id':Nat} {ty':TypeId} {z:Value} {ys:List Int} {u:Int} {n':Nat} (ho:o.op=.call { callee:=.builtin .append,args:=#[x,y],argTypes:=#[t,t] }) (hx:F.ev x=.one (.own id n)) (hH:H[id]?=some (.row e 1 n (cI xs))) (hy:F.ev y=.one (.own id' 1)) (hH':H[id']?=some (.row ty' 1 1 [.d (.val (.int .i64 u))])) (hne:Nat.beq id' id=false) (ht:TyS P t e 1) (hz:TyZ P e z 1 by_) (hn:n+1≤100000000000) (hby:by_≤1000) (hys:xs++[u]=ys) (hn':n+1=n'):TOk P G o F H (.one (.own id n')) (H.set id (.row e 1 n' (cI ys))):=by
 subst hys
 subst hn'
 have:=Mo (P:=P) (G:=G) ho hx hH hy (.own hH' (fun h=>by rw [h,en] at hne;cases hne)) ht hz hn (by omega) hby rfl
 rwa [AqH] at this
end
section
variable {P:Program} {G:World→Prop} {o:Oper} {F:Frm} {H:List Ob}
theorem AZ {x:Operand} {z:Value} {cs:List C} (ho:o.op=.buildSlice t 1 #[(0,x)]) (ht:TyS P t e s) (hz:TyZ P e z s by_) (hx:EY (F.ev x)=some cs) (hcs:Nat.beq cs.length s=true) (hs:s≤1000) (h0:0<s):AU P G o F H (.one (.own H.length 1)) [.row e s 1 cs]:=by
 have hc:=di hcs
 have hl:(DW (madeCells z.cells (1*s)).toList).length=s:=by simp [DW,madeCells]
 refine EM (ps:=[(0,cs)]) ho ht hz (by omega) (by decide) (by simp [Lj,hx]) ?_ (by omega) h0
 unfold Fu
 simp only [hcs,ep,ax,hc,hl,Fu]
 rw [show Nat.ble s s=true from Nat.ble_eq ▸ aa _,show Nat.beq s s=true from en _]
 simp only [ik,ea,fu (dp hl),av]
theorem HH {x:Operand} {z:Value} {cs cs':List C} (ho:o.op=.buildSlice t 2 #[(0,x),(1,y)]) (ht:TyS P t e s) (hz:TyZ P e z s by_) (hx:EY (F.ev x)=some cs) (hy:EY (F.ev y)=some cs') (hcs:Nat.beq cs.length s=true) (hcs':Nat.beq cs'.length s=true) (hs:s≤1000) (h0:0<s):AU P G o F H (.one (.own H.length 2)) [.row e s 2 (cs++cs')]:=by
 have hc:=di hcs
 have hc':=di hcs'
 have hl:(DW (madeCells z.cells (2*s)).toList).length=2*s:=by simp [DW,madeCells]
 refine EM (ps:=[(0,cs),(1,cs')]) ho ht hz (by omega) (by decide) (by simp [Lj,hx,hy]) ?_ (by simp;omega) h0
 unfold Fu
 simp only [ep,ax,hc,hl,ik,ea]
 rw [show Nat.ble s (2*s)=true from Nat.ble_eq ▸ (by omega),show Nat.beq s s=true from en _]
 simp only []
 unfold Fu
 simp only [Nat.one_mul,hc',aq,iz,hc,hl]
 rw [show Nat.ble (s+s) (s+(2*s - s))=true from Nat.ble_eq ▸ (by omega),show Nat.beq s s=true from en _]
 simp only [Fu]
 have hX:(List.drop s (DW (madeCells z.cells (2*s)).toList)).length=s:=by rw [iz,hl];omega
 rw [fu (i:=s+s) (h:=by rw [aq,hX];omega),av,ki (by omega),am (by omega)]
theorem FG {x:Operand} {id' m' n':Nat} {ty':TypeId} {z:Value} {cs news cs2:List C} (ho:o.op=.call { callee:=.builtin .append,args:=#[x,y],argTypes:=#[t,t] }) (hx:F.ev x=.one (.own id n)) (hH:H[id]?=some (.row e s n cs)) (hy:F.ev y=.one (.own id' m')) (hH':H[id']?=some (.row ty' s m' news)) (hne:Nat.beq id' id=false) (ht:TyS P t e s) (hz:TyZ P e z s by_) (hn:n+m'≤100000000000) (hby:by_≤1000) (h0:0<s) (hl:Nat.beq news.length (m'*s)=true) (hys:cs++news=cs2) (hn':n+m'=n'):TOk P G o F H (.one (.own id n')) (H.set id (.row e s n' cs2)):=by
 subst hys
 subst hn'
 exact Mo ho hx hH hy (.own hH' (fun h=>by rw [h,en] at hne;cases hne)) ht hz hn h0 hby (di hl)
theorem AhH {x:Operand} {k k':IntKind} (ho:o.op=.makeSlice t x y) (hx:F.ev x=.one (.d (.val (.int k (n:Int))))) (hy:F.ev y=.one (.d (.val (.int k' (n:Int))))) (ht:TyS P t e 1) (hz:TyZ P e (.int .i64 0) 1 by_) (hn:n≤1000000) (hby:by_≤1000) :
  AU P G o F H (.one (.own H.length n)) [.row e 1 n (cI (List.replicate n 0))]:=by
 have:=Bo (P:=P) (G:=G) (H:=H) ho hx hy ht hz hn hby
 rwa [Amz] at this
end
theorem AJ:prog.follows .mixedOrders=true:=by kernel_rfl
section
variable {α β:Type} {R:α→β→Prop} {t:Bool} {H:List Ob}
theorem AX {l:List α} {m:List β} {a:α} {b:β} {aS':List α} {bs':List β} (h1:l=a::aS') (h2:m=b::bs') (h:R a b) (hl:AP R aS' bs'):AP R l m:=by rw [h1,h2];exact AP.cons_ h hl
theorem BM {l:List α} {m:List β} (h1:l=[]) (h2:m=[]):AP R l m:=by rw [h1,h2];exact AP.nil_
theorem FH {x:X} {y:A} {c:C} {d:D} (hx:x=.one c) (hy:y=.one d) (h:FA t H c d):LA t H x y:=by rw [hx,hy];exact .one h
theorem Dt {x:X} {y:A} {cs:List C} {ds:List D} (hx:x=.agg cs) (hy:y=.agg ds) (h:AP (FA t H) cs ds):LA t H x y:=by rw [hx,hy];exact .agg h
theorem Bp {c:C} {x:D} (hc:c=.d x) (h:t=false→Dn x):FA t H c x:=by rw [hc];exact .d h
theorem FI {c:C} {y:D} {t':Bool} (hc:c=.d (.val (.slice none 0 0))) (hy:y=.row t' s 0 []):FA t H c y:=by rw [hc,hy];exact .nil
theorem EI {c:C} {y:D} {ty:Nat} {cs:List C} {ds:List D} (hc:c=.own id n) (hH:H[id]?=some (.row ty s n cs)) (hy:y=.row t s n ds) (h:AP (FA t H) cs ds):FA t H c y:=by rw [hc,hy];exact .own hH h.1 h.2
end
structure FnOk (P:Program) (f:FuncId):Prop where
 h : ∃ fn c, P.funcs[f]? = some fn ∧ (fn.name == "runtime.NumGoroutine") = false ∧ fn.body = some c
section
variable {P:Program} {G:World→Prop} {o:Oper} {F:Frm} {H:List Ob}
theorem Auz {xs:Array Operand} {ts:Array TypeId} {args res:List A} {x:X} (hf:FnOk P f) (h:CV P G f args res) (ho:o.op=.call { callee:=.value (.func f),args:=xs,argTypes:=ts }) (ha:AP (fun x y=>LA true H (F.ev x) y) xs.toList args) (hx:Amt res=x):AU P G o F H x []:=by
 obtain ⟨fn,c,h1,h2,h3⟩:=hf.h
 rw [←hx]
 exact Amu ho h1 h2 h3 h ha
end
def C.belB (n:Nat):C→Bool
 | .d _=>true
 | .own id _=>Nat.ble (id+1) n
 | .ref id _ _=>Nat.ble (id+1) n
 | .clo _ caps=>caps.all fun p=>Nat.ble (p.1+1) n
 | .emp=>true
def X.belB (n:Nat):X→Bool
 | .one c=>c.belB n
 | .agg cs=>cs.all (C.belB n)
 | .tup _=>true
 | .any=>true
 | .pin l=>l.all fun p=>Nat.ble (p.1+1) n
 | .tupC _=>false
theorem AdK {c:C} (h:c.belB n=true):c.bel n:=by
 cases c with
 | d x=>trivial
 | own id k=>exact bl h
 | ref id off k=>exact bl h
 | clo fn caps=>exact fun p hp=>bl (List.all_eq_true.1 h p hp)
 | emp=>trivial
theorem AqN {x:X} (h:x.belB n=true):x.bel n:=by
 cases x with
 | one c=>exact AdK h
 | agg cs=>exact fun c hc=>AdK (List.all_eq_true.1 h c hc)
 | tup l=>trivial
 | any=>trivial
 | pin l=>exact fun p hp=>bl (List.all_eq_true.1 h p hp)
 | tupC l=>cases h
def VZ (F:Frm) (n:Nat):List (Nat × X)→Prop
 | []=>True
 | (s,x)::l=>F s=x∧x.belB n=true∧VZ F n l
theorem ZF {F:Frm} {n:Nat}:∀ {l:List (Nat × X)},VZ F n l→Zy F n l
 | [],_=>trivial
 | (s,x)::l,h=>⟨h.1,AqN h.2.1,ZF h.2.2⟩
def AtU (n:Nat):List Ob→Prop
 | []=>True
 | ob::l=>(∀ c∈ob.cs,C.bel n c)∧AtU n l
theorem AdL {n:Nat}:∀ {l:List Ob},AtU n l→∀ ob∈l,∀ c∈ob.cs,C.bel n c
 | [],_,ob,h=>by cases h
 | o::l,h,ob,hm=>by
  rcases List.mem_cons.1 hm with rfl|hm
  ·exact h.1
  ·exact AdL h.2 ob hm
theorem DG {cs:List C} (h:cs.all (C.belB n)=true):∀ c∈cs,C.bel n c:=fun c hc=>AdK (List.all_eq_true.1 h c hc)
theorem ZG:∀ c∈cI xs,C.bel n c:=fun c hc=>by obtain ⟨z,_,rfl⟩:=List.mem_map.1 hc;trivial
theorem AuA {ds:List D}:∀ c∈ds.map C.d,C.bel n c:=fun c hc=>by obtain ⟨z,_,rfl⟩:=List.mem_map.1 hc;trivial
theorem TN (l:List (Nat × X)) (n:Nat) (hH:H.take n=H') (h:VZ F n l) (hb:AtU n H'):Wk N F H (ofL l) H':=by
 subst hH
 exact Aut l n (ZF h) (AdL hb)
theorem Bz {l:List (Nat × X)} (n:Nat) (hH:H.take n=H':=by rfl) (h:VZ F n l:=by exact mB rfl rfl) (hb:AtU n H':=by repeat' first|exact trivial|exact DG rfl|exact ZG|exact AnH|exact AeR|exact AuA|exact Aoj|exact Akt|exact Aeh|refine ⟨?_,?_⟩):Wk N F H (ofL l) H':=TN l n hH h hb
section
variable (P:Program) (G:World→Prop) (ops:Array Oper)
def Ch2:List Oper→Frm→List Ob→List Ob→(Frm→Prop)→Prop
 | [],F,_,_,K=>K F
 | o::l,F,H,H',K=>(Cu ops o F false∧Ch2 l (F.put o.dst (.tup [])) H H' K)∨(Cu ops o F true∧∃ x,AU P G o F H x []∧AU P G o F H' x []∧Ch2 l (F.put o.dst x) H H' K)
end
section
variable {P:Program} {G:World→Prop} {ops:Array Oper}
theorem Akl {K:Frm→Prop} (h:K F):Ch2 P G ops [] F H H' K:=h
theorem TP {K:Frm→Prop} {x:X} (hg:o.guard=none) (hd:o.dst=some d) (h:AU P G o F H x []) (h':AU P G o F H' x []) (k:Ch2 P G ops l (F.put (some d) x) H H' K):Ch2 P G ops (o::l) F H H' K :=
 .inr ⟨by unfold Cu;rw [hg],x,h,h',by rw [congrArg (fun q=>F.put q x) hd];exact k⟩
theorem Ch2.seq:∀ {l:List Oper} {F:Frm} {H H':List Ob} {K:Frm→Prop},Ch2 P G ops l F H H' K →
  ∃ (Fs:Nat→Frm) (xs:Nat→X),Fs 0=F∧K (Fs l.length)∧∀ (i:Nat) (o:Oper),l[i]?=some o→Fs (i+1)=(Fs i).put o.dst (xs i) ∧
   ((Cu ops o (Fs i) false∧xs i=.tup [])∨(Cu ops o (Fs i) true∧AU P G o (Fs i) H (xs i) []∧AU P G o (Fs i) H' (xs i) []))
 | [],F,H,H',K,h=>⟨fun _=>F,fun _=>.any,rfl,h,fun i o hi=>by simp at hi⟩
 | o::l,F,H,H',K,h=>by
  have key:∃ x,((Cu ops o F false∧x=.tup [])∨(Cu ops o F true∧AU P G o F H x []∧AU P G o F H' x []))∧Ch2 P G ops l (F.put o.dst x) H H' K:=by
   rcases h with ⟨h1,h2⟩|⟨h1,x,h2,h2',h3⟩
   ·exact ⟨.tup [],.inl ⟨h1,rfl⟩,h2⟩
   ·exact ⟨x,.inr ⟨h1,h2,h2'⟩,h3⟩
  obtain ⟨x,hx,hc⟩:=key
  obtain ⟨Fs,xs,h1,h3,h4⟩:=Ch2.seq hc
  refine ⟨fun i=>match i with|0=>F|i+1=>Fs i,fun i=>match i with|0=>x|i+1=>xs i,rfl,by simpa using h3,fun i o' hi=>?_⟩
  rcases i with _|i
  ·simp only [eb,Option.some.injEq] at hi
   subst hi
   exact ⟨h1,hx⟩
  ·simp only [fi] at hi
   exact h4 i o' hi
structure AhI (b0 N:Nat) (w0:World) (S0:SD) (ops:Array Oper) (Fs:Nat→Frm) (H H':List Ob) (s:Nat) (listed:Array Bool) (a:Act) (m:Mm):Prop where
 H:m.H=if listed.getD s true=true then H' else H
 cx:Cx b0 m
 tot:Tot m
 frame:∀ t,(∀ (i:Nat) (o:Oper),ops[i]?=some o→listed.getD i true=false→o.dst≠some t)→Ey m (Fs ops.size t) (a.tmps.getD t undef)
 size:a.tmps.size=N
 defers:a.defers=S0.ds
 below:Below b0 w0 m.w
 base:b0≤w0.heap.size
 S:∀ b,m.S false b→S0 false b∨b0≤b
 T:m.S true=S0 true
 ls:listed.size=ops.size
theorem AhJ {b0:Nat} {w0:World} {S0:SD} (hG:∀ w',Below b0 w0 w'→G w') {md:Region.Mode} {Q:Exit→Act→World→Prop} (hC:OO md ops=true) (hd:Mk N ops.toList=true)
  {Fs:Nat→Frm} {H H':List Ob} {xs:Nat→X} {s:Nat} (hss:s<ops.size)
  (hs:∀ (i:Nat) (o:Oper),ops[i]?=some o→Fs (i+1)=(Fs i).put o.dst (xs i)∧((Cu ops o (Fs i) false∧xs i=.tup []∧i≠s)∨(Cu ops o (Fs i) true∧((i≠s∧TOk P G o (Fs i) H (xs i) H∧TOk P G o (Fs i) H' (xs i) H')∨(i=s∧TOk P G o (Fs i) H (xs i) H')))))
  (hq:∀ a m,m.H=H'→St b0 N w0 S0 (Fs ops.size) a m→Q .normal a m.w) :
  ∀ (f:Nat) (listed:Array Bool) (a:Act) (m:Mm),AhI b0 N w0 S0 ops Fs H H' s listed a m→Abs listed≤f→wpAny P md ops Q f listed a m.w:=by
 have opAt:∀ i,i<ops.size→∃ o,ops[i]?=some o:=fun i hi=>⟨_,ga hi⟩
 have keep:∀ t d i,i+d≤ops.size→(∀ (k:Nat) (o:Oper),i≤k→k<i+d→ops[k]?=some o→o.dst≠some t)→Fs (i+d) t=Fs i t:=fun t d=>by
  induction d with
  | zero=>intro i _ _;rfl
  | succ d ih =>
   intro i hi hk
   obtain ⟨o,ho⟩:=opAt (i+d) (by omega)
   rw [show i+(d+1)=i+d+1 by omega,(hs _ o ho).1,EH,if_neg (hk (i+d) o (by omega) (by omega) ho)]
   exact ih i (by omega) fun k o' h1 h2=>hk k o' h1 (by omega)
 have look:∀ i o t,ops[i]?=some o→t∈o.looksAt ops→Fs ops.size t=Fs i t:=fun i o t ho ht=>by
  have hi:=(Array.getElem?_eq_some_iff.1 ho).1
  have:=keep t (ops.size - i) i (by omega) fun k o' h1 _ hk hdst=>by
   have:=((Cj hC ho).2 k o' t hk hdst).1 ht
   omega
  rwa [show i+(ops.size - i)=ops.size by omega] at this
 have out:∀ i o t,ops[i]?=some o→o.dst=some t→Fs ops.size t=xs i:=fun i o t ho ht=>by
  have hi:=(Array.getElem?_eq_some_iff.1 ho).1
  have:=keep t (ops.size - (i+1)) (i+1) (by omega) fun k o' h1 _ hk hdst=>((Cj hC ho).2 k o' t hk hdst).2 (by omega) ht
  rw [show i+1+(ops.size - (i+1))=ops.size by omega,(hs i o ho).1,EH,if_pos ht] at this
  exact this
 have fin:∀ (listed:Array Bool) (a:Act) (m:Mm),AhI b0 N w0 S0 ops Fs H H' s listed a m→Region.ready md ops listed=[]→Q .normal a m.w:=fun listed a m inv hr=>by
  have all:∀ i,i<ops.size→listed.getD i true=true:=by
   intro i
   induction i using Nat.strongRecOn with
   | _ i ih =>
    intro hi
    cases hl:listed.getD i true with
    | true=>rfl
    | false =>
     exfalso
     obtain ⟨o,ho⟩:=opAt i hi
     have:i∈Region.ready md ops listed:=mem_ready.2 ⟨hl,o,ho,fun e he hb=>by
      have hlt:=(Cj hC ho).1 e he hb
      have:=ih e.on hlt (by omega)
      have hsz:=inv.ls
      rw [←CO (by omega)]
      exact this⟩
     rw [hr] at this
     cases this
  refine hq a m (by rw [inv.H,if_pos (all s hss)]) ⟨inv.cx,inv.tot,fun t=>inv.frame t fun i o ho hl=>?_,inv.size,inv.defers,inv.below,inv.base,inv.S,inv.T⟩
  have:=all i (Array.getElem?_eq_some_iff.1 ho).1
  rw [hl] at this
  cases this
 have next:∀ (listed:Array Bool) (i:Nat) (a:Act) (m:Mm),AhI b0 N w0 S0 ops Fs H H' s listed a m→i∈Region.ready md ops listed→∀ K:Act→World→Prop,
   (∀ a' m',AhI b0 N w0 S0 ops Fs H H' s (listed.setIfInBounds i true) a' m'→K a' m'.w)→wpOp P ops Q i K a m.w:=fun listed i a m inv hr K hK=>by
  obtain ⟨hun,o,ho,hall⟩:=mem_ready.1 hr
  have hi:=(Array.getElem?_eq_some_iff.1 ho).1
  have hd0:∀ d,o.dst=some d→d<N:=Nq hd (by simpa using jx ho)
  have getSet:∀ j,j≠i→(listed.setIfInBounds i true).getD j true=listed.getD j true:=fun j hj=>getD_set_ne true (Ne.symm hj)
  have getSame:(listed.setIfInBounds i true).getD i true=true:=by simp [Array.getD,inv.ls,hi]
  have hlook:∀ t∈o.looksAt ops,Ey m (Fs i t) (a.tmps.getD t undef):=fun t ht=>by
   rw [←look i o t ho ht]
   refine inv.frame t fun k ok hok hkl hdst=>?_
   obtain ⟨h1,e,he,hb,hon⟩:=((Cj hC ho).2 k ok t hok hdst).1 ht
   have h2:=hall e he hb
   rw [hon] at h2
   have hsz:=inv.ls
   rw [←CO (by have:=(Array.getElem?_eq_some_iff.1 hok).1;omega),hkl] at h2
   cases h2
  have reFrame:∀ (m':Mm) (v:Value),Le m m'→Ey m' (xs i) v→∀ t,(∀ (k:Nat) (ok:Oper),ops[k]?=some ok→(listed.setIfInBounds i true).getD k true=false→ok.dst≠some t)→Ey m' (Fs ops.size t) ((a.put o.dst v).tmps.getD t undef):=fun m' v hle hv t ht=>by
   rw [IH inv.size hd0]
   split
   ·rename_i hdst
    rw [out i o t ho hdst]
    exact hv
   ·rename_i hdst
    refine (inv.frame t fun k ok hok hkl=>?_).le hle
    by_cases hki:k=i
    ·subst hki
     rw [ho] at hok
     cases hok
     exact hdst
    ·exact ht k ok hok (by rw [getSet k hki];exact hkl)
  obtain ⟨hF,hcase⟩:=hs i o ho
  unfold wpOp
  simp only [ho]
  rcases hcase with ⟨hw,hx,his⟩|⟨hw,hok⟩
  ·rw [if_neg (by rw [hw.is (m:=m) (tmps:=a.tmps) hlook];simp)]
   exact hK _ m ⟨by rw [getSet s (fun h=>his h.symm)];exact inv.H,inv.cx,inv.tot,reFrame m undef (Le.refl m) (by rw [hx];exact ⟨[],rfl,.nil_⟩),by rw [DB];exact inv.size,by rw [Cg];exact inv.defers,inv.below,inv.base,inv.S,inv.T,by simp [inv.ls]⟩
  ·rw [if_pos (hw.is (m:=m) (tmps:=a.tmps) hlook)]
   have go:∀ (H1 H2:List Ob),m.H=H1→(H2=if (listed.setIfInBounds i true).getD s true=true then H' else H)→TOk P G o (Fs i) H1 (xs i) H2→(o.wp P a m.w K Q):=fun H1 H2 e1 e2 ht=>by
    refine ht b0 m a e1 inv.cx inv.tot (hG _ inv.below) (lT inv.base inv.below.size) (fun t ht=>hlook t (Hr ht)) _ _ fun v m' hH hx ht' hle hb hS hv=>?_
    exact hK _ m' ⟨by rw [hH,e2],hx,ht',reFrame m' v hle hv,by rw [DB];exact inv.size,by rw [Cg];exact inv.defers,inv.below.trans hb,inv.base,fun b hb'=>(hS b hb').elim (inv.S b) .inr,hle.T.trans inv.T,by simp [inv.ls]⟩
   refine .inl ?_
   rcases hok with ⟨his,h1,h2⟩|⟨his,h1⟩
   ·by_cases hl:listed.getD s true=true
    ·exact go H' H' (by rw [inv.H,if_pos hl]) (by rw [getSet s (fun h=>his h.symm),if_pos hl]) h2
    ·exact go H H (by rw [inv.H,if_neg hl]) (by rw [getSet s (fun h=>his h.symm),if_neg hl]) h1
   ·subst his
    exact go H H' (by rw [inv.H,hun];simp) (by rw [getSame];simp) h1
 intro f
 induction f with
 | zero =>
  intro listed a m inv hc
  have hr:Region.ready md ops listed=[]:=by
   cases hr:Region.ready md ops listed with
   | nil=>rfl
   | cons i r =>
    have h1:=(mem_ready.1 (show i∈Region.ready md ops listed by rw [hr];simp)).1
    have:=Fz h1
    omega
  exact ⟨hr,fin listed a m inv hr⟩
 | succ f ih =>
  intro listed a m inv hc
  refine ⟨fun hr=>fin listed a m inv hr,fun i hi=>next listed i a m inv hi _ fun a' m' inv'=>ih _ a' m' inv' ?_⟩
  have:=Fz (mem_ready.1 hi).1
  omega
end
section
variable {P:Program} {G:World→Prop} {N:Nat} {F:Frm} {H:List Ob} {Q:Sg}
theorem AuB (s:Nat) (H':List Ob) (hm:P.follows .mixedOrders=true) (hB:(Mk N l && OO .any (l.take (s+1)).toArray && Ly .any l.toArray (s+1))=true)
  (h:Ch2 P G (l.take (s+1)).toArray (l.take s) F H H' fun F'=>∃ o x,l[s]?=some o∧o.dst=none∧o.guard=none∧TOk P G o F' H x H'∧Ti P G l.toArray (l.drop (s+1)) F' H' (Q .normal)):CW P G N (.region id l.toArray true) F H Q:=fun b0 w0 S0 a m hG hH hs=>by
 subst hH
 simp only [aj] at hB
 obtain ⟨⟨hd,hC⟩,hp⟩:=hB
 have hd1:Mk N (l.take (s+1))=true:=List.all_eq_true.2 fun o ho=>List.all_eq_true.1 hd o (eh ho)
 have hd2:Mk N (l.drop (s+1))=true:=List.all_eq_true.2 fun o ho=>List.all_eq_true.1 hd o (jv ho)
 have hn:s+1<l.length:=by
  have:=hp
  simp only [Ly,aj,decide_eq_true_eq,jy] at this
  exact this.1.1.1.1
 have hsz:(l.take (s+1)).toArray.size=s+1:=by simp;omega
 refine FX (s+1) hm hp ?_
 obtain ⟨Fs,xs,h1,⟨o,x,ho,hdst,hgd,hT,hTi⟩,h4⟩:=h.seq
 have hls:(l.take s).length=s:=by simp;omega
 rw [hls] at hT hTi
 have hs':=hs.drew
 let Fs':Nat→Frm:=fun i=>if i≤s then Fs i else Fs s
 let xs':Nat→X:=fun i=>if i<s then xs i else x
 have hget:∀ i o',(l.take (s+1)).toArray[i]?=some o'→(i<s∧(l.take s)[i]?=some o')∨(i=s∧o'=o):=fun i o' hi=>by
  rw [lk] at hi
  have hlt:=(gS.1 hi).1
  rw [kj (by simpa using au hlt (by simp;omega))] at hi
  rcases bf i s with h|h
  ·exact .inl ⟨h,by rw [kj h];exact hi⟩
  ·obtain rfl:i=s:=by simp at hlt;omega
   rw [ho] at hi
   cases hi
   exact .inr ⟨rfl,rfl⟩
 refine AhJ (G:=G) (w0:=w0) (S0:=S0) (b0:=b0) hG hC (N:=N) (by simpa using hd1) (Fs:=Fs') (xs:=xs') (H:=m.H) (H':=H') (s:=s) (by rw [hsz];omega) (fun i o' hi=>?_) (fun a' m' hH' hst=>?_) (s+1) (Array.replicate (s+1) false) a { m with w:=m.w.drew } ?_ (by simp [Abs])
 ·rcases hget i o' hi with ⟨hlt,hg⟩|⟨rfl,rfl⟩
  ·obtain ⟨h5,h6⟩:=h4 i o' hg
   have e1:Fs' (i+1)=Fs (i+1):=if_pos (by omega)
   have e2:Fs' i=Fs i:=if_pos (by omega)
   have e3:xs' i=xs i:=if_pos hlt
   rw [e1,e2,e3]
   refine ⟨h5,?_⟩
   rcases h6 with ⟨h7,h8⟩|⟨h7,h8,h9⟩
   ·exact .inl ⟨h7,h8,by omega⟩
   ·exact .inr ⟨h7,.inl ⟨by omega,h8.tok0,h9.tok0⟩⟩
  ·have e1:Fs' (i+1)=Fs i:=if_neg (by omega)
   have e2:Fs' i=Fs i:=if_pos (aa _)
   have e3:xs' i=x:=if_neg (by omega)
   rw [e1,e2,e3,hdst]
   exact ⟨rfl,.inr ⟨by unfold Cu;rw [hgd],.inr ⟨rfl,hT⟩⟩⟩
 ·rw [hsz] at hst
  have e1:Fs' (s+1)=Fs s:=if_neg (by omega)
  rw [e1] at hst
  rw [←hH'] at hTi
  exact XT hG (l.drop (s+1)) (Fs s) a' m' (Q .normal) hd2 hst hTi fun F'' a'' m'' k1 k2=>⟨F'',m'',rfl,k1,k2⟩
 ·refine ⟨?_,hs'.cx,hs'.tot,fun t ht=>?_,hs'.size,hs'.defers,hs'.below,hs'.base,hs'.S,hs'.T,by simp;omega⟩
  ·simp [Array.getD]
  ·rw [hsz]
   have e1:Fs' (s+1) t=F t:=by
    have hno:∀ (i:Nat) (o':Oper),(l.take s)[i]?=some o'→o'.dst≠some t:=fun i o' hi=>by
     have hlt:=(gS.1 hi).1
     have hlt':i<s:=by simp at hlt;omega
     refine ht i o' ?_ (by simp [Array.getD];omega)
     rw [lk,kj (by omega)]
     rwa [kj hlt'] at hi
    have:∀ k,k≤s→Fs k t=F t:=fun k hk=>by
     induction k with
     | zero=>rw [h1]
     | succ k ih =>
      have hk2:(l.take s)[k]?=some ((l.take s)[k]'(by simp;omega)):=gE _
      rw [(h4 k _ hk2).1,EH,if_neg (hno k _ hk2)]
      exact ih (by omega)
    show (if s+1≤s then Fs (s+1) else Fs s) t=F t
    rw [if_neg (by omega)]
    exact this s (aa _)
   rw [e1]
   exact hs'.frame t
theorem Akm (s bid:Nat) (ty:TypeId) (cs':List C) (hm:P.follows .mixedOrders=true) (hB:(Mk N l && OO .any (l.take (s+1)).toArray && Ly .any l.toArray (s+1))=true)
  (h:Ch2 P G (l.take (s+1)).toArray (l.take s) F H (H.set bid (.box ty cs')) fun F'=>∃ o x,l[s]?=some o∧o.dst=none∧o.guard=none∧TOk P G o F' H x (H.set bid (.box ty cs'))∧Ti P G l.toArray (l.drop (s+1)) F' (H.set bid (.box ty cs')) (Q .normal)):CW P G N (.region id l.toArray true) F H Q:=AuB s _ hm hB h
theorem Wa {G:World→Prop} {F:Frm} {H:List Ob} {x:Operand} {c:C} (ho:o.op=.store t x y) (hx:F.ev x=.one (.ref id off kk)) (hH:H[id]?=some ob) (hk:ob.k=some kk) (hy:F.ev y=.one c) (hty:TyK P t b 1) (hoff:off<ob.cs.length) (h2:H.set id (ob.setC (ob.cs.set off c))=H2) :
  TOk P G o F H .any H2:=h2 ▸ Hu ho hx hH hk hy hty hoff
theorem AqO {l2:List Oper} {ops:Array Oper} {x:X} {F:Frm} {H:List Ob} {K:Frm→List Ob→Prop} (ho:l[s]?=some o) (hd:o.dst=none) (hg:o.guard=none) (ht:TOk P G o F H x H') (hk:Ti P G ops l2 F H' K):∃ o x,l[s]?=some o∧o.dst=none∧o.guard=none∧TOk P G o F H x H'∧Ti P G ops l2 F H' K:=⟨o,x,ho,hd,hg,ht,hk⟩
end
theorem Wb {α:Type} {s:Nat}:∀ (ps:List (Nat × List α)) (pre rest:List α) (k:Nat),ps.map (·.1)=List.range' k ps.length→(∀ p∈ps,p.2.length=s)→pre.length=k*s→rest.length=ps.length*s →
  Fu (fun i=>some (i*s,s)) (pre++rest) ps=some (pre++(ps.map (·.2)).flatten)
 | [],pre,rest,k,_,_,_,hr=>by
  have:rest=[]:=bj (by simpa using hr)
  subst this
  simp [Fu]
 | (i,vs)::ps,pre,rest,k,hi,hs,hp,hr=>by
  simp only [br,cq,List.range'_succ,List.cons.injEq] at hi
  obtain ⟨rfl,hi⟩:=hi
  have hv:vs.length=s:=hs (i,vs) (by simp)
  have hrl:rest.length=s+ps.length*s:=by rw [hr,cq,bo];omega
  unfold Fu
  simp only []
  rw [show Nat.beq vs.length s=true by rw [hv];exact en s,show Nat.ble (i*s+vs.length) (pre++rest).length=true from Nat.ble_eq ▸ (by rw [aq];omega)]
  simp only []
  have e1:(pre++rest).take (i*s)=pre:=by rw [ki (by omega),am (by omega)]
  have e2:(pre++rest).drop (i*s+vs.length)=rest.drop s:=by
   rw [List.drop_append,fu (by omega),ea]
   congr 1
   omega
  rw [e1,e2,Wb ps (pre++vs) (rest.drop s) (i+1) hi (fun p hp'=>hs p (by simp [hp'])) (by rw [aq,bo];omega) (by rw [iz];omega)]
  simp
section
variable {P:Program} {G:World→Prop} {o:Oper} {F:Frm} {H:List Ob}
theorem Qx {len:Nat} {parts:Array (Nat × Operand)} {z:Value} {ps:List (Nat × List C)} {cs:List C} (ho:o.op=.buildSlice t len parts) (hp:Lj F parts.toList=some ps) (ht:TyS P t e s) (hz:TyZ P e z s by_) (hln:len≤10000) (hs:s≤1000) (h0:0<s) (hi:ps.map (·.1)=List.range' 0 len) (hls:(ps.all fun p=>Nat.beq p.2.length s)=true) (hcs:(ps.map (·.2)).flatten=cs) :
  AU P G o F H (.one (.own H.length len)) [.row e s len cs]:=by
 subst hcs
 have hpl:ps.length=len:=by have:=congrArg List.length hi;simpa using this
 have hall:∀ p∈ps,p.2.length=s:=fun p hp'=>di (List.all_eq_true.1 hls p hp')
 have hm:len*s≤10000*1000:=du hln hs
 have hl:(DW (madeCells z.cells (len*s)).toList).length=len*s:=by simp [DW,madeCells]
 refine EM (ps:=ps) ho ht hz (by omega) (by omega) hp ?_ ?_ h0
 ·have:=Wb (s:=s) ps [] (DW (madeCells z.cells (len*s)).toList) 0 (by rw [hpl];exact hi) hall (by simp) (by rw [hl,hpl])
  rwa [ea,ea] at this
 ·have e:(ps.map (·.2)).map List.length=List.replicate len s:=by
   rw [bw,←hpl]
   refine gd (by simp) fun k h1 h2=>?_
   simp only [ko,List.getElem_replicate]
   exact hall _ (ff _)
  rw [List.length_flatten,e]
  simp
end
abbrev vi (z:Int):X:=.one (.d (.val (.int .i64 z)))
abbrev vr (i:Nat):X:=.one (.ref i 0 none)
abbrev vo (i n:Nat):X:=.one (.own i n)
abbrev vd (d:D):X:=.one (.d d)
theorem mB {F:Frm} {n:Nat}:∀ {l:List (Nat × X)},l.map (fun p=>F p.1)=l.map Prod.snd→l.all (fun p=>p.2.belB n)=true→VZ F n l
 | [],_,_=>trivial
 | (s,x)::l,h,hb=>by
  simp only [br,List.cons.injEq] at h
  simp only [ii,aj] at hb
  exact ⟨h.1,hb.1,mB h.2 hb.2⟩
section
variable {P:Program} {G:World→Prop} {o:Oper} {F:Frm} {H:List Ob}
section
variable {t t':TypeId} {x y:Operand} {k:IntKind} {p q:Int}
theorem eqT (ho:o.op=.binOp .eql t x y t') (hx:F.ev x=.one (.d (.val (.int k p)))) (hy:F.ev y=.one (.d (.val (.int k q)))) (h:p=q):AU P G o F H (.one (.d (.val (.bool true)))) []:=AdJ ho hx hy (Qu h)
end
section
variable {ops:Array Oper} {K:Frm→List Ob→Prop} {l:List Oper} {d:Tmp} {x:Operand} {c:C}
theorem AuC (hg:o.guard=none) (hd:o.dst=some d) (ho:o.op=.move x) (hx:F.ev x=.one c) (k:Ch P G ops l (F.put (some d) (.one c)) H K):Ch P G ops (o::l) F H K:=Auw hg hd (Qt ho hx) k
theorem AuD (hg:o.guard=none) (hd:o.dst=some d) (ho:o.op=.move x) (hx:F.ev x=.one c) (k:Ti P G ops l (F.put (some d) (.one c)) H K):Ti P G ops (o::l) F H K:=Auv hg hd (Qt ho hx) k
theorem AuE (hg:o.guard=none) (hd:o.dst=some d) (ho:o.op=.assign x) (hx:F.ev x=.one c) (k:Ch P G ops l (F.put (some d) (.one c)) H K):Ch P G ops (o::l) F H K:=Auw hg hd (ZE ho hx) k
theorem AuF (hg:o.guard=none) (hd:o.dst=some d) (ho:o.op=.assign x) (hx:F.ev x=.one c) (k:Ti P G ops l (F.put (some d) (.one c)) H K):Ti P G ops (o::l) F H K:=Auv hg hd (ZE ho hx) k
end
section
variable {N:Nat} {ops:Array Oper} {Q:Sg} {K:Frm→List Ob→Prop} {l:List Oper} {d:Tmp} {c:C} {xx:X}
theorem Tx (id:Nat) (h:Ti P G l.toArray l F H (Q .normal)) (hd:Mk N l=true:=by kernel_rfl):CW P G N (.region id l.toArray false) F H Q:=Ams hd h
theorem Je (h:K F H):Ti P G ops [] F H K:=h
theorem Ke (h:K F H):Ch P G ops [] F H K:=h
theorem Jo (h:AU P G o F H xx []) (k:Ti P G ops l (F.put (some d) xx) H K) (hg:o.guard=none:=by with_unfolding_all exact rfl) (hd:o.dst=some d:=by with_unfolding_all exact rfl):Ti P G ops (o::l) F H K:=Auv hg hd h k
theorem Ko (h:AU P G o F H xx []) (k:Ch P G ops l (F.put (some d) xx) H K) (hg:o.guard=none:=by with_unfolding_all exact rfl) (hd:o.dst=some d:=by with_unfolding_all exact rfl):Ch P G ops (o::l) F H K:=Auw hg hd h k
theorem Jn (h:AU P G o F H xx [ob]) (k:Ti P G ops l (F.put (some d) xx) (H++[ob]) K) (hg:o.guard=none:=by with_unfolding_all exact rfl) (hd:o.dst=some d:=by with_unfolding_all exact rfl):Ti P G ops (o::l) F H K:=ti_n hg hd h k
theorem Kn (h:AU P G o F H xx [ob]) (k:Ch P G ops l (F.put (some d) xx) (H++[ob]) K) (hg:o.guard=none:=by with_unfolding_all exact rfl) (hd:o.dst=some d:=by with_unfolding_all exact rfl):Ch P G ops (o::l) F H K:=ch_n hg hd h k
theorem Js (h:TOk P G o F H xx H2) (k:Ti P G ops l F H2 K) (hg:o.guard=none:=by with_unfolding_all exact rfl) (hd:o.dst=none:=by with_unfolding_all exact rfl):Ti P G ops (o::l) F H K:=ti_s hg hd h k
theorem Jt (h:TOk P G o F H xx H2) (k:Ti P G ops l (F.put (some d) xx) H2 K) (hg:o.guard=none:=by with_unfolding_all exact rfl) (hd:o.dst=some d:=by with_unfolding_all exact rfl):Ti P G ops (o::l) F H K:=ti_t hg hd h k
section
variable {x:Operand}
theorem Jm (k:Ti P G ops l (F.put (some d) (.one c)) H K) (hg:o.guard=none:=by with_unfolding_all exact rfl) (hd:o.dst=some d:=by with_unfolding_all exact rfl) (ho:o.op=.move x:=by with_unfolding_all exact rfl) (hx:F.ev x=.one c:=by with_unfolding_all exact rfl):Ti P G ops (o::l) F H K:=AuD hg hd ho hx k
theorem Ja (k:Ti P G ops l (F.put (some d) (.one c)) H K) (hg:o.guard=none:=by with_unfolding_all exact rfl) (hd:o.dst=some d:=by with_unfolding_all exact rfl) (ho:o.op=.assign x:=by with_unfolding_all exact rfl) (hx:F.ev x=.one c:=by with_unfolding_all exact rfl):Ti P G ops (o::l) F H K:=AuF hg hd ho hx k
theorem Km (k:Ch P G ops l (F.put (some d) (.one c)) H K) (hg:o.guard=none:=by with_unfolding_all exact rfl) (hd:o.dst=some d:=by with_unfolding_all exact rfl) (ho:o.op=.move x:=by with_unfolding_all exact rfl) (hx:F.ev x=.one c:=by with_unfolding_all exact rfl):Ch P G ops (o::l) F H K:=AuC hg hd ho hx k
theorem Ka (k:Ch P G ops l (F.put (some d) (.one c)) H K) (hg:o.guard=none:=by with_unfolding_all exact rfl) (hd:o.dst=some d:=by with_unfolding_all exact rfl) (ho:o.op=.assign x:=by with_unfolding_all exact rfl) (hx:F.ev x=.one c:=by with_unfolding_all exact rfl):Ch P G ops (o::l) F H K:=AuE hg hd ho hx k
end
section
variable {j:Nat} {want bb:Bool} {oj:Oper} {t:Tmp}
theorem Jd (k:Ti P G ops l (F.put (some d) (.tup [])) H K) (hw:Cu ops o F false:=by with_unfolding_all first|exact AqK rfl rfl rfl rfl rfl|exact wf_dead rfl rfl rfl rfl) (hd:o.dst=some d:=by with_unfolding_all exact rfl):Ti P G ops (o::l) F H K:=AmB hw hd k
theorem Jy (h:AU P G o F H xx []) (k:Ti P G ops l (F.put (some d) xx) H K) (hg:o.guard=some (j,want):=by with_unfolding_all exact rfl) (hd:o.dst=some d:=by with_unfolding_all exact rfl) (hj:ops[j]?=some oj:=by with_unfolding_all exact rfl) (ht:oj.dst=some t:=by with_unfolding_all exact rfl) (hF:F t=.one (.d (.val (.bool bb))):=by with_unfolding_all exact rfl) (hb:(bb == want)=true:=by with_unfolding_all exact rfl):Ti P G ops (o::l) F H K:=Aux hg hd hj ht hF hb h k
theorem Kd (k:Ch P G ops l (F.put (some d) (.tup [])) H K) (hw:Cu ops o F false:=by with_unfolding_all first|exact AqK rfl rfl rfl rfl rfl|exact wf_dead rfl rfl rfl rfl) (hd:o.dst=some d:=by with_unfolding_all exact rfl):Ch P G ops (o::l) F H K:=AmC hw hd k
theorem Ky (h:AU P G o F H xx []) (k:Ch P G ops l (F.put (some d) xx) H K) (hg:o.guard=some (j,want):=by with_unfolding_all exact rfl) (hd:o.dst=some d:=by with_unfolding_all exact rfl) (hj:ops[j]?=some oj:=by with_unfolding_all exact rfl) (ht:oj.dst=some t:=by with_unfolding_all exact rfl) (hF:F t=.one (.d (.val (.bool bb))):=by with_unfolding_all exact rfl) (hb:(bb == want)=true:=by with_unfolding_all exact rfl):Ch P G ops (o::l) F H K:=Auy hg hd hj ht hF hb h k
end
theorem qa {x y:Code} (h:CW P G N x F H (TE (fun F' H'=>CW P G N y F' H' Q) Q)):CW P G N (.seq x y) F H Q:=Aqr h
theorem qb {K:Frm→List Ob→Prop} (h:K F H):TE K Q .normal F H:=h
theorem qc (h:Q .normal F H):CW P G N .skip F H Q:=Amo h
theorem qd (h:Q .ret F H):CW P G N .ret F H Q:=Aqq h
theorem qe (h:Q (.exit id) F H):CW P G N (.exit id) F H Q:=Amp h
theorem qf {c:Code} (h:CW P G N c F H (Ot id Q)):CW P G N (.block id c) F H Q:=Ahu h
theorem qg {K:Frm→List Ob→Prop} (h:Q .ret F H):TE K Q .ret F H:=h
theorem qh {K:Frm→List Ob→Prop} (h:Q (.exit id) F H):TE K Q (.exit id) F H:=h
theorem qi (h:Q .normal F H):Ot i Q .normal F H:=h
theorem qj (h:Q .ret F H):Ot i Q .ret F H:=h
theorem qk (h:Q .normal F H):Ot i Q (.exit i) F H:=AhB h
theorem qm {x y:Code} {c:Operand} (hc:F.ev c=.one (.d (.val (.bool true)))) (h:CW P G N x F H Q):CW P G N (.cond c x y) F H Q:=Amr hc h
theorem qn {x y:Code} {c:Operand} (hc:F.ev c=.one (.d (.val (.bool false)))) (h:CW P G N y F H Q):CW P G N (.cond c x y) F H Q:=Ahv hc h
end
section
variable {t:TypeId} {x:Operand} {p p' c:C} {cs cs':List C} {f q ft k:Nat} {b:Bool}
theorem xLd (hk:TyK P t false k) (ho:o.op=.load t x:=by with_unfolding_all exact rfl) (hx:F.ev x=.one p:=by with_unfolding_all exact rfl) (ha:At H p cs:=by with_unfolding_all first|exact .box rfl|exact .ptr|exact .row rfl) (hc:cs[0]?=some c:=by with_unfolding_all exact rfl):AU P G o F H (.one c) []:=Pf ho hx ha hc hk
theorem xLa (hk:TyK P t true k) (ho:o.op=.load t x:=by with_unfolding_all exact rfl) (hx:F.ev x=.one p:=by with_unfolding_all exact rfl) (ha:At H p cs:=by with_unfolding_all first|exact .box rfl|exact .ptr|exact .row rfl) (hc:cs.take k=cs':=by with_unfolding_all exact rfl) (hlen:cs'.length=k:=by with_unfolding_all exact rfl):AU P G o F H (.agg cs') []:=Pg ho hx ha hk hc hlen
theorem xFa (hf:TyF P t f q ft) (hk:TyK P ft b (k+1)) (ho:o.op=.fieldAddr t x f:=by with_unfolding_all exact rfl) (hx:F.ev x=.one p:=by with_unfolding_all exact rfl) (ha:At H p cs:=by with_unfolding_all first|exact .box rfl|exact .ptr|exact .row rfl) (hp:Off q p p':=by with_unfolding_all first|exact .ref|exact .ptr):AU P G o F H (.one p') []:=VJ ho hx ha hf hk hp
theorem xLn {e:Nat} (ht:TyS P t e k) (ho:o.op=.call { callee:=.builtin .len,args:=#[x],argTypes:=#[t] }:=by with_unfolding_all exact rfl) (hx:F.ev x=.one c:=by with_unfolding_all exact rfl) (hn:Len H c n:=by with_unfolding_all first|exact .own rfl|exact .row|exact .nil|exact .emp):AU P G o F H (.one (.d (.val (.int .i64 n)))) []:=AqB ho hx hn ht
def AuG (b:Bool) (x y:X):X:=match b with
 | true=>x
 | false=>y
theorem xPk {z:Operand} {v:C} (ho:o.op=.pick z x y:=by with_unfolding_all exact rfl) (hc:F.ev z=.one (.d (.val (.bool b))):=by with_unfolding_all exact rfl) (hx:AuG b (F.ev x) (F.ev y)=.one v:=by with_unfolding_all exact rfl):AU P G o F H (.one v) []:=by
 cases b
 ·exact AhD ho hc hx
 ·exact AhC ho hc hx
theorem xEx {l:List A} {d:D} (ho:o.op=.extract x i:=by with_unfolding_all exact rfl) (hx:F.ev x=.tup l:=by with_unfolding_all exact rfl) (hy:l[i]?=some (.one d):=by with_unfolding_all exact rfl):AU P G o F H (.one (.d d)) []:=AqL ho hx hy
theorem xBo {t:TypeId} (ho:o.op=.box t x:=by with_unfolding_all exact rfl) (hx:EY (F.ev x)=some cs:=by with_unfolding_all exact rfl):AU P G o F H (.one (.ref H.length 0 none)) [.box t cs]:=AqC ho hx
theorem xMi {t:TypeId} {u:Value} {d:TypeDesc} (hu:P.underlying t=some d) (ho:o.op=.makeInterface t x:=by with_unfolding_all exact rfl) (hx:F.ev x=.one (.d (.val u)):=by with_unfolding_all exact rfl) (hd:(match d with|.interface _=>false|_=>true)=true:=by with_unfolding_all exact rfl):AU P G o F H (.one (.d (.val (.iface t u)))) []:=OQ ho hx hu hd
end
section
variable {t t':TypeId} {x y:Operand} {k:IntKind} {p q:Int} {b:Bool}
theorem xEq (ho:o.op=.binOp .eql t x y t':=by with_unfolding_all exact rfl) (hx:F.ev x=.one (.d (.val (.int k p))):=by with_unfolding_all exact rfl) (hy:F.ev y=.one (.d (.val (.int k q))):=by with_unfolding_all exact rfl) (h:(p == q)=b:=by first|exact Qu (by first|rfl|omega)|exact VY (by omega)):AU P G o F H (.one (.d (.val (.bool b)))) []:=AdJ ho hx hy h
theorem xNe (ho:o.op=.binOp .neq t x y t':=by with_unfolding_all exact rfl) (hx:F.ev x=.one (.d (.val (.int k p))):=by with_unfolding_all exact rfl) (hy:F.ev y=.one (.d (.val (.int k q))):=by with_unfolding_all exact rfl) (h:(p != q)=b:=by first|exact OS (by first|rfl|omega)|exact GM (by omega)):AU P G o F H (.one (.d (.val (.bool b)))) []:=Yc ho hx hy h
theorem xLt (ho:o.op=.binOp .lss t x y t':=by with_unfolding_all exact rfl) (hx:F.ev x=.one (.d (.val (.int k p))):=by with_unfolding_all exact rfl) (hy:F.ev y=.one (.d (.val (.int k q))):=by with_unfolding_all exact rfl) (h:decide (p<q)=b:=by first|exact AhE (by omega)|exact AhF (by omega)):AU P G o F H (.one (.d (.val (.bool b)))) []:=AmD ho hx hy h
theorem xGt (ho:o.op=.binOp .gtr t x y t':=by with_unfolding_all exact rfl) (hx:F.ev x=.one (.d (.val (.int k p))):=by with_unfolding_all exact rfl) (hy:F.ev y=.one (.d (.val (.int k q))):=by with_unfolding_all exact rfl) (h:decide (q<p)=b:=by first|exact AhE (by omega)|exact AhF (by omega)):AU P G o F H (.one (.d (.val (.bool b)))) []:=TM ho hx hy h
theorem xLe (ho:o.op=.binOp .leq t x y t':=by with_unfolding_all exact rfl) (hx:F.ev x=.one (.d (.val (.int k p))):=by with_unfolding_all exact rfl) (hy:F.ev y=.one (.d (.val (.int k q))):=by with_unfolding_all exact rfl) (h:decide (p≤q)=b:=by first|exact AhE (by first|rfl|omega)|exact AhF (by omega)|exact rfl):AU P G o F H (.one (.d (.val (.bool b)))) []:=AmE ho hx hy h
theorem xGe (ho:o.op=.binOp .geq t x y t':=by with_unfolding_all exact rfl) (hx:F.ev x=.one (.d (.val (.int k p))):=by with_unfolding_all exact rfl) (hy:F.ev y=.one (.d (.val (.int k q))):=by with_unfolding_all exact rfl) (h:decide (q≤p)=b:=by first|exact AhE (by first|rfl|omega)|exact AhF (by omega)|exact rfl):AU P G o F H (.one (.d (.val (.bool b)))) []:=AmF ho hx hy h
theorem xAd (ho:o.op=.binOp .add t x y t':=by with_unfolding_all exact rfl) (hx:F.ev x=.one (.d (.val (.int .i64 p))):=by with_unfolding_all exact rfl) (hy:F.ev y=.one (.d (.val (.int .i64 q))):=by with_unfolding_all exact rfl) (hb : -9223372036854775808≤p+q∧p+q≤9223372036854775807:=by omega):AU P G o F H (.one (.d (.val (.int .i64 (p+q))))) []:=Ahw ho hx hy hb
theorem xSb (ho:o.op=.binOp .sub t x y t':=by with_unfolding_all exact rfl) (hx:F.ev x=.one (.d (.val (.int .i64 p))):=by with_unfolding_all exact rfl) (hy:F.ev y=.one (.d (.val (.int .i64 q))):=by with_unfolding_all exact rfl) (hb : -9223372036854775808≤p - q∧p - q≤9223372036854775807:=by omega):AU P G o F H (.one (.d (.val (.int .i64 (p - q))))) []:=Ahx ho hx hy hb
end
section
variable {t e ty:TypeId} {x y:Operand} {tg:Bool} {id s n i k:Nat} {kd:IntKind} {z:Int} {b:Bool}
theorem xIr {ds es:List D} (ht:TyS P t e s) (hes:(ds.drop (i*s)).take s=es) (ho:o.op=.indexAddr t x y:=by with_unfolding_all exact rfl) (hx:F.ev x=.one (.d (.row tg s n ds)):=by with_unfolding_all exact rfl) (hy:F.ev y=.one (.d (.val (.int kd z))):=by with_unfolding_all exact rfl) (hz:z=(i:Int):=by first|with_unfolding_all exact rfl|omega) (hi:i<n:=by omega) (hs:0<s:=by decide):AU P G o F H (.one (.d (.ptr tg es))) []:=Sp ho hx hy hz ht hi hs hes
theorem xIo {cs:List C} (ht:TyS P t e s) (ho:o.op=.indexAddr t x y:=by with_unfolding_all exact rfl) (hx:F.ev x=.one (.own id n):=by with_unfolding_all exact rfl) (hH:H[id]?=some (.row ty s n cs):=by with_unfolding_all exact rfl) (hy:F.ev y=.one (.d (.val (.int kd z))):=by with_unfolding_all exact rfl) (hz:z=(i:Int):=by with_unfolding_all exact rfl) (hi:i<n:=by omega) (hs:0<s:=by decide):AU P G o F H (.one (.ref id (i*s) (some n))) []:=FF ho hx hH hy hz ht hi hs
theorem xLi (hz:xs[i]?=some z) (hk:TyK P t false k) (ho:o.op=.load t x:=by with_unfolding_all exact rfl) (hx:F.ev x=.one (.ref id (i*1) (some n)):=by with_unfolding_all exact rfl) (hH:H[id]?=some (.row ty s n (cI xs)):=by with_unfolding_all exact rfl):AU P G o F H (.one (.d (.val (.int .i64 z)))) []:=AqM ho hx hH hz hk
theorem xS1 {c:C} (hty:TyK P t b 1) (ho:o.op=.store t x y:=by with_unfolding_all exact rfl) (hx:F.ev x=.one (.ref id off kk):=by with_unfolding_all exact rfl) (hH:H[id]?=some ob:=by with_unfolding_all exact rfl) (hk:ob.k=some kk:=by with_unfolding_all exact rfl) (hy:F.ev y=.one c:=by with_unfolding_all exact rfl) (hoff:off<ob.cs.length:=by with_unfolding_all exact bl rfl):TOk P G o F H .any (H.set id (ob.setC (ob.cs.set off c))):=Hu ho hx hH hk hy hty hoff
theorem xSk {cy:List C} (hty:TyK P t b k) (ho:o.op=.store t x y:=by with_unfolding_all exact rfl) (hx:F.ev x=.one (.ref id off kk):=by with_unfolding_all exact rfl) (hH:H[id]?=some ob:=by with_unfolding_all exact rfl) (hk:ob.k=some kk:=by with_unfolding_all exact rfl) (hy:EY (F.ev y)=some cy:=by with_unfolding_all exact rfl) (hlen:Nat.beq cy.length k=true:=by with_unfolding_all exact rfl) (hoff:off+cy.length≤ob.cs.length:=by with_unfolding_all exact bl rfl):TOk P G o F H .any (H.set id (ob.setC (ob.cs.take off++cy++ob.cs.drop (off+cy.length)))):=Qv ho hx hH hk hy hty hlen hoff
end
theorem xCl {fn : Func} {cd : Code} {xs : Array Operand} {ts : Array TypeId} {args res : List A} {x : X} (h1 : P.funcs[f]? = some fn) (h : CV P G f args res) (h2 : (fn.name == "runtime.NumGoroutine") = false := by kernel_rfl) (h3 : fn.body = some cd := by with_unfolding_all exact rfl) (ho : o.op = .call { callee := .value (.func f), args := xs, argTypes := ts } := by with_unfolding_all exact rfl) (ha : AP (fun x y => LA true H (F.ev x) y) xs.toList args := by with_unfolding_all first | ((repeat' first | exact BM rfl rfl | refine AX rfl rfl ?_ ?_ | refine FH rfl rfl ?_ | refine Dt rfl rfl ?_ | exact Bp rfl (fun h => by cases h) | exact FI rfl rfl | exact cexp_e rfl rfl | refine EI rfl rfl rfl ?_) <;> fail) | fail) (hx : Amt res = x := by with_unfolding_all exact rfl) : AU P G o F H x [] := Auz ⟨fn, cd, h1, h2, h3⟩ h ho ha hx
end
section
variable {P:Program} {G:World→Prop} {F:Frm} {H:List Ob} {ops:Array Oper} {l:List Oper} {K:Frm→List Ob→Prop} {d:Tmp} {xx:X} {ob:Ob} {op:Op} {ty_:TypeId} {ps_:String} {af_:Array Edge} {gg_:Option (Nat × Bool)} {dd:Option Tmp} {x:Operand} {c p p':C} {cs cs':List C} {H2:List Ob} {t:TypeId} {o:Oper} {f q ft k n e:Nat} {b:Bool}
theorem gO (h:AU P G ⟨some d,op,ty_,ps_,af_,none⟩ F H xx []) (k:Ti P G ops l (F.put (some d) xx) H K):Ti P G ops (⟨some d,op,ty_,ps_,af_,none⟩::l) F H K:=Jo h k rfl rfl
theorem gN (h:AU P G ⟨some d,op,ty_,ps_,af_,none⟩ F H xx [ob]) (k:Ti P G ops l (F.put (some d) xx) (H++[ob]) K):Ti P G ops (⟨some d,op,ty_,ps_,af_,none⟩::l) F H K:=Jn h k rfl rfl
theorem gZ (h:TOk P G ⟨none,op,ty_,ps_,af_,none⟩ F H xx H2) (k:Ti P G ops l F H2 K):Ti P G ops (⟨none,op,ty_,ps_,af_,none⟩::l) F H K:=Js h k rfl rfl
theorem gT (h:TOk P G ⟨some d,op,ty_,ps_,af_,none⟩ F H xx H2) (k:Ti P G ops l (F.put (some d) xx) H2 K):Ti P G ops (⟨some d,op,ty_,ps_,af_,none⟩::l) F H K:=Jt h k rfl rfl
theorem gP (h:AU P G ⟨some d,op,ty_,ps_,af_,none⟩ F H xx []) (k:Ch P G ops l (F.put (some d) xx) H K):Ch P G ops (⟨some d,op,ty_,ps_,af_,none⟩::l) F H K:=Ko h k rfl rfl
theorem gQ (h:AU P G ⟨some d,op,ty_,ps_,af_,none⟩ F H xx [ob]) (k:Ch P G ops l (F.put (some d) xx) (H++[ob]) K):Ch P G ops (⟨some d,op,ty_,ps_,af_,none⟩::l) F H K:=Kn h k rfl rfl
theorem xM (hx:F.ev x=.one c:=by with_unfolding_all exact rfl):AU P G ⟨dd,.move x,ty_,ps_,af_,gg_⟩ F H (.one c) []:=Qt rfl hx
theorem xA (hx:F.ev x=.one c:=by with_unfolding_all exact rfl):AU P G ⟨dd,.assign x,ty_,ps_,af_,gg_⟩ F H (.one c) []:=ZE rfl hx
theorem xF (ho:o.op=.fieldAddr t x f:=by with_unfolding_all exact rfl) (hf:TyF prog t f q ft:=by first|exact EZ|exact BI|exact DZ|exact Er|exact Ei|exact Hy|exact Gu|exact XZ|exact LH|exact Ej|exact Yb|exact Ph|exact VV|exact AdH|exact Gs|exact XY|exact Hz|exact TL|exact Abw|exact Nx|exact Qr|exact IJ|exact ZB|exact Qs|exact LI|exact Qm|exact Qp|exact AdI|exact Ya|exact Qq|exact AdF|exact AdG) (hk:TyK prog ft b (k+1):=by first|exact Al|exact Ab|exact Ax|exact Ae|exact Ao|exact BE|exact Cc|exact DY|exact Gr|exact DF|exact BZ|exact Cn|exact Bh|exact EB|exact Bs|exact FD|exact DE|exact Bw|exact FE|exact Ny|exact Ea) (hx:F.ev x=.one p:=by with_unfolding_all exact rfl) (ha:At H p cs:=by with_unfolding_all first|exact .box rfl|exact .ptr|exact .row rfl) (hp:Off q p p':=by with_unfolding_all first|exact .ref|exact .ptr):AU prog G o F H (.one p') []:=xFa hf hk ho hx ha hp
theorem xD (ho:o.op=.load t x:=by with_unfolding_all exact rfl) (hk:TyK prog t false k:=by first|exact Al|exact Ab|exact Ax|exact Ae|exact Ao|exact BE|exact Cc|exact DY|exact Gr|exact DF|exact BZ|exact Cn|exact Bh|exact EB|exact Bs|exact FD|exact DE|exact Bw|exact FE|exact Ny|exact Ea) (hx:F.ev x=.one p:=by with_unfolding_all exact rfl) (ha:At H p cs:=by with_unfolding_all first|exact .box rfl|exact .ptr|exact .row rfl) (hc:cs[0]?=some c:=by with_unfolding_all exact rfl):AU prog G o F H (.one c) []:=xLd hk ho hx ha hc
theorem xL (ho:o.op=.load t x:=by with_unfolding_all exact rfl) (hk:TyK prog t true k:=by first|exact Al|exact Ab|exact Ax|exact Ae|exact Ao|exact BE|exact Cc|exact DY|exact Gr|exact DF|exact BZ|exact Cn|exact Bh|exact EB|exact Bs|exact FD|exact DE|exact Bw|exact FE|exact Ny|exact Ea) (hx:F.ev x=.one p:=by with_unfolding_all exact rfl) (ha:At H p cs:=by with_unfolding_all first|exact .box rfl|exact .ptr|exact .row rfl) (hc:cs.take k=cs':=by with_unfolding_all exact rfl) (hlen:cs'.length=k:=by with_unfolding_all exact rfl):AU prog G o F H (.agg cs') []:=xLa hk ho hx ha hc hlen
theorem xN (ho:o.op=.call { callee:=.builtin .len,args:=#[x],argTypes:=#[t] }:=by with_unfolding_all exact rfl) (ht:TyS prog t e k:=by first|exact Aa|exact Af|exact Ah|exact Ap|exact AK|exact BG|exact Bi|exact BN|exact Fa|exact NF) (hx:F.ev x=.one c:=by with_unfolding_all exact rfl) (hn:Len H c n:=by with_unfolding_all first|exact .own rfl|exact .row|exact .nil|exact .emp):AU prog G o F H (.one (.d (.val (.int .i64 n)))) []:=xLn ht ho hx hn
end
end Go.Proofs.YtjlkgfeepocjfaaGreatDoor
