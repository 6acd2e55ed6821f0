/- What the proofs of this claim share, part 9. No conditions. -/
import Derived.Test.YtmdfjbpggbhgnaaGreatDoorXt8
import Derived.Test.YtmdfjbpggbhgnaaGreatDoorXt6
import Derived.Test.YtmdfjbpggbhgnaaGreatDoorXt3
import Derived.WideLaws
import Derived.Test.YtmdfjbpggbhgnaaGreatDoorRows
import Derived.Deep.RegionHeld3
import Derived.Laws.AppendOwnNone
import Derived.Laws.OwnMore
set_option maxRecDepth 100000
set_option maxHeartbeats 8000000
set_option linter.all false
open Go.Proofs.Tryz
namespace Go.Proofs.YtmdfjbpggbhgnaaGreatDoor
open Go.RowKit
variable {c:Code} {N b by_ dx dy fuel g i id j lo lo1 lo2 m m2 n off s:Nat} {v v0 v1 v2:Value} {F:Frm} {H H' H2:List Ob} {l:List Oper} {os xs:List Int} {E E' a e q z:Int} {t t' ty:TypeId} {y:Operand} {p:Prop} {w:World} {S:Du} {P:Program} {G:World→Prop} {f:FuncId} {bb want:Bool} {o oj:Oper} {d:Tmp} {ob:Ob} {fn:Func} {kk:Option Nat} {out:List Nat} {ps:List Prt} {vs:List Value} {tmps:Array Value}
def Wk (N:Nat) (F:Frm) (H:List Ob) (F':Frm) (H':List Ob):Prop :=
 ∀ (b0:Nat) (w0:World) (S0:SD) (a:Act) (m:Mm),m.H=H→St b0 N w0 S0 F a m→∃ m',m'.w=m.w∧m'.H=H'∧St b0 N w0 S0 F' a m'
section
variable {P:Program} {G:World→Prop} {N:Nat} {F F':Frm} {H H':List Ob} {Q:Te}
theorem Bi (h:Wk N F H F' H') (k:CW P G N c F' H' Q):CW P G N c F H Q:=fun b0 w0 S0 a m hG hH hs=>by
 obtain ⟨m',h1,h2,h3⟩:=h b0 w0 S0 a m hH hs
 rw [←h1]
 exact k b0 w0 S0 a m' hG h2 h3
def wkC (N:Nat) (K:Frm→List Ob→Prop):Frm→List Ob→Prop:=fun F H=>∃ F' H',Wk N F H F' H'∧K F' H'
theorem Aq (I:Nat→Frm→List Ob→Prop) {n0:Nat} (h0:I n0 F H) (round:∀ n F H,I n F H→CW P G N c F H (RQ (wkC N fun F' H'=>∃ n',n'<n∧I n' F' H') Q)):CW P G N (.loop c) F H Q:=fun b0 w0 S0 a m hG hH hs=>by
 refine AfC (fun n a w=>∃ F' m',m'.w=w∧St b0 N w0 S0 F' a m'∧I n F' m'.H) (n0:=n0) ⟨F,m,rfl,hs,by rw [hH];exact h0⟩ fun n a w ⟨F',m',h1,h2,h3⟩=>?_
 subst h1
 refine wp_mono (round n F' m'.H h3 b0 w0 S0 a m' hG rfl h2) fun e a w ⟨F2,m2,k1,k2,k3⟩=>?_
 cases e with
 | normal =>
  obtain ⟨F3,H3,k4,n',hlt,hI⟩:=k3
  obtain ⟨m3,k5,k6,k7⟩:=k4 b0 w0 S0 a m2 rfl k2
  subst k6
  exact ⟨n',hlt,F3,m3,k5.trans k1,k7,hI⟩
 | exit id=>exact ⟨F2,m2,k1,k2,k3⟩
 | goto l=>exact ⟨F2,m2,k1,k2,k3⟩
 | ret=>exact ⟨F2,m2,k1,k2,k3⟩
 | panic ch=>exact ⟨F2,m2,k1,k2,k3⟩
 | outgrown=>exact ⟨F2,m2,k1,k2,k3⟩
end
def ofL:List (Nat × X)→Frm
 | []=>fun _=>.any
 | (s,x)::l=>fun t=>match Nat.beq t s with|true=>x|false=>ofL l t
def C.bel (n:Nat):C→Prop
 | .d _=>True
 | .own id _=>id<n
 | .ref id _ _=>id<n
 | .clo _ caps=>∀ p∈caps,p.1<n
 | .emp=>True
def X.bel (n:Nat):X→Prop
 | .one c=>c.bel n
 | .agg cs=>∀ c∈cs,c.bel n
 | .tup _=>True
 | .any=>True
 | .pin l=>∀ p∈l,p.1<n
 | .tupC _=>False
def Xs (F:Frm) (n:Nat):List (Nat × X)→Prop
 | []=>True
 | (s,x)::l=>F s=x∧x.bel n∧Xs F n l
theorem TJ {F:Frm} {n:Nat}:∀ {l:List (Nat × X)},Xs F n l→∀ t,(ofL l t=F t∧(ofL l t).bel n)∨ofL l t=.any
 | [],_,t=>.inr rfl
 | (s,x)::l,h,t=>by
  obtain ⟨h1,h2,h3⟩:=h
  simp only [ofL]
  cases hb:Nat.beq t s with
  | true =>
   have:=dz hb
   subst this
   exact .inl ⟨h1.symm,h2⟩
  | false=>exact TJ h3 t
theorem Tz.cut {m:Mm} {k:Option Nat} {E:Nat→Option Et} (h:Tz m id off k v) (hb:id<n) (hE:∀ i,i<n→E i=m.E i):Tz { m with H:=m.H.take n,E:=E } id off k v:=by
 obtain ⟨h1,ob,h2,h3,h4⟩:=h
 refine ⟨h1,ob,by rw [bq,if_pos hb];exact h2,h3,fun hk=>?_⟩
 obtain ⟨e,g,h5,h6,h7⟩:=h4 hk
 exact ⟨e,g,by rw [show ({ m with H:=m.H.take n,E:=E }:Mm).E id=m.E id from hE id hb];exact h5,h6,h7⟩
theorem Eq.cut {m:Mm} {c:C} {E:Nat→Option Et} (h:Eq m c v) (hb:c.bel n) (hE:∀ i,i<n→E i=m.E i):Eq { m with H:=m.H.take n,E:=E } c v:=by
 cases c with
 | d x=>exact h
 | own id p =>
  obtain ⟨h1,ob,h2,h3,h4⟩:=h
  have hb':id<n:=hb
  refine ⟨h1,ob,by rw [bq,if_pos hb'];exact h2,h3,fun hk=>?_⟩
  obtain ⟨e,h5,h6⟩:=h4 hk
  exact ⟨e,(hE id hb).trans h5,h6⟩
 | ref id off k=>exact Tz.cut h hb hE
 | clo fn caps =>
  obtain ⟨vs,h1,h2,h3⟩:=h
  exact ⟨vs,h1,h2,fun j p v hp hv=>(h3 j p v hp hv).cut (hb p (gM hp)) hE⟩
 | emp=>exact h
theorem ArE (l:List (Nat × X)) (n:Nat) (h:Xs F n l) (hH:∀ ob∈H.take n,∀ c∈ob.cs,C.bel n c):Wk N F H (ofL l) (H.take n):=fun b0 w0 S0 a m hm hs=>by
 subst hm
 let E:Nat→Option Et:=fun i=>if i<n then m.E i else none
 have hE:∀ i,i<n→E i=m.E i:=fun i hi=>if_pos hi
 have hE':∀ i e,E i=some e→i<n∧m.E i=some e:=fun i e he=>by
  have he':(if i<n then m.E i else none)=some e:=he
  split at he'
  ·exact ⟨by assumption,he'⟩
  ·cases he'
 have lcut:∀ {cs:List C} {vs:List Value},(∀ c∈cs,C.bel n c)→AV (Eq m) cs vs→AV (Eq { m with H:=m.H.take n,E:=E }) cs vs:=fun hb hl=>⟨hl.1,fun j c v hc hv=>(hl.2 j c v hc hv).cut (hb c (gM hc)) hE⟩
 refine ⟨{ m with H:=m.H.take n,E:=E },rfl,rfl,⟨⟨fun id e he=>?_,fun i j e e' hij hi hj=>hs.cx.apart i j e e' hij (hE' i e hi).2 (hE' j e' hj).2,fun id e g t he=>hs.cx.far id e g t (hE' id e he).2,hs.cx.lt⟩,fun id ob hob hk=>?_,fun t=>?_,hs.size,hs.defers,hs.below,hs.base,hs.S,hs.T⟩⟩
 ·obtain ⟨hlt,he⟩:=hE' id e he
  obtain ⟨h1,ob,h2,h3⟩:=hs.cx.each id e he
  have h2':(m.H.take n)[id]?=some ob:=by rw [bq,if_pos hlt];exact h2
  refine ⟨h1,ob,h2',?_⟩
  have hb:=hH ob (gM h2')
  cases ob <;> cases e <;> simp only [Abq] at h3 ⊢
  ·exact ⟨h3.1,lcut hb h3.2⟩
  ·exact ⟨h3.1,h3.2.1,h3.2.2.1,lcut hb h3.2.2.2⟩
 ·have hob':(m.H.take n)[id]?=some ob:=hob
  rw [bq] at hob'
  split at hob'
  ·rename_i hlt
   show (E id).isSome=true
   rw [hE id hlt]
   exact hs.tot id ob hob' hk
  ·cases hob'
 ·rcases TJ h t with ⟨h1,h2⟩|h1
  ·rw [h1] at h2 ⊢
   have hx:=hs.frame t
   cases hF:F t with
   | one c=>rw [hF] at hx h2;exact Eq.cut hx h2 hE
   | agg cs =>
    rw [hF] at hx h2
    obtain ⟨xs,h3,h4⟩:=hx
    exact ⟨xs,h3,lcut h2 h4⟩
   | tup l'=>rw [hF] at hx;exact hx
   | any=>trivial
   | pin l'=>rw [hF] at hx h2;exact fun p hp=>Tz.cut (hx p hp) (h2 p hp) hE
   | tupC l'=>rw [hF] at h2;exact h2.elim
  ·rw [h1];trivial
theorem LM (t e s:Nat) (h:F t=.one (.d (.val (.slice none 0 0)))):Wk N F H (F.put (some t) (.one (.own H.length 0))) (H++[.row e s 0 []]):=fun b0 w0 S0 a m hm hs=>by
 subst hm
 have hle:Le m { m with H:=m.H++[.row e s 0 []],E:=fun i=>if i=m.H.length then some (.row (.slice none 0 0) e s 0 []) else m.E i } :=
  ⟨fun _ _ h=>h,rfl,fun _ _ _=>rfl,fun id ob hob=>⟨ob,by rw [de (gS.1 hob).1];exact hob,MQ.same fun x hx=>by
   have:=(gS.1 hob).1
   show (if id=m.H.length then _ else m.E id)=some x
   rw [if_neg (by omega)]
   exact hx⟩⟩
 have get:∀ i x,(if i=m.H.length then some (Et.row (.slice none 0 0) e s 0 []) else m.E i)=some x→(i=m.H.length∧x=.row (.slice none 0 0) e s 0 [])∨m.E i=some x:=fun i x hx=>by
  split at hx
  ·exact .inl ⟨by assumption,(Option.some.inj hx).symm⟩
  ·exact .inr hx
 refine ⟨{ m with H:=m.H++[.row e s 0 []],E:=fun i=>if i=m.H.length then some (.row (.slice none 0 0) e s 0 []) else m.E i },rfl,rfl,⟨⟨fun id x hx=>?_,fun i j x y hij hi hj g h1 h2=>?_,fun id x g t hx hg=>?_,hs.cx.lt⟩,fun id ob hob hk=>?_,fun t'=>?_,hs.size,hs.defers,hs.below,hs.base,hs.S,hs.T⟩⟩
 ·rcases get id x hx with ⟨rfl,rfl⟩|h1
  ·exact ⟨World.ownsRow_nil _ _ _ _,.row e s 0 [],by simp,rfl,rfl,rfl,AV.nil_⟩
  ·obtain ⟨h2,ob,h3,h4⟩:=hs.cx.each id x h1
   exact ⟨h2,ob,by rw [de (gS.1 h3).1];exact h3,h4.le hle⟩
 ·rcases get i x hi with ⟨rfl,rfl⟩|h3
  ·simp [Et.own,Value.ownBlock] at h1
  ·rcases get j y hj with ⟨rfl,rfl⟩|h4
   ·simp [Et.own,Value.ownBlock] at h2
   ·exact hs.cx.apart i j x y hij h3 h4 g h1 h2
 ·rcases get id x hx with ⟨rfl,rfl⟩|h3
  ·simp [Et.own,Value.ownBlock] at hg
  ·exact hs.cx.far id x g t h3 hg
 ·show (if id=m.H.length then _ else m.E id).isSome=true
  split
  ·rfl
  ·rename_i hne
   have hob':(m.H++[.row e s 0 []])[id]?=some ob:=hob
   have hlt:=(gS.1 hob').1
   simp only [ak,bk,List.length_nil] at hlt
   rw [de (by omega)] at hob'
   exact hs.tot id ob hob' hk
 ·rw [FR]
  split
  ·rename_i ht
   cases ht
   have hv:=hs.frame t
   rw [h] at hv
   have hv':=Dm (m:=m) hv
   rw [hv']
   exact ⟨rfl,.row e s 0 [],by simp,(fun n n' h1 h2=>by cases h1;cases h2;exact aa _),fun _=>⟨.row (.slice none 0 0) e s 0 [],by simp,rfl⟩⟩
  ·exact (hs.frame t').le hle
def CC (l:List Oper):List (Nat × Nat)→List Oper
 | []=>l
 | (k,p)::es=>CC (Bo l k p) es
def Xt (md:Region.Mode) (l:List Oper):List (Nat × Nat)→Bool
 | []=>true
 | (k,p)::es=>AfJ md l k p && Xt md (Bo l k p) es
theorem OZ (l:List Oper) (k p:Nat):(Bo l k p).length=l.length:=by simp [Bo]
theorem GL:∀ (es:List (Nat × Nat)) (l:List Oper),(CC l es).length=l.length
 | [],l=>rfl
 | (k,p)::es,l=>by
  unfold CC
  rw [GL es,OZ]
theorem TK {k p:Nat} (h:n≤k):(Bo l k p).take n=l.take n:=by
 refine fj fun j=>?_
 simp only [bq,Bo,jz]
 by_cases hj:j<n
 ·rw [if_pos hj,if_pos hj]
  have hkj:¬ k=j:=by omega
  cases l[j]? <;> simp [hkj]
 ·rw [if_neg hj,if_neg hj]
theorem TL {k p:Nat} (h:n≤k):(Bo l k p).drop n=(l.drop n).modify (k - n) fun o=>{ o with after:=o.after.push ⟨p,.data⟩ }:=by
 refine fj fun j=>?_
 simp only [cj,Bo,jz]
 have hkj:k=n+j ↔ k - n=j:=by omega
 cases l[n+j]? <;> simp [hkj]
section
variable {P:Program} {md:Region.Mode} {Q:Exit→Act→World→Prop}
theorem TM (hQ:∀ (d:Option Tmp) v c a w,Q (.panic c) (Act.put a d v) w→Q (.panic c) a w):∀ (es:List (Nat × Nat)) (l:List Oper),Xt md l es=true→∀ (f:Nat) (listed:Array Bool) (a:Act) (w:World),listed.size=l.length →
  wpAny P md (CC l es).toArray Q f listed a w→wpAny P md l.toArray Q f listed a w
 | [],_,_,_,_,_,_,_,h=>h
 | (k,p)::es,l,hB,f,listed,a,w,hs,h=>by
  simp only [Xt,ah] at hB
  exact QS hB.1 hQ f listed a w hs (TM hQ es _ hB.2 f listed a w (by rw [OZ];exact hs) h)
theorem QT:∀ (es:List (Nat × Nat)) (l:List Oper) (n:Nat),(es.all fun e=>decide (n≤e.1))=true→(CC l es).take n=l.take n
 | [],_,_,_=>rfl
 | (k,p)::es,l,n,h=>by
  simp only [jr,ah,decide_eq_true_eq] at h
  unfold CC
  rw [QT es _ n h.2,TK h.1]
theorem QU:∀ (es:List (Nat × Nat)) (l:List Oper) (n:Nat),(es.all fun e=>decide (n≤e.1))=true→wpList P (CC l es).toArray Q ((CC l es).drop n)=wpList P l.toArray Q (l.drop n)
 | [],_,_,_=>rfl
 | (k,p)::es,l,n,h=>by
  simp only [jr,ah,decide_eq_true_eq] at h
  unfold CC
  rw [QU es _ n h.2,TL h.1]
  exact funext fun a=>funext fun w=>Lf _ _ a w
end
section
variable {P:Program} {G:World→Prop} {N:Nat} {F:Frm} {H:List Ob} {Q:Te}
theorem Hu (n:Nat) (es:List (Nat × Nat)) (hm:P.follows .mixedOrders=true) (hB:(NP N l && Qr .any (l.take n).toArray && MM .any (CC l es).toArray n && Xt .any l es && es.all fun e=>decide (n≤e.1))=true)
    (h:Ch P G (l.take n).toArray (l.take n) F H fun F' H'=>Ti P G l.toArray (l.drop n) F' H' (Q .normal)):CW P G N (.region id l.toArray true) F H Q:=fun b0 w0 S0 a m hG hH hs=>by
  subst hH
  simp only [ah] at hB
  obtain ⟨⟨⟨⟨hd,hC⟩,hp⟩,he⟩,hk⟩:=hB
  have hd1:NP N (l.take n)=true:=List.all_eq_true.2 fun o ho=>List.all_eq_true.1 hd o (dj ho)
  have hd2:NP N (l.drop n)=true:=List.all_eq_true.2 fun o ho=>List.all_eq_true.1 hd o (kz ho)
  have hn:n<l.length:=by
    have:=hp
    simp only [MM,ah,decide_eq_true_eq,lg,GL] at this
    exact this.1.1.1.1
  have hlen:(l.take n).length=n:=by simp;omega
  have hsz:(l.take n).toArray.size=n:=by simp;omega
  refine wp_region_noPanic (wp_region_any hm ?_)
  obtain ⟨Fs,Hs,xs,obs,h1,h2,h3,h4⟩:=h.seq
  have hs':=hs.drew
  let R:Exit→Act→World→Prop:=NoPanic fun e a w=>∃ F' m',m'.w=w∧St b0 N w0 S0 F' a m'∧Q e F' m'.H
  have key:wpAny P .any (l.take n).toArray (NN P l.toArray R (l.drop n)) n (Array.replicate n false) a m.w.drew:=by
    refine Vy (G:=G) (w0:=w0) (S0:=S0) (b0:=b0) hG hC (N:=N) (by simpa using hd1) (Fs:=Fs) (Hs:=Hs) (xs:=xs) (obs:=obs) (fun i o hi=>h4 i o (by simpa using hi)) (fun a' m' hH' hst=>?_) n (Array.replicate n false) a { m with w:=m.w.drew,H:=Hs n } ?_ (by simp [Abt])
    · rw [hsz] at hst hH'
      rw [hlen] at h3
      rw [←hH'] at h3
      exact Zn hG (l.drop n) (Fs n) a' m' (Q .normal) hd2 hst h3 fun F'' a'' m'' k1 k2=>⟨F'',m'',rfl,k1,k2⟩
    · have:=Lc (P:=P) (G:=G) (ops:=(l.take n).toArray) (Fs:=Fs) (Hs:=Hs) (xs:=xs) (obs:=obs) (fun i o hi=>h4 i o (by simpa using hi)) (by rw [h1];exact hs') (m:={ m with w:=m.w.drew }) h2.symm
      rw [hsz] at this
      exact this
  have hPQ:NN P (CC l es).toArray R ((CC l es).drop n)=NN P l.toArray R (l.drop n):=by
    funext e a w
    cases e <;> first
      | (show wpList P _ R _ a w = wpList P _ R _ a w
         rw [QU es l n hk])
      | rfl
  rw [←QT es l n hk,←hPQ] at key
  have inv0:HeadInv .any (CC l es).toArray n (Array.replicate (CC l es).toArray.size false) :=
    ⟨by simp,fun j oj _ hl=>(by rw [getD_replicate_false] at hl;cases hl),fun t _ ht=>getD_in (by simpa using ht) (getD_replicate_false _ _)⟩
  have hall:=MO hp n (Array.replicate (CC l es).toArray.size false) (Array.replicate n false) a m.w.drew inv0 (by simp) (fun i _=>by rw [getD_replicate_false,getD_replicate_false]) key
  have hsl:(CC l es).toArray.size=l.toArray.size:=by simp [GL]
  rw [hsl,show n+(l.toArray.size - n)=l.toArray.size by simp;omega] at hall
  exact TM (by intro _ _ _ _ _ h;exact h) es l he _ _ _ _ (by simp) hall
end
theorem Pa (id j e s:Nat) {t:TypeId} {cs:List C} (hid:H[id]?=some (.box t cs)) (hj:cs[j]?=some (.d (.val (.slice none 0 0)))):Wk N F H F (H.set id (.box t (cs.set j (.own H.length 0)))++[.row e s 0 []]):=fun b0 w0 S0 a m hm hs=>by
 subst hm
 have hlt:=(gS.1 hid).1
 let E:Nat→Option Et:=fun i=>if i=m.H.length then some (.row (.slice none 0 0) e s 0 []) else m.E i
 let m':Mm:={ m with H:=m.H.set id (.box t (cs.set j (.own m.H.length 0)))++[.row e s 0 []],E:=E }
 have hEo:∀ i,i<m.H.length→E i=m.E i:=fun i hi=>if_neg (by omega)
 have hH':∀ i (ob:Ob),m.H[i]?=some ob→∃ ob',m'.H[i]?=some ob'∧ob'.k=ob.k∧(i≠id→ob'=ob):=fun i ob hob=>by
  have hi:=(gS.1 hob).1
  by_cases h:id=i
  ·subst h
   rw [hid] at hob
   cases hob
   exact ⟨.box t (cs.set j (.own m.H.length 0)),by show (_++_)[id]?=_;rw [de (by simpa using hi),gu hi],rfl,fun h=>absurd rfl h⟩
  ·exact ⟨ob,by show (_++_)[i]?=_;rw [de (by simpa using hi),iz h];exact hob,rfl,fun _=>rfl⟩
 have hle:Le m m':=⟨fun _ _ h=>h,rfl,fun _ _ _=>rfl,fun i ob hob=>by
  have hi:=(gS.1 hob).1
  obtain ⟨ob',h1,h2,_⟩:=hH' i ob hob
  exact ⟨ob',h1,fun k hk=>.inl ⟨by rw [←h2];exact hk,fun x hx=>⟨x,(hEo i hi).trans hx,rfl⟩⟩⟩⟩
 have get:∀ i x,E i=some x→(i=m.H.length∧x=.row (.slice none 0 0) e s 0 [])∨(i<m.H.length∧m.E i=some x):=fun i x hx=>by
  have hx':(if i=m.H.length then some (Et.row (.slice none 0 0) e s 0 []) else m.E i)=some x:=hx
  split at hx'
  ·exact .inl ⟨by assumption,(Option.some.inj hx').symm⟩
  ·refine .inr ⟨?_,hx'⟩
   obtain ⟨_,ob,h2,_⟩:=hs.cx.each i x hx'
   exact (gS.1 h2).1
 have hnew:m'.H[m.H.length]?=some (.row e s 0 []):=by
  show (_++_)[m.H.length]?=_
  rw [dg (by simp)]
  simp
 have hown:Eq m' (.own m.H.length 0) (.slice none 0 0):=⟨rfl,_,hnew,(fun n n' h1 h2=>by cases h1;cases h2;exact aa _),fun _=>⟨.row (.slice none 0 0) e s 0 [],if_pos rfl,rfl⟩⟩
 refine ⟨m',rfl,rfl,⟨⟨fun i x hx=>?_,fun i k x y hik hi hk g h1 h2=>?_,fun i x g t hx hg=>?_,hs.cx.lt⟩,fun i ob hob hk=>?_,fun t'=>(hs.frame t').le hle,hs.size,hs.defers,hs.below,hs.base,hs.S,hs.T⟩⟩
 ·rcases get i x hx with ⟨rfl,rfl⟩|⟨hi,h1⟩
  ·exact ⟨World.ownsRow_nil _ _ _ _,_,hnew,rfl,rfl,rfl,AV.nil_⟩
  ·obtain ⟨h2,ob,h3,h4⟩:=hs.cx.each i x h1
   obtain ⟨ob',h5,_,h6⟩:=hH' i ob h3
   refine ⟨h2,ob',h5,?_⟩
   by_cases h:i=id
   ·subst h
    rw [hid] at h3
    cases h3
    have h5':(m.H.set i (.box t (cs.set j (.own m.H.length 0)))++[.row e s 0 []])[i]?=some ob':=h5
    rw [de (by simpa using hi),gu hi] at h5'
    cases h5'
    cases x with
    | row v t' s' n' xs=>exact h4.elim
    | box g vs t' =>
     obtain ⟨rfl,hl⟩:=h4
     refine ⟨rfl,?_⟩
     obtain ⟨v,hv,hr⟩:=hl.at_ hj
     have hv0:v=.slice none 0 0:=by cases hr;rfl
     subst hv0
     have:=(hl.imp fun _ _=>Eq.le hle).set_ j hown
     rwa [show vs.set j (.slice none 0 0)=vs from by
      refine fj fun q=>?_
      rw [bt]
      split
      ·rename_i hq;subst hq;rw [if_pos (gS.1 hv).1];exact hv.symm
      ·rfl] at this
   ·rw [h6 h]
    exact h4.le hle
 ·rcases get i x hi with ⟨rfl,rfl⟩|⟨_,h3⟩
  ·simp [Et.own,Value.ownBlock] at h1
  ·rcases get k y hk with ⟨rfl,rfl⟩|⟨_,h4⟩
   ·simp [Et.own,Value.ownBlock] at h2
   ·exact hs.cx.apart i k x y hik h3 h4 g h1 h2
 ·rcases get i x hx with ⟨rfl,rfl⟩|⟨_,h3⟩
  ·simp [Et.own,Value.ownBlock] at hg
  ·exact hs.cx.far i x g t h3 hg
 ·show (E i).isSome=true
  by_cases h:i=m.H.length
  ·show (if i=m.H.length then _ else _:Option Et).isSome=true
   rw [if_pos h]
   rfl
  ·have hlt':=(gS.1 hob).1
   have hi:i<m.H.length:=by
    simp only [m',ak,dp,bk,List.length_nil] at hlt'
    omega
   rw [hEo i hi]
   obtain ⟨ob0,hob0⟩:∃ ob0,m.H[i]?=some ob0:=⟨_,gE hi⟩
   obtain ⟨ob',h5,h6,_⟩:=hH' i ob0 hob0
   rw [h5] at hob
   cases hob
   exact hs.tot i ob0 hob0 (by rw [←h6];exact hk)
structure TyI (P:Program) (t:TypeId):Prop where
 h:P.underlying t=some (.interface (P.methodsAt t))
def cI (xs:List Int):List C:=xs.map fun z=>.d (.val (.int .i64 z))
theorem AnW (xs:List Int):(cI xs).length=xs.length:=by simp [cI]
theorem ArF {k:Nat} (h:xs[k]?=some z):((cI xs).drop (k*1))[0]?=some (.d (.val (.int .i64 z))):=by
 rw [cq,cj,cr]
 simp [cI,h]
theorem AnX (xs:List Int) (k:Nat) (z:Int):(cI xs).set (k*1) (.d (.val (.int .i64 z)))=cI (xs.set k z):=by
 rw [cq]
 simp [cI,List.map_set]
theorem AnY (xs:List Int) (z:Int):cI xs++[.d (.val (.int .i64 z))]=cI (xs++[z]):=by simp [cI]
theorem Akg (n:Nat):Ex (madeCells (Value.int .i64 0).cells (n*1)).toList=cI (List.replicate n 0):=by
 rw [cq,show (Value.int .i64 0).cells=#[Value.int .i64 0] from rfl,toList_madeCells_one]
 simp [Ex,cI]
section
variable {P:Program} {G:World→Prop} {o:Oper} {F:Frm} {H:List Ob}
theorem RY {op:BinOp} {x:Operand} {u:Value} {b:Bool} (ho:o.op=.binOp op t x (.const .nilIface) t') (ht:TyI P t) (hx:F.ev x=.one (.d (.val u))) (hb:(op=.eql∧u=.nilIface∧b=true)∨(op=.neq∧u=.nilIface∧b=false)∨(op=.eql∧(∃ t v,u=.iface t v)∧b=false)∨(op=.neq∧(∃ t v,u=.iface t v)∧b=true)):Bb P G o F H (.one (.d (.val (.bool b)))) []:=by
 have hu:=ht.h
 rcases hb with ⟨rfl,rfl,rfl⟩|⟨rfl,rfl,rfl⟩|⟨rfl,⟨t2,v,rfl⟩,rfl⟩|⟨rfl,⟨t2,v,rfl⟩,rfl⟩
 ·refine Dn (y:=.const .nilIface) ho hx rfl (fun w=>?_) rfl
  have:=run_eql_nil_nil (P:=P) w t hu
  simp [eqGuard,this]
 ·refine Dn (y:=.const .nilIface) ho hx rfl (fun w=>?_) rfl
  have:=run_neq_nil_nil (P:=P) w t hu
  simp [eqGuard,this]
 ·refine Dn (y:=.const .nilIface) ho hx rfl (fun w=>?_) rfl
  have:=run_eql_held_nil (P:=P) w t t2 v hu
  simp [eqGuard,this]
 ·refine Dn (y:=.const .nilIface) ho hx rfl (fun w=>?_) rfl
  have:=run_neq_held_nil (P:=P) w t t2 v hu
  simp [eqGuard,this]
theorem AbF {x:X} (h:∀ (b0:Nat) (m:Mm) (a:Act),H <+: m.H→Cx b0 m→AjS m F a o→∃ v w',(execOp a.eval o).run P m.w=.ok (.value v) w'∧Below m.w.heap.size m.w w'∧∀ m2,Le m m2→m2.w=w'→(∀ b,m.w.heap.size≤b→b<w'.heap.size→m2.S false b)→EH m2 x v):Bb P G o F H x []:=by
 intro b0 m a hp hx hg hb0 hE hor K Q hK
 rw [az] at hp
 obtain ⟨v,w',h1,h2,h3⟩:=h b0 m a hp hx hor
 unfold Oper.wp
 rw [h1]
 exact hK v w' [] ⟨rfl,h2,fun k e hk=>by simp at hk,List.Pairwise.nil⟩ (h3 _ (Lb h2 hx.lt (fun k hk=>by simp at hk)) rfl fun b hb hb'=>.inr ⟨rfl,hb,hb',fun e he=>by simp at he⟩)
theorem Pb {t e:Nat} (ho:o.op=.buildSlice t 0 #[]) (ht:TyS P t e s):Bb P G o F H (.one .emp) []:=AbF fun b0 m a hp hx hor=>by
 obtain ⟨i,hi,hi2⟩:=Option.map_eq_some_iff.1 ht.s
 refine ⟨.slice (some ⟨m.w.heap.size,0,none⟩) 0 0,m.w.alloc (.cells #[] e),?_,(ab _ _).alloc (aa _) _,fun m2 _ _ _=>⟨_,rfl⟩⟩
 unfold execOp
 simp [ho,Instr.buildSlice,run_underlying ht.h,sizeOf,typeInfo,hi,Instr.fill,newRow,Array.range_zero']
theorem MW {e:TypeId} {x:Operand} {c:C} {z:Value} {tg:Bool} {ds:List D} (ho:o.op=.call { callee:=.builtin .append,args:=#[x,y],argTypes:=#[t,t] }) (hx:F.ev x=.one c) (hc:c=.emp∨c=.d (.val (.slice none 0 0))) (hy:F.ev y=.one (.d (.row tg s n ds))) (hf:∀ d∈ds,Dg d) (ht:TyS P t e s) (hz:TyZ P e z s by_) (hn:n≤1000000) (hby:by_≤1000) (hs0:0<s) :
  Bb P G o F H (.one (.d (.row false s n ds))) []:=AbF fun b0 m a hp hcx hor=>by
 have hv:=Bg hor (x:=x) (by rw [ho];simp [Op.operands,Call.operands])
 have hu:=Bg hor (x:=y) (by rw [ho];simp [Op.operands,Call.operands])
 rw [hx] at hv
 rw [hy] at hu
 have hv':∃ A:Option Addr,a.eval x=.slice A 0 0:=by
  rcases hc with rfl|rfl
  ·exact hv
  ·exact ⟨none,Dm (m:=m) hv⟩
 obtain ⟨A,hxe⟩:=hv'
 obtain ⟨i,hi,hi2⟩:=Option.map_eq_some_iff.1 hz.h
 simp only [Prod.mk.injEq] at hi2
 have hu':Bh m.w m.S (.row tg s n ds) (a.eval y):=hu
 generalize hye:a.eval y=u at hu'
 cases hu' with
 | @row _ _ _ cap _ B xs hc' hA hl hxl hm hr =>
  have hstart:∀ v w',(Builtin.append_ #[t,t] o.type #[.slice A 0 0,.slice B n cap]).run P m.w=.ok v w'→(execOp a.eval o).run P m.w=.ok (.value v) w':=fun v w' h=>by
   unfold execOp
   simp only [ho,resolve,invoke,builtin,aj,bg,av,jo,ce,ga,hxe,hye,h]
  rcases cn n with h0|h0
  ·subst h0
   have hd0:ds=[]:=bw (by simpa using hl)
   subst hd0
   refine ⟨.slice A 0 0,m.w,hstart _ _ (GK ht.h hi (aa _)),ab _ _,fun m2 _ _ _=>?_⟩
   exact Bh.row [] (aa _) (fun _=>rfl) (by simp) rfl (fun h=>absurd rfl h) (fun j u x h=>by simp at h)
  ·have hne:ds≠[]:=fun h=>by rw [h] at hl;have:=Nat.mul_pos h0 hs0;simp at hl;omega
   obtain ⟨b,off,rfl,hb,hcells⟩:=hm hne
   have hcells':∀ (j:Nat) (v:Value),xs[j]?=some v→m.w.cell? ((⟨b,off,none⟩:Addr).add j)=some v:=fun j v hj=>by rw [mp];exact hcells j v hj
   have hbytes:n*i.bytes≤1000000*1000:=dw hn (by omega)
   have hrun:∃ cap' cur,(Builtin.append_ #[t,t] o.type #[.slice A 0 0,.slice (some ⟨b,off,none⟩) n cap]).run P m.w=.ok (.slice (some ⟨m.w.heap.size,0,none⟩) n cap') (m.w.drew.alloc (.cells (xs.toArray++cur) e))∧n≤cap':=by
    cases A with
    | none=>exact ⟨_,_,run_append_nil (P:=P) m.w t o.type e i z ht.h hi hi2.1 ⟨b,off,none⟩ n cap xs (by rw [←hxl,hl,hi2.2.1]) hcells' h0 (by omega) (by omega),grownCap_ge _ _ _ _⟩
    | some p =>
     have:=run_append_grow (P:=P) m.w t o.type e i z ht.h hi hi2.1 p 0 0 [] (by simp) (fun j v h=>by simp at h) ⟨b,off,none⟩ n cap xs (by rw [←hxl,hl,hi2.2.1]) hcells' (by omega) (by omega) (by
      rw [bc,nextslicecap_zero h0];omega)
     simp only [bc,ef] at this
     refine ⟨_,_,by simpa using this,grownCap_ge _ _ _ _⟩
   obtain ⟨cap',cur,hrun,hcap⟩:=hrun
   refine ⟨_,_,hstart _ _ hrun,((ab _ _).drew).alloc (aa _) _,fun m2 hle hw hS=>?_⟩
   refine Bh.row xs hcap (by simp) hl hxl (fun _=>⟨m.w.heap.size,0,rfl,hS _ (aa _) (by simp),fun j v hj=>?_⟩) (fun j u v hu' hv'=>?_)
   ·rw [hw,bc]
    have:(m.w.drew.alloc (.cells (xs.toArray++cur) e)).heap[m.w.heap.size]?=some (.cells (xs.toArray++cur) e):=heap_alloc_new m.w.drew _
    rw [cell_of_row _ _ j _ e (0,0) this]
    have hjl:=(gS.1 hj).1
    rw [Array.getElem?_append_left (by simpa using hjl)]
    simpa using hj
   ·exact Bh.le hle (hr j u v hu' hv')
end
theorem Ak:TyK prog 3 false 1:=⟨⟨_,underlying3,rfl⟩,by kernel_rfl⟩
theorem Bz:TyZ prog 3 (.int .i64 0) 1 8:=⟨by kernel_rfl,rfl,by kernel_rfl⟩
theorem DA:TyK prog 4 false 1:=⟨⟨_,underlying4,rfl⟩,by kernel_rfl⟩
theorem AbG:TyZ prog 4 (.bool false) 1 1:=⟨by kernel_rfl,rfl,by kernel_rfl⟩
theorem Cr:TyK prog 126 false 1:=⟨⟨_,underlying126,rfl⟩,by kernel_rfl⟩
theorem Eh:TyZ prog 126 (.int .u32 0) 1 4:=⟨by kernel_rfl,rfl,by kernel_rfl⟩
theorem Fp:TyK prog 36 false 1:=⟨⟨_,underlying36,rfl⟩,by kernel_rfl⟩
theorem RZ:TyZ prog 36 (.nilIface) 1 16:=⟨by kernel_rfl,rfl,by kernel_rfl⟩
theorem Bd:TyK prog 24 false 1:=⟨⟨_,underlying24,rfl⟩,by kernel_rfl⟩
theorem EP:TyK prog 41 false 1:=⟨⟨_,underlying41,rfl⟩,by kernel_rfl⟩
theorem DB:TyK prog 22 false 1:=⟨⟨_,underlying22,rfl⟩,by kernel_rfl⟩
theorem AQ:TyK prog 23 false 1:=⟨⟨_,underlying23,rfl⟩,by kernel_rfl⟩
theorem BB:TyK prog 27 false 1:=⟨⟨_,underlying27,rfl⟩,by kernel_rfl⟩
theorem Ar:TyK prog 28 false 1:=⟨⟨_,underlying28,rfl⟩,by kernel_rfl⟩
theorem DT:TyZ prog 28 (.slice none 0 0) 1 24:=⟨by kernel_rfl,rfl,by kernel_rfl⟩
theorem FU:TyK prog 92 false 1:=⟨⟨_,underlying92,rfl⟩,by kernel_rfl⟩
theorem CE:TyK prog 26 true 3:=⟨⟨_,underlying26,rfl⟩,by kernel_rfl⟩
theorem QV:TyZ prog 26 (.agg #[.slice none 0 0,.slice none 0 0,.slice none 0 0]) 3 72:=⟨by kernel_rfl,rfl,by kernel_rfl⟩
theorem Lg:TyF prog 26 0 0 22:=⟨_,_,underlying26,rfl,rfl,rfl⟩
theorem BM:TyF prog 26 1 1 23:=⟨_,_,underlying26,rfl,rfl,rfl⟩
theorem Gn:TyF prog 26 2 2 24:=⟨_,_,underlying26,rfl,rfl,rfl⟩
theorem Zq:TyB prog 26 [(0,1),(1,1),(2,1)] [.slice none 0 0,.slice none 0 0,.slice none 0 0]:=⟨⟨_,underlying26,by kernel_rfl⟩,by kernel_rfl,by kernel_rfl⟩
theorem GM:TyK prog 30 true 3:=⟨⟨_,underlying30,rfl⟩,by kernel_rfl⟩
theorem AbH:TyZ prog 30 (.agg #[.slice none 0 0,.slice none 0 0,.slice none 0 0]) 3 72:=⟨by kernel_rfl,rfl,by kernel_rfl⟩
theorem Od:TyF prog 30 0 0 24:=⟨_,_,underlying30,rfl,rfl,rfl⟩
theorem LO:TyF prog 30 1 1 27:=⟨_,_,underlying30,rfl,rfl,rfl⟩
theorem Eb:TyF prog 30 2 2 28:=⟨_,_,underlying30,rfl,rfl,rfl⟩
theorem Akh:TyB prog 30 [(0,1),(1,1),(2,1)] [.slice none 0 0,.slice none 0 0,.slice none 0 0]:=⟨⟨_,underlying30,by kernel_rfl⟩,by kernel_rfl,by kernel_rfl⟩
theorem Bu:TyK prog 34 true 2:=⟨⟨_,underlying34,rfl⟩,by kernel_rfl⟩
theorem Ei:TyZ prog 34 (.agg #[.int .i64 0,.int .i64 0]) 2 16:=⟨by kernel_rfl,rfl,by kernel_rfl⟩
theorem Fq:TyB prog 34 [(0,1),(1,1)] [.int .i64 0,.int .i64 0]:=⟨⟨_,underlying34,by kernel_rfl⟩,by kernel_rfl,by kernel_rfl⟩
theorem Ae:TyK prog 43 true 3:=⟨⟨_,underlying43,rfl⟩,by kernel_rfl⟩
theorem Av:TyZ prog 43 (.agg #[.bool false,.slice none 0 0,.int .i64 0]) 3 40:=⟨by kernel_rfl,rfl,by kernel_rfl⟩
theorem QW:TyF prog 43 1 1 41:=⟨_,_,underlying43,rfl,rfl,rfl⟩
theorem Hv:TyF prog 43 2 2 3:=⟨_,_,underlying43,rfl,rfl,rfl⟩
theorem Pc:TyB prog 43 [(0,1),(1,1),(2,1)] [.bool false,.slice none 0 0,.int .i64 0]:=⟨⟨_,underlying43,by kernel_rfl⟩,by kernel_rfl,by kernel_rfl⟩
theorem Ag:TyK prog 45 true 6:=⟨⟨_,underlying45,rfl⟩,by kernel_rfl⟩
theorem AE:TyZ prog 45 (.agg #[.bool false,.slice none 0 0,.int .i64 0,.bool false,.slice none 0 0,.int .i64 0]) 6 80:=⟨by kernel_rfl,rfl,by kernel_rfl⟩
theorem Cs:TyF prog 45 0 0 43:=⟨_,_,underlying45,rfl,rfl,rfl⟩
theorem AP:TyF prog 45 1 3 43:=⟨_,_,underlying45,rfl,rfl,rfl⟩
theorem CX:TyB prog 45 [(0,3),(3,3)] [.bool false,.slice none 0 0,.int .i64 0,.bool false,.slice none 0 0,.int .i64 0]:=⟨⟨_,underlying45,by kernel_rfl⟩,by kernel_rfl,by kernel_rfl⟩
theorem Be:TyK prog 61 true 2:=⟨⟨_,underlying61,rfl⟩,by kernel_rfl⟩
theorem DU:TyF prog 61 0 0 3:=⟨_,_,underlying61,rfl,rfl,rfl⟩
theorem EJ:TyF prog 61 1 1 3:=⟨_,_,underlying61,rfl,rfl,rfl⟩
theorem GN:TyB prog 61 [(0,1),(1,1)] [.int .i64 0,.int .i64 0]:=⟨⟨_,underlying61,by kernel_rfl⟩,by kernel_rfl,by kernel_rfl⟩
theorem Bm:TyK prog 63 true 6:=⟨⟨_,underlying63,rfl⟩,by kernel_rfl⟩
theorem Bw:TyZ prog 63 (.agg #[.int .i64 0,.slice none 0 0,.int .i64 0,.int .i64 0,.int .i64 0,.int .i64 0]) 6 64:=⟨by kernel_rfl,rfl,by kernel_rfl⟩
theorem Dj:TyF prog 63 0 0 3:=⟨_,_,underlying63,rfl,rfl,rfl⟩
theorem EQ:TyF prog 63 1 1 24:=⟨_,_,underlying63,rfl,rfl,rfl⟩
theorem ER:TyF prog 63 2 2 61:=⟨_,_,underlying63,rfl,rfl,rfl⟩
theorem ES:TyF prog 63 3 4 61:=⟨_,_,underlying63,rfl,rfl,rfl⟩
theorem Oe:TyB prog 63 [(0,1),(1,1),(2,2),(4,2)] [.int .i64 0,.slice none 0 0,.int .i64 0,.int .i64 0,.int .i64 0,.int .i64 0]:=⟨⟨_,underlying63,by kernel_rfl⟩,by kernel_rfl,by kernel_rfl⟩
theorem Lh:TyK prog 81 true 3:=⟨⟨_,underlying81,rfl⟩,by kernel_rfl⟩
theorem MY:TyZ prog 81 (.agg #[.int .i64 0,.int .i64 0,.int .i64 0]) 3 24:=⟨by kernel_rfl,rfl,by kernel_rfl⟩
theorem Sa:TyF prog 81 0 0 3:=⟨_,_,underlying81,rfl,rfl,rfl⟩
theorem Ft:TyF prog 81 1 1 3:=⟨_,_,underlying81,rfl,rfl,rfl⟩
theorem Og:TyF prog 81 2 2 3:=⟨_,_,underlying81,rfl,rfl,rfl⟩
theorem Aki:TyB prog 81 [(0,1),(1,1),(2,1)] [.int .i64 0,.int .i64 0,.int .i64 0]:=⟨⟨_,underlying81,by kernel_rfl⟩,by kernel_rfl,by kernel_rfl⟩
theorem Br:TyK prog 94 true 4:=⟨⟨_,underlying94,rfl⟩,by kernel_rfl⟩
theorem MZ:TyZ prog 94 (.agg #[.slice none 0 0,.slice none 0 0,.slice none 0 0,.slice none 0 0]) 4 96:=⟨by kernel_rfl,rfl,by kernel_rfl⟩
theorem Pf:TyF prog 94 0 0 22:=⟨_,_,underlying94,rfl,rfl,rfl⟩
theorem VE:TyF prog 94 1 1 24:=⟨_,_,underlying94,rfl,rfl,rfl⟩
theorem VF:TyF prog 94 2 2 92:=⟨_,_,underlying94,rfl,rfl,rfl⟩
theorem VG:TyF prog 94 3 3 24:=⟨_,_,underlying94,rfl,rfl,rfl⟩
theorem Da:TyB prog 94 [(0,1),(1,1),(2,1),(3,1)] [.slice none 0 0,.slice none 0 0,.slice none 0 0,.slice none 0 0]:=⟨⟨_,underlying94,by kernel_rfl⟩,by kernel_rfl,by kernel_rfl⟩
theorem DV:TyK prog 99 true 3:=⟨⟨_,underlying99,rfl⟩,by kernel_rfl⟩
theorem Na:TyZ prog 99 (.agg #[.slice none 0 0,.slice none 0 0,.bool false]) 3 56:=⟨by kernel_rfl,rfl,by kernel_rfl⟩
theorem Pg:TyF prog 99 0 0 24:=⟨_,_,underlying99,rfl,rfl,rfl⟩
theorem VH:TyF prog 99 1 1 24:=⟨_,_,underlying99,rfl,rfl,rfl⟩
theorem Ph:TyF prog 99 2 2 4:=⟨_,_,underlying99,rfl,rfl,rfl⟩
theorem Zr:TyB prog 99 [(0,1),(1,1),(2,1)] [.slice none 0 0,.slice none 0 0,.bool false]:=⟨⟨_,underlying99,by kernel_rfl⟩,by kernel_rfl,by kernel_rfl⟩
theorem Fu:TyK prog 169 true 7:=⟨⟨_,underlying169,rfl⟩,by kernel_rfl⟩
theorem Ce:TyZ prog 169 (.agg #[.int .i64 0,.int .i64 0,.int .i64 0,.int .i64 0,.int .i64 0,.int .i64 0,.int .i64 0]) 7 56:=⟨by kernel_rfl,rfl,by kernel_rfl⟩
theorem AbI:TyF prog 169 0 0 3:=⟨_,_,underlying169,rfl,rfl,rfl⟩
theorem AbJ:TyF prog 169 1 1 3:=⟨_,_,underlying169,rfl,rfl,rfl⟩
theorem AbK:TyF prog 169 2 2 3:=⟨_,_,underlying169,rfl,rfl,rfl⟩
theorem Pi:TyF prog 169 3 3 3:=⟨_,_,underlying169,rfl,rfl,rfl⟩
theorem TN:TyF prog 169 4 4 3:=⟨_,_,underlying169,rfl,rfl,rfl⟩
theorem Pj:TyF prog 169 5 5 3:=⟨_,_,underlying169,rfl,rfl,rfl⟩
theorem AbL:TyF prog 169 6 6 3:=⟨_,_,underlying169,rfl,rfl,rfl⟩
theorem Ez:TyB prog 169 [(0,1),(1,1),(2,1),(3,1),(4,1),(5,1),(6,1)] [.int .i64 0,.int .i64 0,.int .i64 0,.int .i64 0,.int .i64 0,.int .i64 0,.int .i64 0]:=⟨⟨_,underlying169,by kernel_rfl⟩,by kernel_rfl,by kernel_rfl⟩
theorem Af:TyS prog 24 3 1:=⟨underlying24,by kernel_rfl⟩
theorem ET:TyS prog 104 4 1:=⟨underlying104,by kernel_rfl⟩
theorem Pk:TyS prog 41 126 1:=⟨underlying41,by kernel_rfl⟩
theorem Bv:TyS prog 22 81 3:=⟨underlying22,by kernel_rfl⟩
theorem Aj:TyS prog 23 63 6:=⟨underlying23,by kernel_rfl⟩
theorem Aw:TyS prog 27 45 6:=⟨underlying27,by kernel_rfl⟩
theorem Ai:TyS prog 28 43 3:=⟨underlying28,by kernel_rfl⟩
theorem Bn:TyS prog 92 169 7:=⟨underlying92,by kernel_rfl⟩
theorem Hw:TyS prog 31 24 1:=⟨underlying31,by kernel_rfl⟩
theorem Ap:TyI prog 36:=⟨by kernel_rfl⟩
inductive TEq:D→D→Prop
 | val (v:Value):TEq (.val v) (.val v)
 | row {t t':Bool} {s n:Nat} {cs ds:List D} (hl:cs.length=ds.length) (hr:∀ (j:Nat) (c d:D),cs[j]?=some c→ds[j]?=some d→TEq c d):TEq (.row t s n cs) (.row t' s n ds)
 | ptr {t t':Bool} {cs ds:List D} (hl:cs.length=ds.length) (hr:∀ (j:Nat) (c d:D),cs[j]?=some c→ds[j]?=some d→TEq c d):TEq (.ptr t cs) (.ptr t' ds)
def AnZ (S:Du):Du:=fun _ b=>S true b∨S false b
theorem Aoa (h:p:=by
 obtain ⟨c,hcj⟩:∃ c,cs[j]?=some c:=⟨_,gE (by have:=(gS.1 hu).1;omega)⟩
 exact ih j c u hcj hu x (hr j c x hcj hj)):p:=h
theorem TEq.rel {d d':D} (h:TEq d d'):∀ v,Bh w (AnZ S) d v→Bh w (AnZ S) d' v:=by
 induction h with
 | val v=>exact fun _ h=>h
 | @row t t' s n cs ds hl _ ih =>
  intro v hv
  cases hv with
  | row xs hc hA hln hx hm hr =>
   refine .row xs hc hA (by omega) (by omega) (fun hne=>hm (fun h0=>hne (by rw [h0] at hl;exact bw (by simpa using hl.symm)))) fun j u x hu hj=>?_
   exact Aoa
 | @ptr t t' cs ds hl _ ih =>
  intro v hv
  cases hv with
  | ptr xs hx hb hm hr =>
   refine .ptr xs (by omega) hb hm fun j u x hu hj=>?_
   exact Aoa
theorem TEq.refl:∀ d,TEq d d
 | .val v=>.val v
 | .row t s n cs=>.row rfl fun j c d h1 h2=>by
  rw [h1] at h2
  cases h2
  have:=List.sizeOf_lt_of_mem (gM h1)
  exact TEq.refl c
 | .ptr t cs=>.ptr rfl fun j c d h1 h2=>by
  rw [h1] at h2
  cases h2
  have:=List.sizeOf_lt_of_mem (gM h1)
  exact TEq.refl c
termination_by d=>SizeOf.sizeOf d
decreasing_by all_goals (simp only [D.row.sizeOf_spec,D.ptr.sizeOf_spec];omega)
def Aob (w w':World):Du:=fun t b=>t=false∧w.heap.size≤b∧b<w'.heap.size
def CVF (P:Program) (G:World→Prop) (f:FuncId) (args res:List A):Prop :=
 ∀ (w:World) (S:Du) (vs:List Value),G w→(∀ t b,S t b→b<w.heap.size)→AV (Em w S) args vs →
  Calls P f vs.toArray w fun e w'=>∃ v,e=.returned v∧Afq w' (Aob w w') res v∧Below w.heap.size w w'
theorem Afq.mono {w':World} {S':Du} (hS:∀ t b,S t b→S' t b) (hw:∀ t b,S t b→w'.heap[b]?=w.heap[b]?) {res:List A} {v:Value} (h:Afq w S res v):Afq w' S' res v:=by
 match res,h with
 | [],h=>obtain ⟨vs,h1,h2⟩:=h;exact ⟨vs,h1,h2.imp fun _ _=>Em.mono hS hw⟩
 | [x],h=>exact Em.mono hS hw h
 | x::y::l,h=>obtain ⟨vs,h1,h2⟩:=h;exact ⟨vs,h1,h2.imp fun _ _=>Em.mono hS hw⟩
theorem CVF.cv {args res:List A} (h:CVF P G f args res):CV P G f args res:=fun w S vs hg hlt ha =>
 (h w S vs hg hlt ha).mono fun e w' ⟨v,h1,h2,h3⟩=>⟨v,h1,h2.mono (fun t b hb=>⟨hb.1,.inr hb.2⟩) (fun _ _ _=>rfl),h3⟩
inductive AEq:A→A→Prop
 | one {d d':D} (h:TEq d d'):AEq (.one d) (.one d')
 | agg {ds ds':List D} (h:AV TEq ds ds'):AEq (.agg ds) (.agg ds')
theorem CVF.tags {args args' res:List A} (h:CVF P G f args res) (he:AV AEq args' args):CV P G f args' res:=fun w S vs hg hlt ha=>by
 have ha':AV (Em w (AnZ S)) args vs:=⟨he.1.symm.trans ha.1,fun j y v hy hv=>by
  obtain ⟨y',hy'⟩:∃ y',args'[j]?=some y':=⟨_,gE (by have:=(gS.1 hy).1;have:=he.1;omega)⟩
  have h1:=ha.2 j y' v hy' hv
  have h2:=he.2 j y' y hy' hy
  have hS:∀ t b,S t b→AnZ S t b:=fun t b hb=>by cases t <;> first|exact .inl hb|exact .inr hb
  cases h2 with
  | one h2=>exact h2.rel v (Bh.mono hS (fun _ _ _=>rfl) h1)
  | @agg ds ds' h2 =>
   obtain ⟨xs,rfl,h3⟩:=h1
   exact ⟨xs,rfl,h2.1.symm.trans h3.1,fun i d x hd hx=>by
    obtain ⟨c,hc⟩:∃ c,ds[i]?=some c:=⟨_,gE (by have:=(gS.1 hd).1;have:=h2.1;omega)⟩
    exact (h2.2 i c d hc hd).rel x (Bh.mono hS (fun _ _ _=>rfl) (h3.2 i c x hc hx))⟩⟩
 exact (h w (AnZ S) vs hg (fun t b hb=>hb.elim (hlt _ b) (hlt _ b)) ha').mono fun e w' ⟨v,h1,h2,h3⟩=>⟨v,h1,h2.mono (fun t b hb=>⟨hb.1,.inr hb.2⟩) (fun _ _ _=>rfl),h3⟩
def dI (z:Int):D:=.val (.int .i64 z)
def dB (b:Bool):D:=.val (.bool b)
def aI (z:Int):A:=.one (dI z)
def aB (b:Bool):A:=.one (dB b)
def Ba (t:Bool) (xs:List Int):D:=.row t 1 xs.length (xs.map dI)
def AN {α:Type} (f:α→List D) (l:List α):List D:=(l.map f).flatten
theorem EU {α:Type} (f:α→List D) (a b:List α):AN f (a++b)=AN f a++AN f b:=by simp [AN]
theorem AbM {α:Type} {f:α→List D} (hf:∀ x,(f x).length=s) (l:List α):(AN f l).length=l.length*s:=by
 induction l with
 | nil=>simp [AN]
 | cons x l ih =>
  simp only [AN,ce,fp,ak,bk] at ih ⊢
  rw [ih,hf,bh]
  omega
theorem Fv {α:Type} {f:α→List D} {s:Nat} (hf:∀ x,(f x).length=s):∀ {l:List α} {k:Nat} {x:α},l[k]?=some x→((AN f l).drop (k*s)).take s=f x
 | [],k,x,h=>by simp at h
 | y::l,0,x,h=>by
  simp only [gq,Option.some.injEq] at h
  subst h
  simp only [AN,ce,fp,gx,jq]
  rw [lj (by rw [hf];exact aa _),aq (by rw [hf];exact aa _)]
 | y::l,k+1,x,h=>by
  simp only [fg] at h
  have ih:=Fv hf h
  simp only [AN,ce,fp] at ih ⊢
  rw [←ih,show (k+1)*s=(f y).length+k*s by rw [hf,bh];omega,List.drop_append]
  rw [List.drop_of_length_le (by omega),ef]
  congr 2
  omega
theorem AbN {α:Type} {f:α→D} {l:List α} {k:Nat} {x:α} (h:l[k]?=some x):((l.map f).drop (k*1)).take 1=[f x]:=by
 rw [cq]
 have hk:=(gS.1 h).1
 rw [←List.map_drop,←List.map_take,du hk]
 have:l[k]=x:=(gS.1 h).2
 simp [this]
section
variable {P:Program} {G:World→Prop} {N:Nat} {ops:Array Oper} {o:Oper} {F:Frm} {H:List Ob} {Q:Te} {K:Frm→List Ob→Prop}
theorem AfK (h:Q .normal F H):Iz i Q (.exit i) F H:=by
 show (match Nat.beq i i with|true=>Q .normal F H|false=>Q (.exit i) F H)
 rw [eg]
 exact h
theorem AfL (hij:Nat.beq j i=false) (h:Q (.exit j) F H):Iz i Q (.exit j) F H:=by
 show (match Nat.beq j i with|true=>Q .normal F H|false=>Q (.exit j) F H)
 rw [hij]
 exact h
theorem Aoc {t:Tmp} {x:X} (hg:o.guard=some (j,want)) (hj:ops[j]?=some oj) (ht:oj.dst=some t) (hF:F t=.one (.d (.val (.bool bb)))) (hb:(bb == want)=true) (h:TOk P G o F H x H2) (k:Ti P G ops l (F.put o.dst x) H2 K):Ti P G ops (o::l) F H K :=
 .inr ⟨by unfold CB;rw [hg];exact ⟨oj,t,hj,ht,.inl ⟨bb,hF,hb.symm⟩⟩,x,H2,h,k⟩
theorem Aod {t:Tmp} {x:X} {obs:List Ob} (hg:o.guard=some (j,want)) (hj:ops[j]?=some oj) (ht:oj.dst=some t) (hF:F t=.one (.d (.val (.bool bb)))) (hb:(bb == want)=true) (h:Bb P G o F H x obs) (k:Ch P G ops l (F.put o.dst x) (H++obs) K):Ch P G ops (o::l) F H K :=
 .inr ⟨by unfold CB;rw [hg];exact ⟨oj,t,hj,ht,.inl ⟨bb,hF,hb.symm⟩⟩,x,obs,h,k⟩
theorem Aoe {t:Tmp} (hg:o.guard=some (j,want)) (hj:ops[j]?=some oj) (ht:oj.dst=some t) (hF:F t=.one (.d (.val (.bool bb)))) (hb:(bb == want)=false):CB ops o F false:=by unfold CB;rw [hg];exact ⟨oj,t,hj,ht,.inl ⟨bb,hF,hb.symm⟩⟩
theorem AbO {t:Tmp} (hg:o.guard=some (j,want)) (hj:ops[j]?=some oj) (ht:oj.dst=some t) (hF:F t=.tup []):CB ops o F false:=by unfold CB;rw [hg];exact ⟨oj,t,hj,ht,.inr ⟨hF,rfl⟩⟩
theorem Akj (hw:CB ops o F false) (hd:o.dst=some d) (k:Ti P G ops l (F.put (some d) (.tup [])) H K):Ti P G ops (o::l) F H K:=.inl ⟨hw,by rw [congrArg (fun q=>F.put q (X.tup [])) hd];exact k⟩
theorem Akk (hw:CB ops o F false) (hd:o.dst=some d) (k:Ch P G ops l (F.put (some d) (.tup [])) H K):Ch P G ops (o::l) F H K:=.inl ⟨hw,by rw [congrArg (fun q=>F.put q (X.tup [])) hd];exact k⟩
theorem Zs (h:p:=by
 rw [congrArg (fun q=>F.put q x) hd]
 exact k):p:=h
theorem ArG {x:X} (hg:o.guard=none) (hd:o.dst=some d) (h:Bb P G o F H x []) (k:Ti P G ops l (F.put (some d) x) H K):Ti P G ops (o::l) F H K:=by
 refine AnE hg h ?_
 exact Zs
theorem ti_n {x:X} (hg:o.guard=none) (hd:o.dst=some d) (h:Bb P G o F H x [ob]) (k:Ti P G ops l (F.put (some d) x) (H++[ob]) K):Ti P G ops (o::l) F H K:=by
 refine AnC hg h ?_
 exact Zs
theorem ti_s {x:X} (hg:o.guard=none) (hd:o.dst=none) (h:TOk P G o F H x H2) (k:Ti P G ops l F H2 K):Ti P G ops (o::l) F H K:=by
 have hp:F.put o.dst x=F:=by rw [hd];rfl
 refine RP hg h ?_
 rw [hp]
 exact k
theorem ti_t {x:X} (hg:o.guard=none) (hd:o.dst=some d) (h:TOk P G o F H x H2) (k:Ti P G ops l (F.put (some d) x) H2 K):Ti P G ops (o::l) F H K:=by
 refine RP hg h ?_
 exact Zs
theorem ArH {x:X} (hg:o.guard=none) (hd:o.dst=some d) (h:Bb P G o F H x []) (k:Ch P G ops l (F.put (some d) x) H K):Ch P G ops (o::l) F H K:=by
 refine AfB hg h ?_
 exact Zs
theorem ch_n {x:X} (hg:o.guard=none) (hd:o.dst=some d) (h:Bb P G o F H x [ob]) (k:Ch P G ops l (F.put (some d) x) (H++[ob]) K):Ch P G ops (o::l) F H K:=by
 refine AjT hg h ?_
 exact Zs
theorem Xu {x:Operand} {c:C} (ho:o.op=.move x) (hx:F.ev x=.one c):Bb P G o F H (.one c) []:=by rw [←hx];exact Abw ho
theorem Aof {x:Operand} {l:List A} (ho:o.op=.move x) (hx:F.ev x=.tup l):Bb P G o F H (.tup l) []:=by rw [←hx];exact Abw ho
theorem Xv {x:Operand} {c:C} (ho:o.op=.assign x) (hx:F.ev x=.one c):Bb P G o F H (.one c) []:=by rw [←hx];exact Abx ho
theorem Aog {x:Operand} {l:List A} {d:D} (ho:o.op=.extract x i) (hx:F.ev x=.tup l) (hy:l[i]?=some (.one d)):Bb P G o F H (.one (.d d)) []:=QQ ho hx hy
theorem Nz {x:Operand} {l:List A} {ds:List D} (ho:o.op=.extract x i) (hx:F.ev x=.tup l) (hy:l[i]?=some (.agg ds)):Bb P G o F H (.agg (ds.map .d)) []:=QQ ho hx hy
theorem AfM {c x:Operand} {v:C} (ho:o.op=.pick c x y) (hc:F.ev c=.one (.d (.val (.bool true)))) (hx:F.ev x=.one v):Bb P G o F H (.one v) []:=by
 have:=AbA (P:=P) (G:=G) (H:=H) ho hc
 dsimp only at this
 rwa [hx] at this
theorem AfN {c x:Operand} {v:C} (ho:o.op=.pick c x y) (hc:F.ev c=.one (.d (.val (.bool false)))) (hx:F.ev y=.one v):Bb P G o F H (.one v) []:=by
 have:=AbA (P:=P) (G:=G) (H:=H) ho hc
 dsimp only at this
 rwa [hx] at this
theorem ArI {t:Tmp} {x:X} (hg:o.guard=some (j,want)) (hd:o.dst=some d) (hj:ops[j]?=some oj) (ht:oj.dst=some t) (hF:F t=.one (.d (.val (.bool bb)))) (hb:(bb == want)=true) (h:Bb P G o F H x []) (k:Ti P G ops l (F.put (some d) x) H K):Ti P G ops (o::l) F H K:=by
 have h':=h.tok
 rw [az] at h'
 refine Aoc hg hj ht hF hb h' ?_
 exact Zs
theorem ArJ {t:Tmp} {x:X} (hg:o.guard=some (j,want)) (hd:o.dst=some d) (hj:ops[j]?=some oj) (ht:oj.dst=some t) (hF:F t=.one (.d (.val (.bool bb)))) (hb:(bb == want)=true) (h:Bb P G o F H x []) (k:Ch P G ops l (F.put (some d) x) H K):Ch P G ops (o::l) F H K:=by
 refine Aod hg hj ht hF hb h ?_
 rw [congrArg (fun q=>F.put q x) hd,az]
 exact k
theorem Bb.tok0 {x:X} (h:Bb P G o F H x []):TOk P G o F H x H:=by
 have:=h.tok
 rwa [az] at this
section
variable {t t':TypeId} {x y:Operand} {k:IntKind} {p q:Int} {b:Bool}
theorem Akl (ho:o.op=.binOp .eql t x y t') (hx:F.ev x=.one (.d (.val (.int k p)))) (hy:F.ev y=.one (.d (.val (.int k q)))) (hb:(p == q)=b):Bb P G o F H (.one (.d (.val (.bool b)))) []:=hb ▸ AnM ho hx hy
theorem Akm (ho:o.op=.binOp .neq t x y t') (hx:F.ev x=.one (.d (.val (.int k p)))) (hy:F.ev y=.one (.d (.val (.int k q)))) (hb:(p != q)=b):Bb P G o F H (.one (.d (.val (.bool b)))) []:=hb ▸ AnN ho hx hy
theorem Akn (ho:o.op=.binOp .lss t x y t') (hx:F.ev x=.one (.d (.val (.int k p)))) (hy:F.ev y=.one (.d (.val (.int k q)))) (hb:decide (p<q)=b):Bb P G o F H (.one (.d (.val (.bool b)))) []:=hb ▸ AhZ ho hx hy
theorem Ako (ho:o.op=.binOp .leq t x y t') (hx:F.ev x=.one (.d (.val (.int k p)))) (hy:F.ev y=.one (.d (.val (.int k q)))) (hb:decide (p≤q)=b):Bb P G o F H (.one (.d (.val (.bool b)))) []:=hb ▸ AnO ho hx hy
theorem AbP (ho:o.op=.binOp .gtr t x y t') (hx:F.ev x=.one (.d (.val (.int k p)))) (hy:F.ev y=.one (.d (.val (.int k q)))) (hb:decide (q<p)=b):Bb P G o F H (.one (.d (.val (.bool b)))) []:=hb ▸ AnP ho hx hy
theorem Akp (ho:o.op=.binOp .geq t x y t') (hx:F.ev x=.one (.d (.val (.int k p)))) (hy:F.ev y=.one (.d (.val (.int k q)))) (hb:decide (q≤p)=b):Bb P G o F H (.one (.d (.val (.bool b)))) []:=hb ▸ AnQ ho hx hy
end
theorem TP {p:Int} (h:p=q):(p == q)=true:=by rw [h];exact beq_self_eq_true q
theorem VJ {p:Int} (h:p≠q):(p == q)=false:=beq_eq_false_iff_ne.2 h
theorem Li {p:Int} (h:p≠q):(p != q)=true:=by simp [bne,VJ h]
theorem Qt {p:Int} (h:p=q):(p != q)=false:=by simp [bne,TP h]
theorem AfO {p:Prop} [Decidable p] (h:p):decide p=true:=decide_eq_true h
theorem AfP {p:Prop} [Decidable p] (h:¬ p):decide p=false:=decide_eq_false h
theorem Ax {res:List A} {rs:List ResultVar} (hr:fn.results.toList=rs) (h:AV (RV P F H) rs res):AnK P fn res .ret F H:=⟨.inl rfl,by rw [hr];exact h⟩
theorem QX {t:Tmp} {z':Int} (hF:F t=.one (.d (.val (.int .i64 z)))) (hz:z=z'):RV P F H (.tmp t) (aI z'):=.tmp (by rw [hF,hz];exact .one (.d fun _=>.val _))
theorem DJ {t:Tmp} {z z':Bool} (hF:F t=.one (.d (.val (.bool z)))) (hz:z=z'):RV P F H (.tmp t) (aB z'):=.tmp (by rw [hF,hz];exact .one (.d fun _=>.val _))
end
section
variable {P:Program} {G:World→Prop} {o:Oper} {F:Frm} {H:List Ob}
theorem TQ {x:Operand} {k:Nat} {cy:List C} {b:Bool} (ho:o.op=.store t x y) (hx:F.ev x=.one (.ref id off kk)) (hH:H[id]?=some ob) (hk:ob.k=some kk) (hy:Fm (F.ev y)=some cy) (hty:TyK P t b k) (hlen:Nat.beq cy.length k=true) (hoff:off+cy.length≤ob.cs.length) :
  TOk P G o F H .any (H.set id (ob.setC (ob.cs.take off++cy++ob.cs.drop (off+cy.length)))):=by
 have hlen:=dz hlen
 subst hlen
 exact Xr ho hx hH hk hy hty hoff
theorem TR {e:TypeId} {x:Operand} {tg:Bool} {cs es:List D} {k:IntKind} (ho:o.op=.indexAddr t x y) (hx:F.ev x=.one (.d (.row tg s n cs))) (hy:F.ev y=.one (.d (.val (.int k z)))) (hz:z=(i:Int)) (ht:TyS P t e s) (hi:i<n) (hs:0<s) (hes:(cs.drop (i*s)).take s=es):Bb P G o F H (.one (.d (.ptr tg es))) []:=by
 subst hz
 exact Ny ho hx hy ht .row hi hs (.row hes)
theorem Fw {e:TypeId} {x:Operand} {cs:List C} {k:IntKind} (ho:o.op=.indexAddr t x y) (hx:F.ev x=.one (.own id n)) (hH:H[id]?=some (.row ty s n cs)) (hy:F.ev y=.one (.d (.val (.int k z)))) (hz:z=(i:Int)) (ht:TyS P t e s) (hi:i<n) (hs:0<s):Bb P G o F H (.one (.ref id (i*s) (some n))) []:=by
 subst hz
 exact Ny ho hx hy ht (.own hH) hi hs (.own hH)
theorem Aoh {x:Operand} {k:Nat} (ho:o.op=.load t x) (hx:F.ev x=.one (.ref id (i*1) (some n))) (hH:H[id]?=some (.row ty s n (cI xs))) (hz:xs[i]?=some z) (hk:TyK P t false k):Bb P G o F H (.one (.d (.val (.int .i64 z)))) [] :=
 Oc ho hx (.row hH) (ArF hz) hk
theorem Pm {x:Operand} {b:Bool} (ho:o.op=.store t x y) (hx:F.ev x=.one (.ref id (i*1) (some n))) (hH:H[id]?=some (.row ty s n (cI xs))) (hy:F.ev y=.one (.d (.val (.int .i64 z)))) (hty:TyK P t b 1) (hi:i<xs.length) {ys:List Int} (hys:xs.set i z=ys):TOk P G o F H .any (H.set id (.row ty s n (cI ys))):=by
 have:=GJ (P:=P) (G:=G) ho hx hH rfl hy hty (by simp [Ob.cs,AnW,hi])
 simp only [Ob.cs,Ob.setC,AnX,hys] at this
 exact this
theorem LP {e:TypeId} {x:Operand} {id':Nat} {ty':TypeId} {z:Value} {ys:List Int} {u:Int} {n':Nat} (ho:o.op=.call { callee:=.builtin .append,args:=#[x,y],argTypes:=#[t,t] }) (hx:F.ev x=.one (.own id n)) (hH:H[id]?=some (.row e 1 n (cI xs))) (hy:F.ev y=.one (.own id' 1)) (hH':H[id']?=some (.row ty' 1 1 [.d (.val (.int .i64 u))])) (hne:Nat.beq id' id=false) (ht:TyS P t e 1) (hz:TyZ P e z 1 by_) (hn:n+1≤100000000000) (hby:by_≤1000) (hys:xs++[u]=ys) (hn':n+1=n'):TOk P G o F H (.one (.own id n')) (H.set id (.row e 1 n' (cI ys))):=by
 subst hys
 subst hn'
 have:=OV (P:=P) (G:=G) ho hx hH hy (.own hH' (fun h=>by rw [h,eg] at hne;cases hne)) ht hz hn (by omega) hby rfl
 rwa [AnY] at this
end
section
variable {P:Program} {G:World→Prop} {o:Oper} {F:Frm} {H:List Ob}
theorem Bj {e:TypeId} {x:Operand} {z:Value} {cs:List C} (ho:o.op=.buildSlice t 1 #[(0,x)]) (ht:TyS P t e s) (hz:TyZ P e z s by_) (hx:Fm (F.ev x)=some cs) (hcs:Nat.beq cs.length s=true) (hs:s≤1000) (h0:0<s):Bb P G o F H (.one (.own H.length 1)) [.row e s 1 cs]:=by
 have hc:=dz hcs
 have hl:(Ex (madeCells z.cells (1*s)).toList).length=s:=by simp [Ex,madeCells]
 refine Ey (ps:=[(0,cs)]) ho ht hz (by omega) (by decide) (by simp [IA,hx]) ?_ (by omega) h0
 unfold GC
 simp only [hcs,gx,bc,hc,hl,GC]
 rw [show Nat.ble s s=true from Nat.ble_eq ▸ aa _,show Nat.beq s s=true from eg _]
 simp only [gy,ef,gl (gf hl),az]
theorem FV {e:TypeId} {x:Operand} {z:Value} {cs cs':List C} (ho:o.op=.buildSlice t 2 #[(0,x),(1,y)]) (ht:TyS P t e s) (hz:TyZ P e z s by_) (hx:Fm (F.ev x)=some cs) (hy:Fm (F.ev y)=some cs') (hcs:Nat.beq cs.length s=true) (hcs':Nat.beq cs'.length s=true) (hs:s≤1000) (h0:0<s):Bb P G o F H (.one (.own H.length 2)) [.row e s 2 (cs++cs')]:=by
 have hc:=dz hcs
 have hc':=dz hcs'
 have hl:(Ex (madeCells z.cells (2*s)).toList).length=2*s:=by simp [Ex,madeCells]
 refine Ey (ps:=[(0,cs),(1,cs')]) ho ht hz (by omega) (by decide) (by simp [IA,hx,hy]) ?_ (by simp;omega) h0
 unfold GC
 simp only [gx,bc,hc,hl,gy,ef]
 rw [show Nat.ble s (2*s)=true from Nat.ble_eq ▸ (by omega),show Nat.beq s s=true from eg _]
 simp only []
 unfold GC
 simp only [Nat.one_mul,hc',ak,iv,hc,hl]
 rw [show Nat.ble (s+s) (s+(2*s - s))=true from Nat.ble_eq ▸ (by omega),show Nat.beq s s=true from eg _]
 simp only [GC]
 have hX:(List.drop s (Ex (madeCells z.cells (2*s)).toList)).length=s:=by rw [iv,hl];omega
 rw [gl (i:=s+s) (h:=by rw [ak,hX];omega),az,lj (by omega),aq (by omega)]
theorem Gx {e:TypeId} {x:Operand} {id' m' n':Nat} {ty':TypeId} {z:Value} {cs news cs2:List C} (ho:o.op=.call { callee:=.builtin .append,args:=#[x,y],argTypes:=#[t,t] }) (hx:F.ev x=.one (.own id n)) (hH:H[id]?=some (.row e s n cs)) (hy:F.ev y=.one (.own id' m')) (hH':H[id']?=some (.row ty' s m' news)) (hne:Nat.beq id' id=false) (ht:TyS P t e s) (hz:TyZ P e z s by_) (hn:n+m'≤100000000000) (hby:by_≤1000) (h0:0<s) (hl:Nat.beq news.length (m'*s)=true) (hys:cs++news=cs2) (hn':n+m'=n'):TOk P G o F H (.one (.own id n')) (H.set id (.row e s n' cs2)):=by
 subst hys
 subst hn'
 exact OV ho hx hH hy (.own hH' (fun h=>by rw [h,eg] at hne;cases hne)) ht hz hn h0 hby (dz hl)
theorem AfQ {e:TypeId} {x:Operand} {k k':IntKind} (ho:o.op=.makeSlice t x y) (hx:F.ev x=.one (.d (.val (.int k (n:Int))))) (hy:F.ev y=.one (.d (.val (.int k' (n:Int))))) (ht:TyS P t e 1) (hz:TyZ P e (.int .i64 0) 1 by_) (hn:n≤1000000) (hby:by_≤1000) :
  Bb P G o F H (.one (.own H.length n)) [.row e 1 n (cI (List.replicate n 0))]:=by
 have:=BP (P:=P) (G:=G) (H:=H) ho hx hy ht hz hn hby
 rwa [Akg] at this
end
theorem AX:prog.follows .mixedOrders=true:=by kernel_rfl
section
variable {α β:Type} {R:α→β→Prop} {t:Bool} {H:List Ob}
theorem BG {l:List α} {m:List β} {a:α} {b:β} {aS':List α} {bs':List β} (h1:l=a::aS') (h2:m=b::bs') (h:R a b) (hl:AV R aS' bs'):AV R l m:=by rw [h1,h2];exact AV.cons_ h hl
theorem CF {l:List α} {m:List β} (h1:l=[]) (h2:m=[]):AV R l m:=by rw [h1,h2];exact AV.nil_
theorem GO {x:X} {y:A} {c:C} {d:D} (hx:x=.one c) (hy:y=.one d) (h:Gj t H c d):Ik t H x y:=by rw [hx,hy];exact .one h
theorem EV {x:X} {y:A} {cs:List C} {ds:List D} (hx:x=.agg cs) (hy:y=.agg ds) (h:AV (Gj t H) cs ds):Ik t H x y:=by rw [hx,hy];exact .agg h
theorem CA {c:C} {x:D} (hc:c=.d x) (h:t=false→Dg x):Gj t H c x:=by rw [hc];exact .d h
theorem Fx {c:C} {y:D} {t':Bool} (hc:c=.d (.val (.slice none 0 0))) (hy:y=.row t' s 0 []):Gj t H c y:=by rw [hc,hy];exact .nil
theorem Ej {c:C} {y:D} {ty:Nat} {cs:List C} {ds:List D} (hc:c=.own id n) (hH:H[id]?=some (.row ty s n cs)) (hy:y=.row t s n ds) (h:AV (Gj t H) cs ds):Gj t H c y:=by rw [hc,hy];exact .own hH h.1 h.2
end
structure FnOk (P:Program) (f:FuncId):Prop where
 h : ∃ fn c, P.funcs[f]? = some fn ∧ (fn.name == "runtime.NumGoroutine") = false ∧ fn.body = some c
section
variable {P:Program} {G:World→Prop} {o:Oper} {F:Frm} {H:List Ob}
theorem ArK {xs:Array Operand} {ts:Array TypeId} {args res:List A} {x:X} (hf:FnOk P f) (h:CV P G f args res) (ho:o.op=.call { callee:=.value (.func f),args:=xs,argTypes:=ts }) (ha:AV (fun x y=>Ik true H (F.ev x) y) xs.toList args) (hx:Aka res=x):Bb P G o F H x []:=by
 obtain ⟨fn,c,h1,h2,h3⟩:=hf.h
 rw [←hx]
 exact Akb ho h1 h2 h3 h ha
end
def C.belB (n:Nat):C→Bool
 | .d _=>true
 | .own id _=>Nat.ble (id+1) n
 | .ref id _ _=>Nat.ble (id+1) n
 | .clo _ caps=>caps.all fun p=>Nat.ble (p.1+1) n
 | .emp=>true
def X.belB (n:Nat):X→Bool
 | .one c=>c.belB n
 | .agg cs=>cs.all (C.belB n)
 | .tup _=>true
 | .any=>true
 | .pin l=>l.all fun p=>Nat.ble (p.1+1) n
 | .tupC _=>false
theorem AbQ {c:C} (h:c.belB n=true):c.bel n:=by
 cases c with
 | d x=>trivial
 | own id k=>exact bf h
 | ref id off k=>exact bf h
 | clo fn caps=>exact fun p hp=>bf (List.all_eq_true.1 h p hp)
 | emp=>trivial
theorem Aoi {x:X} (h:x.belB n=true):x.bel n:=by
 cases x with
 | one c=>exact AbQ h
 | agg cs=>exact fun c hc=>AbQ (List.all_eq_true.1 h c hc)
 | tup l=>trivial
 | any=>trivial
 | pin l=>exact fun p hp=>bf (List.all_eq_true.1 h p hp)
 | tupC l=>cases h
def TT (F:Frm) (n:Nat):List (Nat × X)→Prop
 | []=>True
 | (s,x)::l=>F s=x∧x.belB n=true∧TT F n l
theorem Xw {F:Frm} {n:Nat}:∀ {l:List (Nat × X)},TT F n l→Xs F n l
 | [],_=>trivial
 | (s,x)::l,h=>⟨h.1,Aoi h.2.1,Xw h.2.2⟩
def Are (n:Nat):List Ob→Prop
 | []=>True
 | ob::l=>(∀ c∈ob.cs,C.bel n c)∧Are n l
theorem AbR {n:Nat}:∀ {l:List Ob},Are n l→∀ ob∈l,∀ c∈ob.cs,C.bel n c
 | [],_,ob,h=>by cases h
 | o::l,h,ob,hm=>by
  rcases List.mem_cons.1 hm with rfl|hm
  ·exact h.1
  ·exact AbR h.2 ob hm
theorem Dl {cs:List C} (h:cs.all (C.belB n)=true):∀ c∈cs,C.bel n c:=fun c hc=>AbQ (List.all_eq_true.1 h c hc)
theorem TU:∀ c∈cI xs,C.bel n c:=fun c hc=>by obtain ⟨z,_,rfl⟩:=List.mem_map.1 hc;trivial
theorem ArL {ds:List D}:∀ c∈ds.map C.d,C.bel n c:=fun c hc=>by obtain ⟨z,_,rfl⟩:=List.mem_map.1 hc;trivial
theorem Qu (l:List (Nat × X)) (n:Nat) (hH:H.take n=H') (h:TT F n l) (hb:Are n H'):Wk N F H (ofL l) H':=by
 subst hH
 exact ArE l n (Xw h) (AbR hb)
theorem BE {l:List (Nat × X)} (n:Nat) (hH:H.take n=H':=by rfl) (h:TT F n l:=by exact mB rfl rfl) (hb:Are n H':=by repeat' first|exact trivial|exact Dl rfl|exact TU|exact AoT|exact Aly|exact ArL|exact bel_kWs|exact Aii|exact AcW|refine ⟨?_,?_⟩):Wk N F H (ofL l) H':=Qu l n hH h hb
section
variable (P:Program) (G:World→Prop) (ops:Array Oper)
def Ch2:List Oper→Frm→List Ob→List Ob→(Frm→Prop)→Prop
 | [],F,_,_,K=>K F
 | o::l,F,H,H',K=>(CB ops o F false∧Ch2 l (F.put o.dst (.tup [])) H H' K)∨(CB ops o F true∧∃ x,Bb P G o F H x []∧Bb P G o F H' x []∧Ch2 l (F.put o.dst x) H H' K)
end
section
variable {P:Program} {G:World→Prop} {ops:Array Oper}
theorem Aic {K:Frm→Prop} (h:K F):Ch2 P G ops [] F H H' K:=h
theorem Sb {K:Frm→Prop} {x:X} (hg:o.guard=none) (hd:o.dst=some d) (h:Bb P G o F H x []) (h':Bb P G o F H' x []) (k:Ch2 P G ops l (F.put (some d) x) H H' K):Ch2 P G ops (o::l) F H H' K :=
 .inr ⟨by unfold CB;rw [hg],x,h,h',by rw [congrArg (fun q=>F.put q x) hd];exact k⟩
theorem Ch2.seq:∀ {l:List Oper} {F:Frm} {H H':List Ob} {K:Frm→Prop},Ch2 P G ops l F H H' K →
  ∃ (Fs:Nat→Frm) (xs:Nat→X),Fs 0=F∧K (Fs l.length)∧∀ (i:Nat) (o:Oper),l[i]?=some o→Fs (i+1)=(Fs i).put o.dst (xs i) ∧
   ((CB ops o (Fs i) false∧xs i=.tup [])∨(CB ops o (Fs i) true∧Bb P G o (Fs i) H (xs i) []∧Bb P G o (Fs i) H' (xs i) []))
 | [],F,H,H',K,h=>⟨fun _=>F,fun _=>.any,rfl,h,fun i o hi=>by simp at hi⟩
 | o::l,F,H,H',K,h=>by
  have key:∃ x,((CB ops o F false∧x=.tup [])∨(CB ops o F true∧Bb P G o F H x []∧Bb P G o F H' x []))∧Ch2 P G ops l (F.put o.dst x) H H' K:=by
   rcases h with ⟨h1,h2⟩|⟨h1,x,h2,h2',h3⟩
   ·exact ⟨.tup [],.inl ⟨h1,rfl⟩,h2⟩
   ·exact ⟨x,.inr ⟨h1,h2,h2'⟩,h3⟩
  obtain ⟨x,hx,hc⟩:=key
  obtain ⟨Fs,xs,h1,h3,h4⟩:=Ch2.seq hc
  refine ⟨fun i=>match i with|0=>F|i+1=>Fs i,fun i=>match i with|0=>x|i+1=>xs i,rfl,by simpa using h3,fun i o' hi=>?_⟩
  rcases i with _|i
  ·simp only [gq,Option.some.injEq] at hi
   subst hi
   exact ⟨h1,hx⟩
  ·simp only [fg] at hi
   exact h4 i o' hi
structure AfR (b0 N:Nat) (w0:World) (S0:SD) (ops:Array Oper) (Fs:Nat→Frm) (H H':List Ob) (s:Nat) (listed:Array Bool) (a:Act) (m:Mm):Prop where
 H:m.H=if listed.getD s true=true then H' else H
 cx:Cx b0 m
 tot:Tot m
 frame:∀ t,(∀ (i:Nat) (o:Oper),ops[i]?=some o→listed.getD i true=false→o.dst≠some t)→EH m (Fs ops.size t) (a.tmps.getD t undef)
 size:a.tmps.size=N
 defers:a.defers=S0.ds
 below:Below b0 w0 m.w
 base:b0≤w0.heap.size
 S:∀ b,m.S false b→S0 false b∨b0≤b
 T:m.S true=S0 true
 ls:listed.size=ops.size
theorem AfS {b0:Nat} {w0:World} {S0:SD} (hG:∀ w',Below b0 w0 w'→G w') {md:Region.Mode} {Q:Exit→Act→World→Prop} (hC:Qr md ops=true) (hd:NP N ops.toList=true)
  {Fs:Nat→Frm} {H H':List Ob} {xs:Nat→X} {s:Nat} (hss:s<ops.size)
  (hs:∀ (i:Nat) (o:Oper),ops[i]?=some o→Fs (i+1)=(Fs i).put o.dst (xs i)∧((CB ops o (Fs i) false∧xs i=.tup []∧i≠s)∨(CB ops o (Fs i) true∧((i≠s∧TOk P G o (Fs i) H (xs i) H∧TOk P G o (Fs i) H' (xs i) H')∨(i=s∧TOk P G o (Fs i) H (xs i) H')))))
  (hq:∀ a m,m.H=H'→St b0 N w0 S0 (Fs ops.size) a m→Q .normal a m.w) :
  ∀ (f:Nat) (listed:Array Bool) (a:Act) (m:Mm),AfR b0 N w0 S0 ops Fs H H' s listed a m→Abt listed≤f→wpAny P md ops Q f listed a m.w:=by
 have opAt:∀ i,i<ops.size→∃ o,ops[i]?=some o:=fun i hi=>⟨_,gn hi⟩
 have keep:∀ t d i,i+d≤ops.size→(∀ (k:Nat) (o:Oper),i≤k→k<i+d→ops[k]?=some o→o.dst≠some t)→Fs (i+d) t=Fs i t:=fun t d=>by
  induction d with
  | zero=>intro i _ _;rfl
  | succ d ih =>
   intro i hi hk
   obtain ⟨o,ho⟩:=opAt (i+d) (by omega)
   rw [show i+(d+1)=i+d+1 by omega,(hs _ o ho).1,FR,if_neg (hk (i+d) o (by omega) (by omega) ho)]
   exact ih i (by omega) fun k o' h1 h2=>hk k o' h1 (by omega)
 have look:∀ i o t,ops[i]?=some o→t∈o.looksAt ops→Fs ops.size t=Fs i t:=fun i o t ho ht=>by
  have hi:=(Array.getElem?_eq_some_iff.1 ho).1
  have:=keep t (ops.size - i) i (by omega) fun k o' h1 _ hk hdst=>by
   have:=((CZ hC ho).2 k o' t hk hdst).1 ht
   omega
  rwa [show i+(ops.size - i)=ops.size by omega] at this
 have out:∀ i o t,ops[i]?=some o→o.dst=some t→Fs ops.size t=xs i:=fun i o t ho ht=>by
  have hi:=(Array.getElem?_eq_some_iff.1 ho).1
  have:=keep t (ops.size - (i+1)) (i+1) (by omega) fun k o' h1 _ hk hdst=>((CZ hC ho).2 k o' t hk hdst).2 (by omega) ht
  rw [show i+1+(ops.size - (i+1))=ops.size by omega,(hs i o ho).1,FR,if_pos ht] at this
  exact this
 have fin:∀ (listed:Array Bool) (a:Act) (m:Mm),AfR b0 N w0 S0 ops Fs H H' s listed a m→Region.ready md ops listed=[]→Q .normal a m.w:=fun listed a m inv hr=>by
  have all:∀ i,i<ops.size→listed.getD i true=true:=by
   intro i
   induction i using Nat.strongRecOn with
   | _ i ih =>
    intro hi
    cases hl:listed.getD i true with
    | true=>rfl
    | false =>
     exfalso
     obtain ⟨o,ho⟩:=opAt i hi
     have:i∈Region.ready md ops listed:=mem_ready.2 ⟨hl,o,ho,fun e he hb=>by
      have hlt:=(CZ hC ho).1 e he hb
      have:=ih e.on hlt (by omega)
      have hsz:=inv.ls
      rw [←DZ (by omega)]
      exact this⟩
     rw [hr] at this
     cases this
  refine hq a m (by rw [inv.H,if_pos (all s hss)]) ⟨inv.cx,inv.tot,fun t=>inv.frame t fun i o ho hl=>?_,inv.size,inv.defers,inv.below,inv.base,inv.S,inv.T⟩
  have:=all i (Array.getElem?_eq_some_iff.1 ho).1
  rw [hl] at this
  cases this
 have next:∀ (listed:Array Bool) (i:Nat) (a:Act) (m:Mm),AfR b0 N w0 S0 ops Fs H H' s listed a m→i∈Region.ready md ops listed→∀ K:Act→World→Prop,
   (∀ a' m',AfR b0 N w0 S0 ops Fs H H' s (listed.setIfInBounds i true) a' m'→K a' m'.w)→wpOp P ops Q i K a m.w:=fun listed i a m inv hr K hK=>by
  obtain ⟨hun,o,ho,hall⟩:=mem_ready.1 hr
  have hi:=(Array.getElem?_eq_some_iff.1 ho).1
  have hd0:∀ d,o.dst=some d→d<N:=OJ hd (by simpa using ld ho)
  have getSet:∀ j,j≠i→(listed.setIfInBounds i true).getD j true=listed.getD j true:=fun j hj=>getD_set_ne true (Ne.symm hj)
  have getSame:(listed.setIfInBounds i true).getD i true=true:=by simp [Array.getD,inv.ls,hi]
  have hlook:∀ t∈o.looksAt ops,EH m (Fs i t) (a.tmps.getD t undef):=fun t ht=>by
   rw [←look i o t ho ht]
   refine inv.frame t fun k ok hok hkl hdst=>?_
   obtain ⟨h1,e,he,hb,hon⟩:=((CZ hC ho).2 k ok t hok hdst).1 ht
   have h2:=hall e he hb
   rw [hon] at h2
   have hsz:=inv.ls
   rw [←DZ (by have:=(Array.getElem?_eq_some_iff.1 hok).1;omega),hkl] at h2
   cases h2
  have reFrame:∀ (m':Mm) (v:Value),Le m m'→EH m' (xs i) v→∀ t,(∀ (k:Nat) (ok:Oper),ops[k]?=some ok→(listed.setIfInBounds i true).getD k true=false→ok.dst≠some t)→EH m' (Fs ops.size t) ((a.put o.dst v).tmps.getD t undef):=fun m' v hle hv t ht=>by
   rw [LG inv.size hd0]
   split
   ·rename_i hdst
    rw [out i o t ho hdst]
    exact hv
   ·rename_i hdst
    refine (inv.frame t fun k ok hok hkl=>?_).le hle
    by_cases hki:k=i
    ·subst hki
     rw [ho] at hok
     cases hok
     exact hdst
    ·exact ht k ok hok (by rw [getSet k hki];exact hkl)
  obtain ⟨hF,hcase⟩:=hs i o ho
  unfold wpOp
  simp only [ho]
  rcases hcase with ⟨hw,hx,his⟩|⟨hw,hok⟩
  ·rw [if_neg (by rw [hw.is (m:=m) (tmps:=a.tmps) hlook];simp)]
   exact hK _ m ⟨by rw [getSet s (fun h=>his h.symm)];exact inv.H,inv.cx,inv.tot,reFrame m undef (Le.refl m) (by rw [hx];exact ⟨[],rfl,.nil_⟩),by rw [Ea];exact inv.size,by rw [Cy];exact inv.defers,inv.below,inv.base,inv.S,inv.T,by simp [inv.ls]⟩
  ·rw [if_pos (hw.is (m:=m) (tmps:=a.tmps) hlook)]
   have go:∀ (H1 H2:List Ob),m.H=H1→(H2=if (listed.setIfInBounds i true).getD s true=true then H' else H)→TOk P G o (Fs i) H1 (xs i) H2→(o.wp P a m.w K Q):=fun H1 H2 e1 e2 ht=>by
    refine ht b0 m a e1 inv.cx inv.tot (hG _ inv.below) (lT inv.base inv.below.size) (fun t ht=>hlook t (LH ht)) _ _ fun v m' hH hx ht' hle hb hS hv=>?_
    exact hK _ m' ⟨by rw [hH,e2],hx,ht',reFrame m' v hle hv,by rw [Ea];exact inv.size,by rw [Cy];exact inv.defers,inv.below.trans hb,inv.base,fun b hb'=>(hS b hb').elim (inv.S b) .inr,hle.T.trans inv.T,by simp [inv.ls]⟩
   refine .inl ?_
   rcases hok with ⟨his,h1,h2⟩|⟨his,h1⟩
   ·by_cases hl:listed.getD s true=true
    ·exact go H' H' (by rw [inv.H,if_pos hl]) (by rw [getSet s (fun h=>his h.symm),if_pos hl]) h2
    ·exact go H H (by rw [inv.H,if_neg hl]) (by rw [getSet s (fun h=>his h.symm),if_neg hl]) h1
   ·subst his
    exact go H H' (by rw [inv.H,hun];simp) (by rw [getSame];simp) h1
 intro f
 induction f with
 | zero =>
  intro listed a m inv hc
  have hr:Region.ready md ops listed=[]:=by
   cases hr:Region.ready md ops listed with
   | nil=>rfl
   | cons i r =>
    have h1:=(mem_ready.1 (show i∈Region.ready md ops listed by rw [hr];simp)).1
    have:=Hq h1
    omega
  exact ⟨hr,fin listed a m inv hr⟩
 | succ f ih =>
  intro listed a m inv hc
  refine ⟨fun hr=>fin listed a m inv hr,fun i hi=>next listed i a m inv hi _ fun a' m' inv'=>ih _ a' m' inv' ?_⟩
  have:=Hq (mem_ready.1 hi).1
  omega
end
section
variable {P:Program} {G:World→Prop} {N:Nat} {F:Frm} {H:List Ob} {Q:Te}
theorem ArM (s:Nat) (H':List Ob) (hm:P.follows .mixedOrders=true) (hB:(NP N l && Qr .any (l.take (s+1)).toArray && MM .any l.toArray (s+1))=true)
  (h:Ch2 P G (l.take (s+1)).toArray (l.take s) F H H' fun F'=>∃ o x,l[s]?=some o∧o.dst=none∧o.guard=none∧TOk P G o F' H x H'∧Ti P G l.toArray (l.drop (s+1)) F' H' (Q .normal)):CW P G N (.region id l.toArray true) F H Q:=fun b0 w0 S0 a m hG hH hs=>by
 subst hH
 simp only [ah] at hB
 obtain ⟨⟨hd,hC⟩,hp⟩:=hB
 have hd1:NP N (l.take (s+1))=true:=List.all_eq_true.2 fun o ho=>List.all_eq_true.1 hd o (dj ho)
 have hd2:NP N (l.drop (s+1))=true:=List.all_eq_true.2 fun o ho=>List.all_eq_true.1 hd o (kz ho)
 have hn:s+1<l.length:=by
  have:=hp
  simp only [MM,ah,decide_eq_true_eq,lg] at this
  exact this.1.1.1.1
 have hsz:(l.take (s+1)).toArray.size=s+1:=by simp;omega
 refine Iy (s+1) hm hp ?_
 obtain ⟨Fs,xs,h1,⟨o,x,ho,hdst,hgd,hT,hTi⟩,h4⟩:=h.seq
 have hls:(l.take s).length=s:=by simp;omega
 rw [hls] at hT hTi
 have hs':=hs.drew
 let Fs':Nat→Frm:=fun i=>if i≤s then Fs i else Fs s
 let xs':Nat→X:=fun i=>if i<s then xs i else x
 have hget:∀ i o',(l.take (s+1)).toArray[i]?=some o'→(i<s∧(l.take s)[i]?=some o')∨(i=s∧o'=o):=fun i o' hi=>by
  rw [li] at hi
  have hlt:=(gS.1 hi).1
  rw [lk (by simpa using al hlt (by simp;omega))] at hi
  rcases ba i s with h|h
  ·exact .inl ⟨h,by rw [lk h];exact hi⟩
  ·obtain rfl:i=s:=by simp at hlt;omega
   rw [ho] at hi
   cases hi
   exact .inr ⟨rfl,rfl⟩
 refine AfS (G:=G) (w0:=w0) (S0:=S0) (b0:=b0) hG hC (N:=N) (by simpa using hd1) (Fs:=Fs') (xs:=xs') (H:=m.H) (H':=H') (s:=s) (by rw [hsz];omega) (fun i o' hi=>?_) (fun a' m' hH' hst=>?_) (s+1) (Array.replicate (s+1) false) a { m with w:=m.w.drew } ?_ (by simp [Abt])
 ·rcases hget i o' hi with ⟨hlt,hg⟩|⟨rfl,rfl⟩
  ·obtain ⟨h5,h6⟩:=h4 i o' hg
   have e1:Fs' (i+1)=Fs (i+1):=if_pos (by omega)
   have e2:Fs' i=Fs i:=if_pos (by omega)
   have e3:xs' i=xs i:=if_pos hlt
   rw [e1,e2,e3]
   refine ⟨h5,?_⟩
   rcases h6 with ⟨h7,h8⟩|⟨h7,h8,h9⟩
   ·exact .inl ⟨h7,h8,by omega⟩
   ·exact .inr ⟨h7,.inl ⟨by omega,h8.tok0,h9.tok0⟩⟩
  ·have e1:Fs' (i+1)=Fs i:=if_neg (by omega)
   have e2:Fs' i=Fs i:=if_pos (aa _)
   have e3:xs' i=x:=if_neg (by omega)
   rw [e1,e2,e3,hdst]
   exact ⟨rfl,.inr ⟨by unfold CB;rw [hgd],.inr ⟨rfl,hT⟩⟩⟩
 ·rw [hsz] at hst
  have e1:Fs' (s+1)=Fs s:=if_neg (by omega)
  rw [e1] at hst
  rw [←hH'] at hTi
  exact Zn hG (l.drop (s+1)) (Fs s) a' m' (Q .normal) hd2 hst hTi fun F'' a'' m'' k1 k2=>⟨F'',m'',rfl,k1,k2⟩
 ·refine ⟨?_,hs'.cx,hs'.tot,fun t ht=>?_,hs'.size,hs'.defers,hs'.below,hs'.base,hs'.S,hs'.T,by simp;omega⟩
  ·simp [Array.getD]
  ·rw [hsz]
   have e1:Fs' (s+1) t=F t:=by
    have hno:∀ (i:Nat) (o':Oper),(l.take s)[i]?=some o'→o'.dst≠some t:=fun i o' hi=>by
     have hlt:=(gS.1 hi).1
     have hlt':i<s:=by simp at hlt;omega
     refine ht i o' ?_ (by simp [Array.getD];omega)
     rw [li,lk (by omega)]
     rwa [lk hlt'] at hi
    have:∀ k,k≤s→Fs k t=F t:=fun k hk=>by
     induction k with
     | zero=>rw [h1]
     | succ k ih =>
      have hk2:(l.take s)[k]?=some ((l.take s)[k]'(by simp;omega)):=gE _
      rw [(h4 k _ hk2).1,FR,if_neg (hno k _ hk2)]
      exact ih (by omega)
    show (if s+1≤s then Fs (s+1) else Fs s) t=F t
    rw [if_neg (by omega)]
    exact this s (aa _)
   rw [e1]
   exact hs'.frame t
theorem Aid (s bid:Nat) (ty:TypeId) (cs':List C) (hm:P.follows .mixedOrders=true) (hB:(NP N l && Qr .any (l.take (s+1)).toArray && MM .any l.toArray (s+1))=true)
  (h:Ch2 P G (l.take (s+1)).toArray (l.take s) F H (H.set bid (.box ty cs')) fun F'=>∃ o x,l[s]?=some o∧o.dst=none∧o.guard=none∧TOk P G o F' H x (H.set bid (.box ty cs'))∧Ti P G l.toArray (l.drop (s+1)) F' (H.set bid (.box ty cs')) (Q .normal)):CW P G N (.region id l.toArray true) F H Q:=ArM s _ hm hB h
theorem TV {G:World→Prop} {F:Frm} {H:List Ob} {x:Operand} {c:C} {b:Bool} (ho:o.op=.store t x y) (hx:F.ev x=.one (.ref id off kk)) (hH:H[id]?=some ob) (hk:ob.k=some kk) (hy:F.ev y=.one c) (hty:TyK P t b 1) (hoff:off<ob.cs.length) (h2:H.set id (ob.setC (ob.cs.set off c))=H2) :
  TOk P G o F H .any H2:=h2 ▸ GJ ho hx hH hk hy hty hoff
theorem Aoj {l2:List Oper} {ops:Array Oper} {x:X} {F:Frm} {H:List Ob} {K:Frm→List Ob→Prop} (ho:l[s]?=some o) (hd:o.dst=none) (hg:o.guard=none) (ht:TOk P G o F H x H') (hk:Ti P G ops l2 F H' K):∃ o x,l[s]?=some o∧o.dst=none∧o.guard=none∧TOk P G o F H x H'∧Ti P G ops l2 F H' K:=⟨o,x,ho,hd,hg,ht,hk⟩
end
theorem TW {α:Type} {s:Nat}:∀ (ps:List (Nat × List α)) (pre rest:List α) (k:Nat),ps.map (·.1)=List.range' k ps.length→(∀ p∈ps,p.2.length=s)→pre.length=k*s→rest.length=ps.length*s →
  GC (fun i=>some (i*s,s)) (pre++rest) ps=some (pre++(ps.map (·.2)).flatten)
 | [],pre,rest,k,_,_,_,hr=>by
  have:rest=[]:=bw (by simpa using hr)
  subst this
  simp [GC]
 | (i,vs)::ps,pre,rest,k,hi,hs,hp,hr=>by
  simp only [ce,bk,List.range'_succ,List.cons.injEq] at hi
  obtain ⟨rfl,hi⟩:=hi
  have hv:vs.length=s:=hs (i,vs) (by simp)
  have hrl:rest.length=s+ps.length*s:=by rw [hr,bk,bh];omega
  unfold GC
  simp only []
  rw [show Nat.beq vs.length s=true by rw [hv];exact eg s,show Nat.ble (i*s+vs.length) (pre++rest).length=true from Nat.ble_eq ▸ (by rw [ak];omega)]
  simp only []
  have e1:(pre++rest).take (i*s)=pre:=by rw [lj (by omega),aq (by omega)]
  have e2:(pre++rest).drop (i*s+vs.length)=rest.drop s:=by
   rw [List.drop_append,gl (by omega),ef]
   congr 1
   omega
  rw [e1,e2,TW ps (pre++vs) (rest.drop s) (i+1) hi (fun p hp'=>hs p (by simp [hp'])) (by rw [ak,bh];omega) (by rw [iv];omega)]
  simp
section
variable {P:Program} {G:World→Prop} {o:Oper} {F:Frm} {H:List Ob}
theorem EW {e:TypeId} {len:Nat} {parts:Array (Nat × Operand)} {z:Value} {ps:List (Nat × List C)} {cs:List C} (ho:o.op=.buildSlice t len parts) (hp:IA F parts.toList=some ps) (ht:TyS P t e s) (hz:TyZ P e z s by_) (hln:len≤10000) (hs:s≤1000) (h0:0<s) (hi:ps.map (·.1)=List.range' 0 len) (hls:(ps.all fun p=>Nat.beq p.2.length s)=true) (hcs:(ps.map (·.2)).flatten=cs) :
  Bb P G o F H (.one (.own H.length len)) [.row e s len cs]:=by
 subst hcs
 have hpl:ps.length=len:=by have:=congrArg List.length hi;simpa using this
 have hall:∀ p∈ps,p.2.length=s:=fun p hp'=>dz (List.all_eq_true.1 hls p hp')
 have hm:len*s≤10000*1000:=dw hln hs
 have hl:(Ex (madeCells z.cells (len*s)).toList).length=len*s:=by simp [Ex,madeCells]
 refine Ey (ps:=ps) ho ht hz (by omega) (by omega) hp ?_ ?_ h0
 ·have:=TW (s:=s) ps [] (Ex (madeCells z.cells (len*s)).toList) 0 (by rw [hpl];exact hi) hall (by simp) (by rw [hl,hpl])
  rwa [ef,ef] at this
 ·have e:(ps.map (·.2)).map List.length=List.replicate len s:=by
   rw [jb,←hpl]
   refine jc (by simp) fun k h1 h2=>?_
   simp only [ll,List.getElem_replicate]
   exact hall _ (fu _)
  rw [List.length_flatten,e]
  simp
end
abbrev vi (z:Int):X:=.one (.d (.val (.int .i64 z)))
abbrev vr (i:Nat):X:=.one (.ref i 0 none)
abbrev vo (i n:Nat):X:=.one (.own i n)
abbrev vd (d:D):X:=.one (.d d)
theorem mB {F:Frm} {n:Nat}:∀ {l:List (Nat × X)},l.map (fun p=>F p.1)=l.map Prod.snd→l.all (fun p=>p.2.belB n)=true→TT F n l
 | [],_,_=>trivial
 | (s,x)::l,h,hb=>by
  simp only [ce,List.cons.injEq] at h
  simp only [jr,ah] at hb
  exact ⟨h.1,hb.1,mB h.2 hb.2⟩
section
variable {P:Program} {G:World→Prop} {o:Oper} {F:Frm} {H:List Ob}
section
variable {ops:Array Oper} {K:Frm→List Ob→Prop} {l:List Oper} {d:Tmp} {x:Operand} {c:C}
theorem ArN (hg:o.guard=none) (hd:o.dst=some d) (ho:o.op=.move x) (hx:F.ev x=.one c) (k:Ch P G ops l (F.put (some d) (.one c)) H K):Ch P G ops (o::l) F H K:=ArH hg hd (Xu ho hx) k
theorem ArO (hg:o.guard=none) (hd:o.dst=some d) (ho:o.op=.move x) (hx:F.ev x=.one c) (k:Ti P G ops l (F.put (some d) (.one c)) H K):Ti P G ops (o::l) F H K:=ArG hg hd (Xu ho hx) k
theorem ArP (hg:o.guard=none) (hd:o.dst=some d) (ho:o.op=.assign x) (hx:F.ev x=.one c) (k:Ch P G ops l (F.put (some d) (.one c)) H K):Ch P G ops (o::l) F H K:=ArH hg hd (Xv ho hx) k
theorem ArQ (hg:o.guard=none) (hd:o.dst=some d) (ho:o.op=.assign x) (hx:F.ev x=.one c) (k:Ti P G ops l (F.put (some d) (.one c)) H K):Ti P G ops (o::l) F H K:=ArG hg hd (Xv ho hx) k
end
section
variable {N:Nat} {ops:Array Oper} {Q:Te} {K:Frm→List Ob→Prop} {l:List Oper} {d:Tmp} {c:C} {xx:X}
theorem Tx (id:Nat) (h:Ti P G l.toArray l F H (Q .normal)) (hd:NP N l=true:=by kernel_rfl):CW P G N (.region id l.toArray false) F H Q:=AjZ hd h
theorem Je (h:K F H):Ti P G ops [] F H K:=h
theorem Ke (h:K F H):Ch P G ops [] F H K:=h
theorem Jo (h:Bb P G o F H xx []) (k:Ti P G ops l (F.put (some d) xx) H K) (hg:o.guard=none:=by with_unfolding_all exact rfl) (hd:o.dst=some d:=by with_unfolding_all exact rfl):Ti P G ops (o::l) F H K:=ArG hg hd h k
theorem Ko (h:Bb P G o F H xx []) (k:Ch P G ops l (F.put (some d) xx) H K) (hg:o.guard=none:=by with_unfolding_all exact rfl) (hd:o.dst=some d:=by with_unfolding_all exact rfl):Ch P G ops (o::l) F H K:=ArH hg hd h k
theorem Jn (h:Bb P G o F H xx [ob]) (k:Ti P G ops l (F.put (some d) xx) (H++[ob]) K) (hg:o.guard=none:=by with_unfolding_all exact rfl) (hd:o.dst=some d:=by with_unfolding_all exact rfl):Ti P G ops (o::l) F H K:=ti_n hg hd h k
theorem Kn (h:Bb P G o F H xx [ob]) (k:Ch P G ops l (F.put (some d) xx) (H++[ob]) K) (hg:o.guard=none:=by with_unfolding_all exact rfl) (hd:o.dst=some d:=by with_unfolding_all exact rfl):Ch P G ops (o::l) F H K:=ch_n hg hd h k
theorem Js (h:TOk P G o F H xx H2) (k:Ti P G ops l F H2 K) (hg:o.guard=none:=by with_unfolding_all exact rfl) (hd:o.dst=none:=by with_unfolding_all exact rfl):Ti P G ops (o::l) F H K:=ti_s hg hd h k
theorem Jt (h:TOk P G o F H xx H2) (k:Ti P G ops l (F.put (some d) xx) H2 K) (hg:o.guard=none:=by with_unfolding_all exact rfl) (hd:o.dst=some d:=by with_unfolding_all exact rfl):Ti P G ops (o::l) F H K:=ti_t hg hd h k
section
variable {x:Operand}
theorem Jm (k:Ti P G ops l (F.put (some d) (.one c)) H K) (hg:o.guard=none:=by with_unfolding_all exact rfl) (hd:o.dst=some d:=by with_unfolding_all exact rfl) (ho:o.op=.move x:=by with_unfolding_all exact rfl) (hx:F.ev x=.one c:=by with_unfolding_all exact rfl):Ti P G ops (o::l) F H K:=ArO hg hd ho hx k
theorem Ja (k:Ti P G ops l (F.put (some d) (.one c)) H K) (hg:o.guard=none:=by with_unfolding_all exact rfl) (hd:o.dst=some d:=by with_unfolding_all exact rfl) (ho:o.op=.assign x:=by with_unfolding_all exact rfl) (hx:F.ev x=.one c:=by with_unfolding_all exact rfl):Ti P G ops (o::l) F H K:=ArQ hg hd ho hx k
theorem Km (k:Ch P G ops l (F.put (some d) (.one c)) H K) (hg:o.guard=none:=by with_unfolding_all exact rfl) (hd:o.dst=some d:=by with_unfolding_all exact rfl) (ho:o.op=.move x:=by with_unfolding_all exact rfl) (hx:F.ev x=.one c:=by with_unfolding_all exact rfl):Ch P G ops (o::l) F H K:=ArN hg hd ho hx k
theorem Ka (k:Ch P G ops l (F.put (some d) (.one c)) H K) (hg:o.guard=none:=by with_unfolding_all exact rfl) (hd:o.dst=some d:=by with_unfolding_all exact rfl) (ho:o.op=.assign x:=by with_unfolding_all exact rfl) (hx:F.ev x=.one c:=by with_unfolding_all exact rfl):Ch P G ops (o::l) F H K:=ArP hg hd ho hx k
end
section
variable {j:Nat} {want bb:Bool} {oj:Oper} {t:Tmp}
theorem Jd (k:Ti P G ops l (F.put (some d) (.tup [])) H K) (hw:CB ops o F false:=by with_unfolding_all first|exact Aoe rfl rfl rfl rfl rfl|exact AbO rfl rfl rfl rfl) (hd:o.dst=some d:=by with_unfolding_all exact rfl):Ti P G ops (o::l) F H K:=Akj hw hd k
theorem Jy (h:Bb P G o F H xx []) (k:Ti P G ops l (F.put (some d) xx) H K) (hg:o.guard=some (j,want):=by with_unfolding_all exact rfl) (hd:o.dst=some d:=by with_unfolding_all exact rfl) (hj:ops[j]?=some oj:=by with_unfolding_all exact rfl) (ht:oj.dst=some t:=by with_unfolding_all exact rfl) (hF:F t=.one (.d (.val (.bool bb))):=by with_unfolding_all exact rfl) (hb:(bb == want)=true:=by with_unfolding_all exact rfl):Ti P G ops (o::l) F H K:=ArI hg hd hj ht hF hb h k
theorem Kd (k:Ch P G ops l (F.put (some d) (.tup [])) H K) (hw:CB ops o F false:=by with_unfolding_all first|exact Aoe rfl rfl rfl rfl rfl|exact AbO rfl rfl rfl rfl) (hd:o.dst=some d:=by with_unfolding_all exact rfl):Ch P G ops (o::l) F H K:=Akk hw hd k
theorem Ky (h:Bb P G o F H xx []) (k:Ch P G ops l (F.put (some d) xx) H K) (hg:o.guard=some (j,want):=by with_unfolding_all exact rfl) (hd:o.dst=some d:=by with_unfolding_all exact rfl) (hj:ops[j]?=some oj:=by with_unfolding_all exact rfl) (ht:oj.dst=some t:=by with_unfolding_all exact rfl) (hF:F t=.one (.d (.val (.bool bb))):=by with_unfolding_all exact rfl) (hb:(bb == want)=true:=by with_unfolding_all exact rfl):Ch P G ops (o::l) F H K:=ArJ hg hd hj ht hF hb h k
end
theorem qa {x y:Code} (h:CW P G N x F H (RQ (fun F' H'=>CW P G N y F' H' Q) Q)):CW P G N (.seq x y) F H Q:=AnH h
theorem qb {K:Frm→List Ob→Prop} (h:K F H):RQ K Q .normal F H:=h
theorem qc (h:Q .normal F H):CW P G N .skip F H Q:=AjV h
theorem qd (h:Q .ret F H):CW P G N .ret F H Q:=AnG h
theorem qe (h:Q (.exit id) F H):CW P G N (.exit id) F H Q:=AjW h
theorem qf {c:Code} (h:CW P G N c F H (Iz id Q)):CW P G N (.block id c) F H Q:=AfD h
theorem qg {K:Frm→List Ob→Prop} (h:Q .ret F H):RQ K Q .ret F H:=h
theorem qh {K:Frm→List Ob→Prop} (h:Q (.exit id) F H):RQ K Q (.exit id) F H:=h
theorem qi (h:Q .normal F H):Iz i Q .normal F H:=h
theorem qj (h:Q .ret F H):Iz i Q .ret F H:=h
theorem qk (h:Q .normal F H):Iz i Q (.exit i) F H:=AfK h
theorem ql (hij:Nat.beq j i=false) (h:Q (.exit j) F H):Iz i Q (.exit j) F H:=AfL hij h
theorem qm {x y:Code} {c:Operand} (hc:F.ev c=.one (.d (.val (.bool true)))) (h:CW P G N x F H Q):CW P G N (.cond c x y) F H Q:=AjY hc h
theorem qn {x y:Code} {c:Operand} (hc:F.ev c=.one (.d (.val (.bool false)))) (h:CW P G N y F H Q):CW P G N (.cond c x y) F H Q:=AfE hc h
end
section
variable {t:TypeId} {x:Operand} {p p' c:C} {cs cs':List C} {f q ft k:Nat} {b:Bool}
theorem xLd (hk:TyK P t false k) (ho:o.op=.load t x:=by with_unfolding_all exact rfl) (hx:F.ev x=.one p:=by with_unfolding_all exact rfl) (ha:At H p cs:=by with_unfolding_all first|exact .box rfl|exact .ptr|exact .row rfl) (hc:cs[0]?=some c:=by with_unfolding_all exact rfl):Bb P G o F H (.one c) []:=Oc ho hx ha hc hk
theorem xLa (hk:TyK P t true k) (ho:o.op=.load t x:=by with_unfolding_all exact rfl) (hx:F.ev x=.one p:=by with_unfolding_all exact rfl) (ha:At H p cs:=by with_unfolding_all first|exact .box rfl|exact .ptr|exact .row rfl) (hc:cs.take k=cs':=by with_unfolding_all exact rfl) (hlen:cs'.length=k:=by with_unfolding_all exact rfl):Bb P G o F H (.agg cs') []:=RT ho hx ha hk hc hlen
theorem xFa (hf:TyF P t f q ft) (hk:TyK P ft b (k+1)) (ho:o.op=.fieldAddr t x f:=by with_unfolding_all exact rfl) (hx:F.ev x=.one p:=by with_unfolding_all exact rfl) (ha:At H p cs:=by with_unfolding_all first|exact .box rfl|exact .ptr|exact .row rfl) (hp:Off q p p':=by with_unfolding_all first|exact .ref|exact .ptr):Bb P G o F H (.one p') []:=TB ho hx ha hf hk hp
theorem xLn {e:Nat} (ht:TyS P t e k) (ho:o.op=.call { callee:=.builtin .len,args:=#[x],argTypes:=#[t] }:=by with_unfolding_all exact rfl) (hx:F.ev x=.one c:=by with_unfolding_all exact rfl) (hn:Len H c n:=by with_unfolding_all first|exact .own rfl|exact .row|exact .nil|exact .emp):Bb P G o F H (.one (.d (.val (.int .i64 n)))) []:=AnS ho hx hn ht
def ArR (b:Bool) (x y:X):X:=match b with
 | true=>x
 | false=>y
theorem xPk {z:Operand} {v:C} (ho:o.op=.pick z x y:=by with_unfolding_all exact rfl) (hc:F.ev z=.one (.d (.val (.bool b))):=by with_unfolding_all exact rfl) (hx:ArR b (F.ev x) (F.ev y)=.one v:=by with_unfolding_all exact rfl):Bb P G o F H (.one v) []:=by
 cases b
 ·exact AfN ho hc hx
 ·exact AfM ho hc hx
theorem xEx {l:List A} {d:D} (ho:o.op=.extract x i:=by with_unfolding_all exact rfl) (hx:F.ev x=.tup l:=by with_unfolding_all exact rfl) (hy:l[i]?=some (.one d):=by with_unfolding_all exact rfl):Bb P G o F H (.one (.d d)) []:=Aog ho hx hy
theorem xBo {t:TypeId} (ho:o.op=.box t x:=by with_unfolding_all exact rfl) (hx:Fm (F.ev x)=some cs:=by with_unfolding_all exact rfl):Bb P G o F H (.one (.ref H.length 0 none)) [.box t cs]:=AnT ho hx
theorem xMi {t:TypeId} {u:Value} {d:TypeDesc} (hu:P.underlying t=some d) (ho:o.op=.makeInterface t x:=by with_unfolding_all exact rfl) (hx:F.ev x=.one (.d (.val u)):=by with_unfolding_all exact rfl) (hd:(match d with|.interface _=>false|_=>true)=true:=by with_unfolding_all exact rfl):Bb P G o F H (.one (.d (.val (.iface t u)))) []:=NQ ho hx hu hd
end
section
variable {t t':TypeId} {x y:Operand} {k:IntKind} {p q:Int} {b:Bool}
theorem xEq (ho:o.op=.binOp .eql t x y t':=by with_unfolding_all exact rfl) (hx:F.ev x=.one (.d (.val (.int k p))):=by with_unfolding_all exact rfl) (hy:F.ev y=.one (.d (.val (.int k q))):=by with_unfolding_all exact rfl) (h:(p == q)=b:=by first|exact TP (by first|rfl|omega)|exact VJ (by omega)):Bb P G o F H (.one (.d (.val (.bool b)))) []:=Akl ho hx hy h
theorem xNe (ho:o.op=.binOp .neq t x y t':=by with_unfolding_all exact rfl) (hx:F.ev x=.one (.d (.val (.int k p))):=by with_unfolding_all exact rfl) (hy:F.ev y=.one (.d (.val (.int k q))):=by with_unfolding_all exact rfl) (h:(p != q)=b:=by first|exact Qt (by first|rfl|omega)|exact Li (by omega)):Bb P G o F H (.one (.d (.val (.bool b)))) []:=Akm ho hx hy h
theorem xLt (ho:o.op=.binOp .lss t x y t':=by with_unfolding_all exact rfl) (hx:F.ev x=.one (.d (.val (.int k p))):=by with_unfolding_all exact rfl) (hy:F.ev y=.one (.d (.val (.int k q))):=by with_unfolding_all exact rfl) (h:decide (p<q)=b:=by first|exact AfO (by omega)|exact AfP (by omega)):Bb P G o F H (.one (.d (.val (.bool b)))) []:=Akn ho hx hy h
theorem xGt (ho:o.op=.binOp .gtr t x y t':=by with_unfolding_all exact rfl) (hx:F.ev x=.one (.d (.val (.int k p))):=by with_unfolding_all exact rfl) (hy:F.ev y=.one (.d (.val (.int k q))):=by with_unfolding_all exact rfl) (h:decide (q<p)=b:=by first|exact AfO (by omega)|exact AfP (by omega)):Bb P G o F H (.one (.d (.val (.bool b)))) []:=AbP ho hx hy h
theorem xLe (ho:o.op=.binOp .leq t x y t':=by with_unfolding_all exact rfl) (hx:F.ev x=.one (.d (.val (.int k p))):=by with_unfolding_all exact rfl) (hy:F.ev y=.one (.d (.val (.int k q))):=by with_unfolding_all exact rfl) (h:decide (p≤q)=b:=by first|exact AfO (by first|rfl|omega)|exact AfP (by omega)|exact rfl):Bb P G o F H (.one (.d (.val (.bool b)))) []:=Ako ho hx hy h
theorem xGe (ho:o.op=.binOp .geq t x y t':=by with_unfolding_all exact rfl) (hx:F.ev x=.one (.d (.val (.int k p))):=by with_unfolding_all exact rfl) (hy:F.ev y=.one (.d (.val (.int k q))):=by with_unfolding_all exact rfl) (h:decide (q≤p)=b:=by first|exact AfO (by first|rfl|omega)|exact AfP (by omega)|exact rfl):Bb P G o F H (.one (.d (.val (.bool b)))) []:=Akp ho hx hy h
theorem xAd (ho:o.op=.binOp .add t x y t':=by with_unfolding_all exact rfl) (hx:F.ev x=.one (.d (.val (.int .i64 p))):=by with_unfolding_all exact rfl) (hy:F.ev y=.one (.d (.val (.int .i64 q))):=by with_unfolding_all exact rfl) (hb : -9223372036854775808≤p+q∧p+q≤9223372036854775807:=by omega):Bb P G o F H (.one (.d (.val (.int .i64 (p+q))))) []:=AfF ho hx hy hb
theorem xSb (ho:o.op=.binOp .sub t x y t':=by with_unfolding_all exact rfl) (hx:F.ev x=.one (.d (.val (.int .i64 p))):=by with_unfolding_all exact rfl) (hy:F.ev y=.one (.d (.val (.int .i64 q))):=by with_unfolding_all exact rfl) (hb : -9223372036854775808≤p - q∧p - q≤9223372036854775807:=by omega):Bb P G o F H (.one (.d (.val (.int .i64 (p - q))))) []:=AfG ho hx hy hb
end
section
variable {t e ty:TypeId} {x y:Operand} {tg:Bool} {id s n i k:Nat} {kd:IntKind} {z:Int} {b:Bool}
theorem xIr {ds es:List D} (ht:TyS P t e s) (hes:(ds.drop (i*s)).take s=es) (ho:o.op=.indexAddr t x y:=by with_unfolding_all exact rfl) (hx:F.ev x=.one (.d (.row tg s n ds)):=by with_unfolding_all exact rfl) (hy:F.ev y=.one (.d (.val (.int kd z))):=by with_unfolding_all exact rfl) (hz:z=(i:Int):=by first|with_unfolding_all exact rfl|omega) (hi:i<n:=by omega) (hs:0<s:=by decide):Bb P G o F H (.one (.d (.ptr tg es))) []:=TR ho hx hy hz ht hi hs hes
theorem xIo {cs:List C} (ht:TyS P t e s) (ho:o.op=.indexAddr t x y:=by with_unfolding_all exact rfl) (hx:F.ev x=.one (.own id n):=by with_unfolding_all exact rfl) (hH:H[id]?=some (.row ty s n cs):=by with_unfolding_all exact rfl) (hy:F.ev y=.one (.d (.val (.int kd z))):=by with_unfolding_all exact rfl) (hz:z=(i:Int):=by with_unfolding_all exact rfl) (hi:i<n:=by omega) (hs:0<s:=by decide):Bb P G o F H (.one (.ref id (i*s) (some n))) []:=Fw ho hx hH hy hz ht hi hs
theorem xLi (hz:xs[i]?=some z) (hk:TyK P t false k) (ho:o.op=.load t x:=by with_unfolding_all exact rfl) (hx:F.ev x=.one (.ref id (i*1) (some n)):=by with_unfolding_all exact rfl) (hH:H[id]?=some (.row ty s n (cI xs)):=by with_unfolding_all exact rfl):Bb P G o F H (.one (.d (.val (.int .i64 z)))) []:=Aoh ho hx hH hz hk
theorem xS1 {c:C} (hty:TyK P t b 1) (ho:o.op=.store t x y:=by with_unfolding_all exact rfl) (hx:F.ev x=.one (.ref id off kk):=by with_unfolding_all exact rfl) (hH:H[id]?=some ob:=by with_unfolding_all exact rfl) (hk:ob.k=some kk:=by with_unfolding_all exact rfl) (hy:F.ev y=.one c:=by with_unfolding_all exact rfl) (hoff:off<ob.cs.length:=by with_unfolding_all exact bf rfl):TOk P G o F H .any (H.set id (ob.setC (ob.cs.set off c))):=GJ ho hx hH hk hy hty hoff
theorem xSk {cy:List C} (hty:TyK P t b k) (ho:o.op=.store t x y:=by with_unfolding_all exact rfl) (hx:F.ev x=.one (.ref id off kk):=by with_unfolding_all exact rfl) (hH:H[id]?=some ob:=by with_unfolding_all exact rfl) (hk:ob.k=some kk:=by with_unfolding_all exact rfl) (hy:Fm (F.ev y)=some cy:=by with_unfolding_all exact rfl) (hlen:Nat.beq cy.length k=true:=by with_unfolding_all exact rfl) (hoff:off+cy.length≤ob.cs.length:=by with_unfolding_all exact bf rfl):TOk P G o F H .any (H.set id (ob.setC (ob.cs.take off++cy++ob.cs.drop (off+cy.length)))):=TQ ho hx hH hk hy hty hlen hoff
end
theorem xCl {cd : Code} {xs : Array Operand} {ts : Array TypeId} {args res : List A} {x : X} (h1 : P.funcs[f]? = some fn) (h : CV P G f args res) (h2 : (fn.name == "runtime.NumGoroutine") = false := by kernel_rfl) (h3 : fn.body = some cd := by with_unfolding_all exact rfl) (ho : o.op = .call { callee := .value (.func f), args := xs, argTypes := ts } := by with_unfolding_all exact rfl) (ha : AV (fun x y => Ik true H (F.ev x) y) xs.toList args := by with_unfolding_all first | ((repeat' first | exact CF rfl rfl | refine BG rfl rfl ?_ ?_ | refine GO rfl rfl ?_ | refine EV rfl rfl ?_ | exact CA rfl (fun h => by cases h) | exact Fx rfl rfl | exact cexp_e rfl rfl | refine Ej rfl rfl rfl ?_) <;> fail) | fail) (hx : Aka res = x := by with_unfolding_all exact rfl) : Bb P G o F H x [] := ArK ⟨fn, cd, h1, h2, h3⟩ h ho ha hx
end
section
variable {P:Program} {G:World→Prop} {F:Frm} {H:List Ob} {ops:Array Oper} {l:List Oper} {K:Frm→List Ob→Prop} {d:Tmp} {xx:X} {ob:Ob} {op:Op} {ty_:TypeId} {ps_:String} {af_:Array Edge} {gg_:Option (Nat × Bool)} {dd:Option Tmp} {x:Operand} {c p p':C} {cs cs':List C} {H2:List Ob} {t:TypeId} {o:Oper} {f q ft k n e:Nat} {b:Bool}
theorem gO (h:Bb P G ⟨some d,op,ty_,ps_,af_,none⟩ F H xx []) (k:Ti P G ops l (F.put (some d) xx) H K):Ti P G ops (⟨some d,op,ty_,ps_,af_,none⟩::l) F H K:=Jo h k rfl rfl
theorem gN (h:Bb P G ⟨some d,op,ty_,ps_,af_,none⟩ F H xx [ob]) (k:Ti P G ops l (F.put (some d) xx) (H++[ob]) K):Ti P G ops (⟨some d,op,ty_,ps_,af_,none⟩::l) F H K:=Jn h k rfl rfl
theorem gZ (h:TOk P G ⟨none,op,ty_,ps_,af_,none⟩ F H xx H2) (k:Ti P G ops l F H2 K):Ti P G ops (⟨none,op,ty_,ps_,af_,none⟩::l) F H K:=Js h k rfl rfl
theorem gT (h:TOk P G ⟨some d,op,ty_,ps_,af_,none⟩ F H xx H2) (k:Ti P G ops l (F.put (some d) xx) H2 K):Ti P G ops (⟨some d,op,ty_,ps_,af_,none⟩::l) F H K:=Jt h k rfl rfl
theorem gP (h:Bb P G ⟨some d,op,ty_,ps_,af_,none⟩ F H xx []) (k:Ch P G ops l (F.put (some d) xx) H K):Ch P G ops (⟨some d,op,ty_,ps_,af_,none⟩::l) F H K:=Ko h k rfl rfl
theorem gQ (h:Bb P G ⟨some d,op,ty_,ps_,af_,none⟩ F H xx [ob]) (k:Ch P G ops l (F.put (some d) xx) (H++[ob]) K):Ch P G ops (⟨some d,op,ty_,ps_,af_,none⟩::l) F H K:=Kn h k rfl rfl
theorem xM (hx:F.ev x=.one c:=by with_unfolding_all exact rfl):Bb P G ⟨dd,.move x,ty_,ps_,af_,gg_⟩ F H (.one c) []:=Xu rfl hx
theorem xA (hx:F.ev x=.one c:=by with_unfolding_all exact rfl):Bb P G ⟨dd,.assign x,ty_,ps_,af_,gg_⟩ F H (.one c) []:=Xv rfl hx
theorem xF (ho:o.op=.fieldAddr t x f:=by with_unfolding_all exact rfl) (hf:TyF prog t f q ft:=by first|exact EQ|exact BM|exact AP|exact Cs|exact Dj|exact ER|exact Od|exact DU|exact Lg|exact Pg|exact EJ|exact VF|exact Eb|exact TN|exact LO|exact ES|exact AbK|exact Ft|exact Sa|exact VE|exact Og|exact Hv|exact Pi|exact Pj|exact Gn|exact Pf|exact QW|exact Ph|exact AbL|exact VG|exact VH|exact AbI|exact AbJ) (hk:TyK prog ft b (k+1):=by first|exact Ak|exact Ae|exact Bd|exact Ag|exact AQ|exact Ar|exact Be|exact Bm|exact CE|exact DB|exact FU|exact Cr|exact BB|exact Br|exact GM|exact Fp|exact DA|exact Bu|exact Lh|exact Fu|exact EP|exact DV) (hx:F.ev x=.one p:=by with_unfolding_all exact rfl) (ha:At H p cs:=by with_unfolding_all first|exact .box rfl|exact .ptr|exact .row rfl) (hp:Off q p p':=by with_unfolding_all first|exact .ref|exact .ptr):Bb prog G o F H (.one p') []:=xFa hf hk ho hx ha hp
theorem xD (ho:o.op=.load t x:=by with_unfolding_all exact rfl) (hk:TyK prog t false k:=by first|exact Ak|exact Ae|exact Bd|exact Ag|exact AQ|exact Ar|exact Be|exact Bm|exact CE|exact DB|exact FU|exact Cr|exact BB|exact Br|exact GM|exact Fp|exact DA|exact Bu|exact Lh|exact Fu|exact EP|exact DV) (hx:F.ev x=.one p:=by with_unfolding_all exact rfl) (ha:At H p cs:=by with_unfolding_all first|exact .box rfl|exact .ptr|exact .row rfl) (hc:cs[0]?=some c:=by with_unfolding_all exact rfl):Bb prog G o F H (.one c) []:=xLd hk ho hx ha hc
theorem xL (ho:o.op=.load t x:=by with_unfolding_all exact rfl) (hk:TyK prog t true k:=by first|exact Ak|exact Ae|exact Bd|exact Ag|exact AQ|exact Ar|exact Be|exact Bm|exact CE|exact DB|exact FU|exact Cr|exact BB|exact Br|exact GM|exact Fp|exact DA|exact Bu|exact Lh|exact Fu|exact EP|exact DV) (hx:F.ev x=.one p:=by with_unfolding_all exact rfl) (ha:At H p cs:=by with_unfolding_all first|exact .box rfl|exact .ptr|exact .row rfl) (hc:cs.take k=cs':=by with_unfolding_all exact rfl) (hlen:cs'.length=k:=by with_unfolding_all exact rfl):Bb prog G o F H (.agg cs') []:=xLa hk ho hx ha hc hlen
theorem xN (ho:o.op=.call { callee:=.builtin .len,args:=#[x],argTypes:=#[t] }:=by with_unfolding_all exact rfl) (ht:TyS prog t e k:=by first|exact Af|exact Ai|exact Aj|exact AH|exact Aw|exact Bv|exact Bn|exact Hw|exact ET|exact Pk) (hx:F.ev x=.one c:=by with_unfolding_all exact rfl) (hn:Len H c n:=by with_unfolding_all first|exact .own rfl|exact .row|exact .nil|exact .emp):Bb prog G o F H (.one (.d (.val (.int .i64 n)))) []:=xLn ht ho hx hn
end
def AaF (x:Int) (dx:Nat) (y:Int) (dy:Nat):Int:=sgI (x*2 ^ (max dx dy - dx) - y*2 ^ (max dx dy - dy))
theorem Gp (x:Int) (k:Nat):sgI (x*2 ^ k)=sgI x:=by
 have hp:(0:Int)<2 ^ k:=gg (by decide)
 unfold sgI
 by_cases h:x=0
 ·subst h;simp
 ·have h1:¬ x*2 ^ k=0:=by
   intro h0
   rcases Int.mul_eq_zero.1 h0 with h2|h2
   ·exact h h2
   ·omega
  rw [if_neg h,if_neg h1]
  by_cases h2:x<0
  ·rw [if_pos h2,if_pos (mi h2 hp)]
  ·have:=jd (show 0≤x by omega) (bl hp)
   rw [if_neg h2,if_neg (by omega)]
theorem Aie {x y:Int} (h:sgI x<sgI y):sgI (x - y) = -1:=by
 have:x<y:=by
  unfold sgI at h
  split at h <;> split at h <;> (try split at h) <;> (try split at h) <;> omega
 unfold sgI
 rw [if_neg (by omega),if_pos (by omega)]
theorem Aok {x y:Int} (h:sgI y<sgI x):sgI (x - y)=1:=by
 have:=Aie h
 have h2:y<x:=by
  unfold sgI at h
  split at h <;> split at h <;> (try split at h) <;> (try split at h) <;> omega
 unfold sgI
 rw [if_neg (by omega),if_neg (by omega)]
theorem Xx (x:Int):sgI (-x) = -sgI x:=by
 unfold sgI
 by_cases h:x=0
 ·subst h;rfl
 ·by_cases h2:x<0
  ·rw [if_neg (by omega),if_neg (by omega),if_neg h,if_pos h2];rfl
  ·rw [if_neg (by omega),if_pos (by omega),if_neg h,if_neg h2]
theorem Xy (x:Int) (k:Nat):((x.natAbs*2 ^ k:Nat):Int)=(if x<0 then -(x*2 ^ k) else x*2 ^ k):=by
 have e:((x.natAbs*2 ^ k:Nat):Int)=(x.natAbs:Int)*2 ^ k:=by simp
 rw [e]
 by_cases h:x<0
 ·rw [if_pos h,show (x.natAbs:Int) = -x by omega,ct]
 ·rw [if_neg h,show (x.natAbs:Int)=x by omega]
theorem Pn (x:Int) : -1≤sgI x∧sgI x≤1:=by
 unfold sgI
 split
 ·omega
 ·split <;> omega
theorem Akq {x y:Int} (D1:DyR w lo1 m v x dx) (D2:DyR w lo2 m v2 y dy) (hm:m≤w.heap.size) (l1:(Ad x.natAbs).length≤50000) (l2:(Ad y.natAbs).length≤50000) :
  Calls prog 56 #[v,v2] w fun e w'=>∃ u1 u2 D,e=.returned (.tuple #[.bool (decide (x<0)),u1,.bool (decide (y<0)),u2,.int .i64 (D:Int)]) ∧
   WdR w' w'.heap.size u1 (x.natAbs*2 ^ (max dx dy - dx))∧WdR w' w'.heap.size u2 (y.natAbs*2 ^ (max dx dy - dy))∧Below w.heap.size w w':=by
 have hd1:=D1.bound.1
 have hd2:=D2.bound.1
 obtain ⟨nb1,A1,L1,c1,rfl,HD1⟩:=D1.form
 obtain ⟨nb2,A2,L2,c2,rfl,HD2⟩:=D2.form
 have b0:Below w.heap.size w ((w.alloc (.cells #[.bool nb1,.slice A1 L1 c1,.int .i64 (dx:Int)] 43)).alloc (.cells #[.bool nb2,.slice A2 L2 c2,.int .i64 (dy:Int)] 43)):=Am (Am (ab _ _) _) _
 have r0:=(Ca.new_ w [.bool nb1,.slice A1 L1 c1,.int .i64 (dx:Int)] 43).call (al_ _ (.cells #[.bool nb2,.slice A2 L2 c2,.int .i64 (dy:Int)] 43))
 have r1:=Ca.new_ (w.alloc (.cells #[.bool nb1,.slice A1 L1 c1,.int .i64 (dx:Int)] 43)) [.bool nb2,.slice A2 L2 c2,.int .i64 (dy:Int)] 43
 rw [show (w.alloc (.cells #[.bool nb1,.slice A1 L1 c1,.int .i64 (dx:Int)] 43)).heap.size=w.heap.size+1 by simp] at r1
 have D1':=mo D1
 have D2':=mo D2
 obtain ⟨D,hD⟩:∃ D:Nat,D=max dx dy:=⟨_,rfl⟩
 have hDD:max (dx:Int) (dy:Int)=(D:Int):=by omega
 obtain ⟨p,hp⟩:∃ p:Nat,p=D - dx:=⟨_,rfl⟩
 obtain ⟨q,hq⟩:∃ q:Nat,q=D - dy:=⟨_,rfl⟩
 have hpp:(D:Int) - (dx:Int)=(p:Int):=by omega
 have hqq:(D:Int) - (dy:Int)=(q:Int):=by omega
 have hp6:p≤1000000:=by omega
 have hq6:q≤1000000:=by omega
 rw [←hD,←hp,←hq]
 clear D1 D2 hD hp hq
 go_enter func56,ntmps56
 go_wp2_with fail
 go_at_call 69
 refine (Gm (D1'.out.below b0 hm) (by simp;omega) (by omega)).mono ?_
 rintro e w1 ⟨nb',A',L',c',he,rfl,hb1⟩
 cases he
 have s1:=r1.below hb1 (by simp)
 have b1:=b0.trans (hb1.mono (by simp;omega))
 have k0:w1.cell? ⟨w.heap.size+1,0,none⟩=some (.bool nb2):=s1.cell 0
 have k1:w1.cell? ⟨w.heap.size+1,1,none⟩=some (.slice A2 L2 c2):=s1.cell 1
 have k2:w1.cell? ⟨w.heap.size+1,2,none⟩=some (.int .i64 (dy:Int)):=s1.cell 2
 clear hb1 r0 r1 b0
 go_wp2_with fail
 go_at_call 69
 have hs1:=b1.size
 refine (Gm (D2'.out.below b1 hm) (by omega) (by omega)).mono ?_
 rintro e w2 ⟨nb',A',L',c',he,rfl,hb2⟩
 cases he
 have b2:=b1.trans (hb2.mono hs1)
 have X1:=(D1'.out.below b2 hm).words
 have X2:=mo (D2'.out.below b2 hm).words
 clear hb2 b1 k0 k1 k2 s1
 go_wp2_with fail
 go_at_call 70
 have hs2:=b2.size
 refine (Vv X1 (by omega) (by omega) hp6).mono ?_
 rintro e w3 ⟨v3,rfl,Y1,hb3⟩
 have b3:=b2.trans (hb3.mono hs2)
 have X2':=X2.out.below hb3 (by omega)
 obtain ⟨A3,L3,c3,rfl⟩:=Y1.form
 clear hb3 b2 X1 X2 hs2 hs1
 go_wp2_with fail
 go_at_call 70
 have hs3:=b3.size
 refine (Vv X2' (by omega) (by omega) hq6).mono ?_
 rintro e w4 ⟨v4,rfl,Y2,hb4⟩
 obtain ⟨A4,L4,c4,rfl⟩:=Y2.form
 go_wp2_with fail
 refine bodyPost_ret (v:=.tuple #[.bool nb1,.slice A3 L3 c3,.bool nb2,.slice A4 L4 c4,.int .i64 (D:Int)]) (by simp [results,results56,go_sem]) rfl ⟨.slice A3 L3 c3,.slice A4 L4 c4,D,by rw [HD1.out.1,HD2.out.1],(Y1.below hb4 (aa _)).more hb4.size,Y2,b3.trans (hb4.mono hs3)⟩
theorem AfT {x y:Int} (D1:DyR w lo1 m v x dx) (D2:DyR w lo2 m v2 y dy) (hm:m≤w.heap.size) (l1:(Ad x.natAbs).length≤50000) (l2:(Ad y.natAbs).length≤50000) :
    Calls prog 15 #[v,v2] w fun e w'=>e=.returned (.int .i64 (AaF x dx y dy))∧Below w.heap.size w w':=by
  have hd1:=D1.bound.1
  have hd2:=D2.bound.1
  obtain ⟨nb1,A1,L1,c1,rfl,HD1⟩:=D1.form
  obtain ⟨nb2,A2,L2,c2,rfl,HD2⟩:=D2.form
  have b0:Below w.heap.size w ((w.alloc (.cells #[.bool nb1,.slice A1 L1 c1,.int .i64 (dx:Int)] 43)).alloc (.cells #[.bool nb2,.slice A2 L2 c2,.int .i64 (dy:Int)] 43)):=Am (Am (ab _ _) _) _
  have r0:=(Ca.new_ w [.bool nb1,.slice A1 L1 c1,.int .i64 (dx:Int)] 43).call (al_ _ (.cells #[.bool nb2,.slice A2 L2 c2,.int .i64 (dy:Int)] 43))
  have r1:=Ca.new_ (w.alloc (.cells #[.bool nb1,.slice A1 L1 c1,.int .i64 (dx:Int)] 43)) [.bool nb2,.slice A2 L2 c2,.int .i64 (dy:Int)] 43
  rw [show (w.alloc (.cells #[.bool nb1,.slice A1 L1 c1,.int .i64 (dx:Int)] 43)).heap.size=w.heap.size+1 by simp] at r1
  have D1':=D1.below b0 hm
  have D2':=D2.below b0 hm
  clear D1 D2
  go_enter func15,ntmps15
  go_wp2_with fail
  obtain ⟨W,hW⟩:∃ W,W=((w.alloc (.cells #[.bool nb1,.slice A1 L1 c1,.int .i64 (dx:Int)] 43)).alloc (.cells #[.bool nb2,.slice A2 L2 c2,.int .i64 (dy:Int)] 43)):=⟨_,rfl⟩
  have hWs:W.heap.size=w.heap.size+2:=by rw [hW];simp
  rw [←hW]
  rw [←hW] at b0 D1' D2' r0 r1
  clear hW
  have a0:W.cell? ⟨w.heap.size,0,none⟩=some (.bool nb1):=r0.cell 0
  have a1:W.cell? ⟨w.heap.size,1,none⟩=some (.slice A1 L1 c1):=r0.cell 1
  have a2:W.cell? ⟨w.heap.size,2,none⟩=some (.int .i64 (dx:Int)):=r0.cell 2
  have e0:W.cell? ⟨w.heap.size+1,0,none⟩=some (.bool nb2):=r1.cell 0
  have e1:W.cell? ⟨w.heap.size+1,1,none⟩=some (.slice A2 L2 c2):=r1.cell 1
  have e2:W.cell? ⟨w.heap.size+1,2,none⟩=some (.int .i64 (dy:Int)):=r1.cell 2
  have hz:w.heap.size+2≤W.heap.size:=by omega
  have hle:m≤w.heap.size+2:=by omega
  obtain ⟨sx,hsx⟩:∃ sx,sx=sgI x:=⟨_,rfl⟩
  obtain ⟨sy,hsy⟩:∃ sy,sy=sgI y:=⟨_,rfl⟩
  have HSX:=mo hsx
  have HSY:=mo hsy
  have hrx:=Pn x
  have hry:=Pn y
  rw [←hsx] at hrx
  rw [←hsy] at hry
  have hc1:∀ u:QF W (w.heap.size+2),Calls prog 55 #[.agg #[.bool nb1,.slice A1 L1 c1,.int .i64 (dx:Int)]] u.val fun e w'=>e=.returned (.int .i64 sx)∧Below u.val.heap.size u.val w':=fun u=>by
    rw [hsx];exact Abc (D1'.below u.is hle) (lT hle u.fits) (by omega)
  have hc2:∀ u:QF W (w.heap.size+2),Calls prog 55 #[.agg #[.bool nb2,.slice A2 L2 c2,.int .i64 (dy:Int)]] u.val fun e w'=>e=.returned (.int .i64 sy)∧Below u.val.heap.size u.val w':=fun u=>by
    rw [hsy];exact Abc (D2'.below u.is hle) (lT hle u.fits) (by omega)
  have HC1:=mo hc1
  have HC2:=mo hc2
  clear hsx hsy hc1 hc2 hWs
  refine Qq (w.heap.size+2) hz (by kernel_rfl) (by kernel_rfl) ?_
  intro _
  repeat (go_big_quiet_step ((first
    | (go_at_call_of 55 (Value.agg #[.bool nb1,.slice A1 L1 c1,.int .i64 (dx:Int)]);exact Lz (HC1.out _))
    | (go_at_call_of 55 (Value.agg #[.bool nb2,.slice A2 L2 c2,.int .i64 (dy:Int)]);exact Lz (HC2.out _)))))
  refine wpQuiet_nil ?_
  intro w2 hw'
  obtain ⟨⟨_,hb2,hz2⟩,rfl⟩:=hw'
  have s0:=r0.below hb2 (by omega)
  have s1:=r1.below hb2 (by omega)
  have b2:=b0.trans (hb2.mono (by omega))
  replace D1':=D1'.below hb2 hle
  replace D2':=D2'.below hb2 hle
  clear r0 r1 b0 a0 a1 a2 e0 e1 e2 hz hb2 HC1 HC2
  have a0:w2.cell? ⟨w.heap.size,0,none⟩=some (.bool nb1):=s0.cell 0
  have a1:w2.cell? ⟨w.heap.size,1,none⟩=some (.slice A1 L1 c1):=s0.cell 1
  have a2:w2.cell? ⟨w.heap.size,2,none⟩=some (.int .i64 (dx:Int)):=s0.cell 2
  have e0:w2.cell? ⟨w.heap.size+1,0,none⟩=some (.bool nb2):=s1.cell 0
  have e1:w2.cell? ⟨w.heap.size+1,1,none⟩=some (.slice A2 L2 c2):=s1.cell 1
  have e2:w2.cell? ⟨w.heap.size+1,2,none⟩=some (.int .i64 (dy:Int)):=s1.cell 2
  by_cases hne:sx=sy
  · have hnb:(sx != sy)=false:=by rw [hne];simp
    have HNE:=mo hne
    clear hne
    go_wp2_with fail
    go_at_call 56
    refine (Akq D1' D2' (by omega) l1 l2).mono ?_
    rintro e w3 ⟨u1,u2,D,rfl,Y1,Y2,hb3⟩
    have b3:=b2.trans (hb3.mono (by omega))
    obtain ⟨A3,L3,c3,rfl⟩:=Y1.form
    obtain ⟨A4,L4,c4,rfl⟩:=Y2.form
    have hla:(Ad (x.natAbs*2 ^ (max dx dy - dx))).length≤100000:=by
      have:=Bs x.natAbs (max dx dy - dx)
      omega
    have hlb:(Ad (y.natAbs*2 ^ (max dx dy - dy))).length≤100000:=by
      have:=Bs y.natAbs (max dx dy - dy)
      omega
    have HLA:=mo hla
    have HLB:=mo hlb
    have Y1':=mo Y1
    have Y2':=mo Y2
    obtain ⟨cv,hcv⟩:∃ cv,cv=sgI (((x.natAbs*2 ^ (max dx dy - dx):Nat):Int) - ((y.natAbs*2 ^ (max dx dy - dy):Nat):Int)):=⟨_,rfl⟩
    have hcr:=Pn (((x.natAbs*2 ^ (max dx dy - dx):Nat):Int) - ((y.natAbs*2 ^ (max dx dy - dy):Nat):Int))
    rw [←hcv] at hcr
    have HCV:=mo hcv
    have hres:AaF x dx y dy=if x<0 then -cv else cv:=by
      have hs:(x<0) ↔ (y<0):=by
        have h5:=HNE.out
        rw [HSX.out,HSY.out] at h5
        unfold sgI at h5
        constructor <;> intro h6 <;> (repeat (first|split at h5|omega))
      have hz:(x=0) ↔ (y=0):=by
        have h5:=HNE.out
        rw [HSX.out,HSY.out] at h5
        unfold sgI at h5
        constructor <;> intro h6 <;> (repeat (first|split at h5|omega))
      rw [hcv,Xy,Xy]
      unfold AaF
      by_cases h:x<0
      · rw [if_pos h,if_pos h,if_pos (hs.1 h),←Xx]
        congr 1
        omega
      · rw [if_neg h,if_neg h,if_neg (fun h2=>h (hs.2 h2))]
    have HRES:=mo hres
    clear hla hlb Y1 Y2 hcv hres hb3 b2
    cases hdx:decide (x<0) with
    | true =>
      have HXN := mo (show x < 0 by simpa using hdx)
      clear hdx
      go_wp2_with (go_at_call 57;refine (MJ Y1'.out Y2'.out HLA.out HLB.out).mono ?_;rintro e w4 ⟨rfl,hb4⟩;rw [←HCV.out])
      go_ret
      exact ⟨by rw [HRES.out,if_pos HXN.out];rfl,b3.trans (hb4.mono (by have:=b3.size;omega))⟩
    | false =>
      have HXN := mo (show ¬ x < 0 by simpa using hdx)
      clear hdx
      go_wp2_with (go_at_call 57;refine (MJ Y1'.out Y2'.out HLA.out HLB.out).mono ?_;rintro e w4 ⟨rfl,hb4⟩;rw [←HCV.out])
      go_ret
      exact ⟨by rw [HRES.out,if_neg (by have:=HXN.out;omega)];rfl,b3.trans (hb4.mono (by have:=b3.size;omega))⟩
  · have hnb:(sx != sy)=true:=by simpa using hne
    by_cases hlt:sx<sy
    · have HV := mo (show AaF x dx y dy = -1 by unfold AaF; refine Aie ?_; rw [Gp, Gp, ← HSX.out, ← HSY.out]; exact hlt)
      have hltb:decide (sx<sy)=true:=decide_eq_true hlt
      clear hne
      go_wp2_with fail
      go_ret
      exact ⟨by rw [HV.out];rfl,b2⟩
    · have HV := mo (show AaF x dx y dy = 1 by unfold AaF; refine Aok ?_; rw [Gp, Gp, ← HSX.out, ← HSY.out]; omega)
      have hltb:decide (sx<sy)=false:=decide_eq_false hlt
      clear hne
      go_wp2_with fail
      go_ret
      exact ⟨by rw [HV.out];rfl,b2⟩
structure Bk where
 kind:Int
 A:Option Addr
 args:List Int
 cap:Nat
 vn:Int
 ve:Int
 un:Int
 ue:Int
def Bk.cells (b:Bk):List Value:=[.int .i64 b.kind,.slice b.A b.args.length b.cap,.int .i64 b.vn,.int .i64 b.ve,.int .i64 b.un,.int .i64 b.ue]
def bk0:Bk:=⟨0,none,[],0,0,0,0,0⟩
def AG (bs:List Bk) (i:Nat):Int:=(bs[i]?.getD bk0).kind
def QY (bs:List Bk) (i:Nat):List Int:=(bs[i]?.getD bk0).args
def GD (bs:List Bk) (i:Nat):List Int:=if AG bs i=0 then [] else QY bs i
theorem Aol:∀ {l1 l2:List Nat},l1.Nodup→(∀ x∈l1,x∈l2)→l1.length≤l2.length
 | [],_,_,_=>ad _
 | x::l,l2,hn,hs=>by
  have hx:=hs x (by simp)
  have hn':=List.nodup_cons.1 hn
  have:=Aol (l1:=l) (l2:=l2.erase x) hn'.2 (fun y hy=>(List.mem_erase_of_ne (fun h=>hn'.1 (by rw [←h];exact hy))).2 (hs y (by simp [hy])))
  rw [List.length_erase_of_mem hx] at this
  have hp:0<l2.length:=List.length_pos_of_mem hx
  simp
  omega
theorem Zt (p:Nat→Bool) (l:List Nat):(l.filter p).length+(l.filter fun i=>!p i).length=l.length:=by
 induction l with
 | nil=>rfl
 | cons x l ih =>
  simp only [kc]
  cases h:p x <;> simp <;> omega
/- The order. -/
def EA (bs:List Bk) (out:List Nat) (j:Nat):Bool:=AG bs j == 2 || out.contains j
def rdy (bs:List Bk) (out:List Nat) (i:Nat):Bool:=!EA bs out i && (GD bs i).all fun a=>EA bs out a.toNat
def nxt (bs:List Bk) (out:List Nat):Option Nat:=(List.range bs.length).find? (rdy bs out)
def Xz (bs:List Bk):Nat→List Nat→List Nat
 | 0,out=>out
 | f+1,out=>match nxt bs out with
  | none=>out
  | some i=>Xz bs f (out++[i])
def CQ (bs:List Bk):Nat:=((List.range bs.length).filter fun i=>AG bs i != 2).length
def BH (bs:List Bk):List Nat:=Xz bs bs.length []
def Bx (bs:List Bk):List Nat:=(List.range bs.length).filter fun i=>AG bs i == 2
structure EX (bs:List Bk) (out:List Nat):Prop where
 nodup:out.Nodup
 mem:∀ j∈out,j<bs.length∧AG bs j≠2
theorem Sc {bs:List Bk} (h:nxt bs out=some i):i<bs.length∧rdy bs out i=true:=by
 have h1:=List.find?_some h
 have h2:=List.mem_of_find?_eq_some h
 exact ⟨by simpa using h2,h1⟩
theorem EX.nil (bs:List Bk):EX bs []:=⟨List.nodup_nil,by simp⟩
theorem EX.push {bs:List Bk} (h:EX bs out) {i:Nat} (hn:nxt bs out=some i):EX bs (out++[i]):=by
 obtain ⟨h1,h2⟩:=Sc hn
 simp only [rdy,EA,ah,lc,ke,beq_eq_false_iff_ne] at h2
 refine ⟨List.nodup_append.2 ⟨h.nodup,by simp,fun x hx y hy=>?_⟩,fun j hj=>?_⟩
 ·simp at hy
  subst hy
  intro he
  subst he
  have:=h2.1.2
  simp [hx] at this
 ·rcases List.mem_append.1 hj with hj|hj
  ·exact h.mem j hj
  ·simp at hj
   subst hj
   exact ⟨h1,h2.1.1⟩
theorem EX.le {bs:List Bk} (h:EX bs out):out.length≤CQ bs:=by
 have hs:out ⊆ (List.range bs.length).filter fun i=>AG bs i != 2:=fun j hj=>by
  have:=h.mem j hj
  simp [this.1,this.2]
 exact Aol h.nodup hs
theorem GP (bs:List Bk):CQ bs≤bs.length:=by
 unfold CQ
 have:=kg (fun i=>AG bs i != 2) (List.range bs.length)
 simpa using this
theorem FJ {bs:List Bk}:∀ (f:Nat) {out:List Nat},EX bs out→EX bs (Xz bs f out)
 | 0,_,h=>h
 | f+1,out,h=>by
  unfold Xz
  split
  ·exact h
  ·rename_i i hi
   exact FJ f (h.push hi)
theorem TX {bs:List Bk}:∀ (f g:Nat) {out:List Nat},EX bs out→CQ bs - out.length≤f→f≤g→Xz bs f out=Xz bs g out
 | 0,g,out,h,hf,_=>by
  have hfull:out.length=CQ bs:=by have:=h.le;omega
  cases g with
  | zero=>rfl
  | succ g =>
   show out=match nxt bs out with|none=>out|some i=>Xz bs g (out++[i])
   cases hn:nxt bs out with
   | none=>rfl
   | some i =>
    have:=(h.push hn).le
    simp at this
    omega
 | f+1,0,_,_,_,hg=>by omega
 | f+1,g+1,out,h,hf,hg=>by
  show (match nxt bs out with|none=>out|some i=>Xz bs f (out++[i]))=match nxt bs out with|none=>out|some i=>Xz bs g (out++[i])
  cases hn:nxt bs out with
  | none=>rfl
  | some i=>exact TX f g (h.push hn) (by simp;omega) (by omega)
theorem Akr (bs:List Bk):(Bx bs).length+CQ bs=bs.length:=by
 unfold Bx CQ
 have h:=Zt (fun i=>AG bs i == 2) (List.range bs.length)
 rw [kh] at h
 exact h
/- What a block depends on. -/
def TY (bs:List Bk) (over:Bool) (i:Nat):List Int:=if AG bs i=2∧over=false then [] else GD bs i
def XA (bs:List Bk):Prop:=∀ i,i<bs.length→∀ a∈GD bs i,0≤a∧a<(bs.length:Int)
theorem VK {bs:List Bk} {over:Bool} (h:a∈TY bs over i):a∈GD bs i:=by
 unfold TY at h
 split at h
 ·cases h
 ·exact h
/- The document's way: pass after pass. -/
def AO (k:Int):Int:=if k=1 then 0 else if k=0∨k=2∨k=5∨k=10∨k=6∨k=11 then 1 else if k=3∨k=4∨k=7∨k=8∨k=9 then 2 else -1
def GR (n lo hi:Int):Bool:=decide (lo≤n∧n≤hi)
def Df (num ex:Int):Prop := -2147483648<num∧num<2147483648 ∧ -62≤ex∧ex≤30
instance (num ex:Int):Decidable (Df num ex):=by unfold Df;infer_instance
def CG (num ex:Int) (used:Bool):Int:=if used=true then (if Df num ex then 0 else 3) else (if num=0∧ex=0 then 0 else 2)
def Tf (num ex:Int):Int:=num*2 ^ (ex+62).toNat
def NR (an ae bn be:Int):Int:=sgI (Tf an ae - Tf bn be)
theorem Hx {num ex:Int} (h1 : -62≤ex) (h2:ex≤30):(Ac num 0 ex).1*2 ^ 62=Tf num ex*2 ^ (Ac num 0 ex).2:=by
 unfold Ac Tf
 have e:max (-65536) (min ex 65536)=ex:=by omega
 rw [e]
 by_cases h:ex<0
 ·rw [if_pos h]
  obtain ⟨n,hn⟩:∃ n:Nat,ex = -(n:Int):=⟨(-ex).toNat,by omega⟩
  have e1:(-ex).toNat=n:=by omega
  have e2:(ex+62).toNat=62 - n:=by omega
  rw [e1,e2,bc]
  have h3:=AaY num n
  have h4:(2:Int) ^ 62=2 ^ n*2 ^ (62 - n):=by rw [←ao,show n+(62 - n)=62 by omega]
  rw [h4,←ai,h3,ai,ai,bz (2 ^ _) (2 ^ _)]
 ·rw [if_neg h]
  obtain ⟨n,rfl⟩:=kx (show 0≤ex by omega)
  rw [am,Gl (by omega),show ((n:Int)+62).toNat=n+62 by omega,ao]
  simp [ai]
theorem Aks {an ae bn be:Int} (h1:Df an ae) (h2:Df bn be):AaF (Ac an 0 ae).1 (Ac an 0 ae).2 (Ac bn 0 be).1 (Ac bn 0 be).2=NR an ae bn be:=by
 have e1:=Hx h1.2.2.1 h1.2.2.2 (num:=an)
 have e2:=Hx h2.2.2.1 h2.2.2.2 (num:=bn)
 unfold AaF NR
 revert e1 e2
 generalize Ac an 0 ae=p
 generalize Ac bn 0 be=q
 obtain ⟨x,dx⟩:=p
 obtain ⟨y,dy⟩:=q
 generalize Tf an ae=V1
 generalize Tf bn be=V2
 intro e1 e2
 dsimp only at e1 e2 ⊢
 rw [←Gp _ 62,←Gp (V1 - V2) (max dx dy)]
 congr 1
 have f1:(2:Int) ^ max dx dy=2 ^ dx*2 ^ (max dx dy - dx):=by rw [←ao,show dx+(max dx dy - dx)=max dx dy by omega]
 have f2:(2:Int) ^ max dx dy=2 ^ dy*2 ^ (max dx dy - dy):=by rw [←ao,show dy+(max dx dy - dy)=max dx dy by omega]
 rw [ej,ej]
 congr 1
 ·rw [f1,←ai,←e1,ai,ai,bz (2 ^ _) (2 ^ _)]
 ·rw [f2,←ai,←e2,ai,ai,bz (2 ^ _) (2 ^ _)]
structure Sd (n e n0 e0 e1:Int):Prop where
 eq:Tf n e=Tf n0 e0
 lo : -62≤e
 hi:e≤e0
 least:e=e0∨e1≤e
 small : -4294967296<n∧n<4294967296
 same:e=e0→n=n0
theorem VL {x:Int} (h:0<x):sgI x=1:=by unfold sgI;rw [if_neg (by omega),if_neg (by omega)]
theorem VM {x:Int} (h:x<0):sgI x = -1:=by unfold sgI;rw [if_neg (by omega),if_pos h]
theorem AbS {n:Int} (k:Nat) (h : -62≤e - k):Tf n e=(n*2 ^ k)*2 ^ (e - k+62).toNat:=by
 unfold Tf
 rw [ai,←ao,show k+(e - (k:Int)+62).toNat=(e+62).toNat by omega]
theorem AbT {n:Int} (h:2147483648≤n) (k:Nat):2147483648≤n*2 ^ k:=by
 have hp:(1:Int)≤2 ^ k:=by have:=gg (n:=2) (m:=k) (by decide);omega
 have:=mj hp (show 0≤n by omega)
 omega
theorem Akt {n:Int} (h:n ≤ -2147483648) (k:Nat):n*2 ^ k ≤ -2147483648:=by
 have:=AbT (n := -n) (by omega) k
 rw [ct] at this
 omega
theorem XB (x y:Int):sgI (x - y) = -sgI (y - x):=by rw [←Xx];congr 1;omega
theorem XD {ea b eb:Int} (h1 : -62≤eb) (h2:eb≤ea) (h:ea=eb∨a=0∨2147483648≤a∨a ≤ -2147483648) (hb : -2147483648<b∧b<2147483648):sgI (Tf a ea - Tf b eb)=sgI (a - b):=by
 obtain ⟨k,hk⟩:=kx (show 0≤ea - eb by omega)
 have e1:Tf a ea=(a*2 ^ k)*2 ^ (eb+62).toNat:=by rw [AbS k (by omega),show ea - (k:Int)=eb by omega]
 have e2:Tf a ea - Tf b eb=(a*2 ^ k - b)*2 ^ (eb+62).toNat:=by rw [e1,ej];rfl
 rw [e2,Gp]
 rcases h with h|h|h|h
 ·have:k=0:=by omega
  subst this
  simp
 ·subst h;simp
 ·have:=AbT h k
  rw [VL (by omega),VL (by omega)]
 ·have:=Akt h k
  rw [VM (by omega),VM (by omega)]
theorem AfU {ea b eb:Int} (h1 : -62≤ea) (h2:ea≤eb) (h:eb=ea∨b=0∨2147483648≤b∨b ≤ -2147483648) (ha : -2147483648<a∧a<2147483648):sgI (Tf a ea - Tf b eb)=sgI (a - b):=by
 rw [XB,XD h1 h2 h ha,←XB]
theorem XE {n n0 e0 e1:Int} (h:Sd n e n0 e0 e1) (hs : -2147483648<n∧n<2147483648) (hgt:e1<e) (h1 : -62≤e1):Sd (2*n) (e - 1) n0 e0 e1 :=
 ⟨by rw [←h.eq,AbS (n:=n) (e:=e) 1 (by omega)];unfold Tf;rw [bz 2 n];rfl,by omega,by have:=h.hi;omega,.inr (by omega),by omega,fun h2=>by have:=h.hi;omega⟩
theorem BZ (x y:Int):sgI (x - y)=if x<y then -1 else if y<x then 1 else 0:=by
 by_cases h:x<y
 ·rw [if_pos h,VM (by omega)]
 ·rw [if_neg h]
  by_cases h2:y<x
  ·rw [if_pos h2,VL (by omega)]
  ·rw [if_neg h2,show x - y=0 by omega];rfl
theorem Gq {an ae bn be n n2 e2:Int} (H1:Sd n e an ae be) (X1:e≤be∨n=0∨2147483648≤n∨n ≤ -2147483648) (H2:Sd n2 e2 bn be e) (X2:e2≤e∨n2=0∨2147483648≤n2∨n2 ≤ -2147483648)
  (sa : -2147483648<an∧an<2147483648) (sb : -2147483648<bn∧bn<2147483648):NR an ae bn be=sgI (n - n2):=by
 unfold NR
 rw [←H1.eq,←H2.eq]
 have l1:=H1.lo
 have l2:=H2.lo
 have u1:=H1.hi
 have u2:=H2.hi
 by_cases hc:be≤e
 ·have he:e2=be:=by rcases H2.least with h|h <;> omega
  have hn:=H2.same he
  exact XD l2 (by omega) (by rcases X1 with h|h|h|h <;> omega) (by rw [hn];exact sb)
 ·have he:e=ae:=by rcases H1.least with h|h <;> omega
  have hn:=H1.same he
  exact AfU l1 (by rcases H2.least with h|h <;> omega) (by rcases X2 with h|h|h|h <;> rcases H2.least with h'|h' <;> omega) (by rw [hn];exact sa)
open Go.Deep
theorem EY {bs:List Bk} {k:Nat} {x:Bk} (h:bs[k]?=some x):AG bs k=x.kind:=by simp [AG,h]
theorem Aku {bs:List Bk} {k:Nat} {x:Bk} (h:bs[k]?=some x):QY bs k=x.args:=by simp [QY,h]
theorem Oh {bs:List Bk} {k:Nat} {x:Bk} (h:bs[k]?=some x):GD bs k=if x.kind=0 then [] else x.args:=by simp [GD,EY h,Aku h]
theorem XF {bs:List Bk} {k:Nat} {x:Bk} {over:Bool} (h:bs[k]?=some x):TY bs over k=if x.kind=2∧over=false then [] else if x.kind=0 then [] else x.args:=by simp [TY,EY h,Oh h]
def BK (l:List Nat):List Int:=l.map fun n:Nat=>(n:Int)
def fl (p:Nat→Bool) (k:Nat):List Nat:=(List.range k).filter p
theorem AbU {p:Nat→Bool} {k:Nat} (h:p k=true):fl p (k+1)=fl p k++[k]:=by unfold fl;rw [ek,ki];simp [h]
theorem Akv {p:Nat→Bool} {k:Nat} (h:p k=false):fl p (k+1)=fl p k:=by unfold fl;rw [ek,ki];simp [h]
theorem Akw (p:Nat→Bool) (k:Nat):(fl p k).length≤k:=by unfold fl;simpa using kg p (List.range k)
def CH (bs:List Bk) (i:Nat):Bool:=AG bs i == 2
open Go.ChangeShapes Go.WideShapes Go.ChangeAt Go.Joins
theorem Se {α:Type} {f:α→List Value} (hf:∀ x,(f x).length=s) (l:List α):(MH f l).length=l.length*s:=by
 induction l with
 | nil=>simp [MH]
 | cons x l ih =>
  simp only [MH,ce,fp,ak,hf] at ih ⊢
  rw [ih,bk,Nat.succ_mul,Nat.add_comm]
theorem AfV {cs:List Value} (h:∀ c∈cs,∃z:Int,c=.int .i64 z ∧ -9223372036854775808≤z∧z≤9223372036854775807):∃ zs:List Int,cs=Ii zs∧∀ z∈zs,-9223372036854775808≤z∧z≤9223372036854775807:=by
 induction cs with
 | nil=>exact ⟨[],rfl,by simp⟩
 | cons c cs ih =>
  obtain ⟨zs,rfl,hz⟩:=ih (fun c hc=>h c (by simp [hc]))
  obtain ⟨z,rfl,hb⟩:=h c (by simp)
  exact ⟨z::zs,rfl,fun y hy=>by
   rcases List.mem_cons.1 hy with rfl|hy
   ·exact hb
   ·exact hz y hy⟩
section
variable {H:Type} {enc:TypeId × Value→H} {P:Program} {w:World} {spare:Nat→Bool} {held:Bool}
theorem XG {e:TypeId} {fs:Array Field} {cs:List Value} {x:DataW H × List MemPlace} (hs:P.underlying e=some (.struct fs)) (hone:oneCellFields P fs=true) (hint:∀ (i:Nat) (f:Field),fs[i]?=some f→P.underlying f.type=some (.int .i64)) (hC:P.cellsOf e=fs.size)
  (h:DataW.trod enc P w 0 spare held fuel e cs=some x):∃ zs:List Int,cs=Ii zs∧zs.length=fs.size∧∀ z∈zs,-9223372036854775808≤z∧z≤9223372036854775807:=by
 obtain ⟨xs,n,_,_,hlen,hxl,hg⟩:=lr hs h
 obtain ⟨zs,rfl,hz⟩:=AfV (cs:=cs) (fun c hc=>by
  obtain ⟨i,hi⟩:=dt hc
  have hil:i<cs.length:=(gS.1 hi).1
  have hif:i<fs.size:=by omega
  have hf:fs[i]?=some fs[i]:=by simp [hif]
  obtain ⟨o0,k0⟩:=hone_of hone i fs[i] hf
  have hgi:=hg i fs[i] hf
  rw [o0,k0,take1_drop cs i undef hil,gE (by omega)] at hgi
  obtain ⟨z,hz,_,hw⟩:=DataW.trod_int (hint i fs[i] hf) hgi
  have hd:cs.getD i undef=c:=by simp [List.getD,hi]
  rw [hd] at hz
  exact ⟨z,by simpa using hz,bounds_i64 hw⟩)
 exact ⟨zs,rfl,by rw [←Oa,hlen,hC],hz⟩
theorem Aom (h:p:=by
 rcases ba b w.heap.size with h|h
 ·exact h
 ·simp [World.cell?,Addr.add,ep h] at h00):p:=h
theorem TZ {α:Type} {f:α→List Value} (mk:List Int→α) (hmk:∀ zs,zs.length=s→f (mk zs)=Ii zs) (hfl:∀ x,(f x).length=s) (hs0:0<s) {t e:TypeId} {fs:Array Field} {fuel:Nat} {v:Value} {x:DataW H × List MemPlace} (ht:P.underlying t=some (.slice e)) (hs:P.underlying e=some (.struct fs)) (hone:oneCellFields P fs=true) (hint:∀ (i:Nat) (f:Field),fs[i]?=some f→P.underlying f.type=some (.int .i64)) (hC:P.cellsOf e=fs.size) (hsz:fs.size=s)
  (h:DataW.trod enc P w 0 spare held fuel t [v]=some x) :
  ∃ (A:Option Addr) (cap:Nat) (l:List α),v=.slice A l.length cap∧(A=none→cap=0)∧l.length≤cap∧l.length≤maxLen∧Al w w.heap.size A (MH f l)∧(∀ x∈l,∃zs,x=mk zs∧zs.length=s∧∀ z∈zs,-9223372036854775808≤z∧z≤9223372036854775807):=by
 rcases open_slice ht h with ⟨hcs,_⟩|⟨a,len,cap,m,n,D,Pl,hcs,_,hl,hm,hmm,_,hx⟩
 ·exact ⟨none,0,[],by simpa using hcs,fun _=>rfl,aa _,ad _,Al.nil_,by simp⟩
 ·have hle:len≤m:=by rw [hmm];split <;> omega
  rw [hC,hsz] at hx
  obtain ⟨R,hR⟩:=choose_lt (α:=List Int) (n:=len) (p:=fun i zs=>zs.length=s∧(∀ z∈zs,-9223372036854775808≤z∧z≤9223372036854775807)∧∀ j,j<s→w.cell? (a.add (i*s+j))=(Ii zs)[j]?) (fun i hi=>by
   obtain ⟨cs',h1,h2⟩:=hx i (by omega)
   obtain ⟨zs,rfl,hzl,hzb⟩:=XG hs hone hint hC h2
   obtain ⟨_,hlen,hcell⟩:=World.cells?_some h1
   exact ⟨zs,hzl.trans hsz,hzb,fun j hj=>by rw [←add_add];exact hcell j hj⟩)
  refine ⟨some a,cap,(List.range len).map (fun i=>mk (R i)),by simpa using hcs,by simp,by simpa using hl,by simp;omega,fun hne=>?_,?_⟩
  ·have hpos:0<len:=by
    rcases cn len with h0|h0
    ·subst h0;simp [MH] at hne
    ·exact h0
   obtain ⟨b,off,spot⟩:=a
   have h00:=(hR 0 hpos).2.2 0 hs0
   have hz0:(Ii (R 0))[0]?=some ((Ii (R 0))[0]'(by rw [Oa,(hR 0 hpos).1];exact hs0)):=gE _
   rw [hz0] at h00
   have hspot:spot=none:=by simpa [Addr.add] using World.cell?_spot h00
   subst hspot
   have hb:b<w.heap.size:=by
    exact Aom
   refine ⟨b,off,rfl,hb,hb,fun j u hu=>?_⟩
   have hjl:j<len*s:=by
    have:=(gS.1 hu).1
    rw [Se hfl] at this
    simpa using this
   have hk:j / s<len:=kt (by rw [ar];exact hjl)
   have hr:j % s<s:=ew _ hs0
   have hj:j / s*s+j % s=j:=by rw [ar];exact dn j s
   have hg:((List.range len).map (fun i=>mk (R i)))[j / s]?=some (mk (R (j / s))):=by simp [hk]
   have h1:=Hm hfl hg hr
   rw [hj,hu,hmk _ (hR _ hk).1] at h1
   have h2:=(hR _ hk).2.2 (j % s) hr
   rw [hj,←h1] at h2
   rw [←Go.WideShapes.add_plain]
   exact h2
  ·intro y hy
   obtain ⟨i,hi,rfl⟩:=List.mem_map.1 hy
   have:=hR i (by simpa using hi)
   exact ⟨_,rfl,this.1,this.2.1⟩
theorem EB {e:TypeId} {x:DataW H × List MemPlace} (ht:P.underlying t=some (.slice e)) (he:P.underlying e=some (.int .i64)) (hc:P.cellsOf e=1)
  (h:DataW.trod enc P w 0 spare held fuel t [v]=some x) :
  ∃ (A:Option Addr) (cap:Nat) (zs:List Int),v=.slice A zs.length cap∧(A=none→cap=0)∧zs.length≤cap∧zs.length≤maxLen∧Al w w.heap.size A (Ii zs)∧(∀ z∈zs,-9223372036854775808≤z∧z≤9223372036854775807):=by
 obtain ⟨A,cap,zs,hv,h1,h2,h3,h4⟩:=Tk ht he hc h
 refine ⟨A,cap,zs,hv,fun hA=>?_,h1,h2,h3,h4⟩
 subst hA hv
 rcases open_slice ht h with ⟨hcs,_⟩|⟨a,len,cap',m,n,D,Pl,hcs,_⟩
 ·simp at hcs
  exact hcs.2
 ·simp at hcs
end
theorem CR (l:List Nat):(BK l).length=l.length:=by simp [BK]
theorem Hy (l:List Nat) (i:Nat):BK (l++[i])=BK l++[(i:Int)]:=by simp [BK]
theorem XH (l:List Nat) (i:Nat):(BK l).contains (i:Int)=l.contains i:=by
 induction l with
 | nil=>rfl
 | cons x l ih =>
  show List.contains ((x:Int)::BK l) (i:Int)=_
  rw [List.contains_cons,List.contains_cons,ih]
  have e:((i:Int) == (x:Int))=(i == x):=by
   by_cases h:i=x
   ·subst h;simp
   ·rw [beq_eq_false_iff_ne.2 h,beq_eq_false_iff_ne.2 (show ¬ (i:Int)=(x:Int) by omega)]
  rw [e]
theorem Pr (bs:List Bk) (out:List Nat) (i:Nat):rdy bs out i=(!EA bs out i && (GD bs i).all fun a=>EA bs out a.toNat):=rfl
def Sf (bs:List Bk) (out:List Nat) (k:Nat):Prop:=∀ j,j<k→rdy bs out j=false
theorem Sf.zero (bs:List Bk) (out:List Nat):Sf bs out 0:=fun j h=>absurd h (fk j)
theorem Sf.succ {bs:List Bk} {k:Nat} (h:Sf bs out k) (h2:rdy bs out k=false):Sf bs out (k+1):=fun j hj=>by
 by_cases e:j=k
 ·subst e;exact h2
 ·exact h j (by omega)
theorem Zu {p:Nat→Bool} {k:Nat} (hk:k<n) (h:∀ j,j<k→p j=false) (h2:p k=true):(List.range n).find? p=some k:=by
 rw [List.find?_eq_some_iff_append]
 refine ⟨h2,List.range k,(List.range n).drop (k+1),?_,fun a ha=>by simpa using h a (by simpa using ha)⟩
 refine fj fun i=>?_
 rcases Nat.lt_trichotomy i k with h3|h3|h3
 ·rw [de (by simpa using h3)]
  simp [h3,show i<n by omega]
 ·subst h3
  rw [dg (by simp)]
  simp [hk]
 ·rw [dg (by simp;omega)]
  simp only [kh]
  obtain ⟨q,rfl⟩:∃ q,i=k+1+q:=⟨i - k - 1,by omega⟩
  rw [show k+1+q - k=q+1 by omega]
  simp [cj]
theorem AbV {p:Nat→Bool} (h:∀ j,j<n→p j=false):(List.range n).find? p=none:=by
 rw [List.find?_eq_none]
 intro x hx
 simpa using h x (by simpa using hx)
theorem Aon {bs:List Bk} {k:Nat} (hk:k<bs.length) (h:Sf bs out k) (h2:rdy bs out k=true):nxt bs out=some k:=Zu hk h h2
theorem AfW {bs:List Bk} (h:Sf bs out bs.length):nxt bs out=none:=AbV h
structure Lj (bs:List Bk) (out:List Nat):Prop where
 ok:EX bs out
 more:Xz bs bs.length out=BH bs
theorem Lj.nil (bs:List Bk):Lj bs []:=⟨EX.nil bs,rfl⟩
theorem Lj.push {bs:List Bk} (h:Lj bs out) (hn:nxt bs out=some i):Lj bs (out++[i]):=by
 refine ⟨h.ok.push hn,?_⟩
 have h1:=TX bs.length (bs.length+1) h.ok (by have:=GP bs;omega) (by omega)
 rw [←h.more,h1]
 show _=match nxt bs out with|none=>out|some i=>Xz bs bs.length (out++[i])
 rw [hn]
theorem Lj.done {bs:List Bk} (h:Lj bs out) (hn:nxt bs out=none):BH bs=out:=by
 rw [←h.more]
 cases hb:bs.length with
 | zero=>rfl
 | succ f =>
  show (match nxt bs out with|none=>out|some i=>Xz bs f (out++[i]))=out
  rw [hn]
theorem Lj.full {bs:List Bk} (h:Lj bs out) (hf:CQ bs≤out.length):BH bs=out:=by
 refine h.done ?_
 cases hn:nxt bs out with
 | none=>rfl
 | some i =>
  have:=(h.ok.push hn).le
  simp at this
  omega
theorem Lj.lt {bs:List Bk} (h:Lj bs out) (hn:nxt bs out=some i):out.length<CQ bs:=by
 have:=(h.ok.push hn).le
 simp at this
 omega
def Akx (bs:List Bk) (out:List Nat) (xs:List Int) (t:Nat):Bool:=(xs.take t).all fun a=>EA bs out a.toNat
theorem Ua {bs:List Bk} {t:Nat} (h:xs[t]?=some a):Akx bs out xs (t+1)=(Akx bs out xs t && EA bs out a.toNat):=by
 unfold Akx
 rw [aw,h,List.all_append]
 simp
theorem XI {bs:List Bk} {t:Nat} (h:xs.length≤t):Akx bs out xs t=xs.all fun a=>EA bs out a.toNat:=by unfold Akx;rw [aq h]
theorem XJ {bs:List Bk} {a:Nat} {x:Bk} (h:bs[a]?=some x):EA bs out a=(x.kind == 2 || out.contains a):=by unfold EA;rw [EY h]
def EZ (bs:List Bk):Int:=if (BH bs).length=CQ bs then 0 else 24
def AmW (bs:List Bk):List Int:=if EZ bs=0 then BK (BH bs) else []
def GE (bs:List Bk) (k:Nat):List Bool:=(List.range bs.length).map fun j=>decide (j<k) && CH bs j
def FW (bs:List Bk) (out:List Nat):List Bool:=(List.range bs.length).map (EA bs out)
theorem Ub (bs:List Bk) (k:Nat):(GE bs k).length=bs.length:=by simp [GE]
theorem AbW (bs:List Bk) (out:List Nat):(FW bs out).length=bs.length:=by simp [FW]
theorem Zv (bs:List Bk):GE bs 0=List.replicate bs.length false:=by
 refine jc (by simp [GE]) fun i h1 h2=>?_
 simp [GE]
theorem AbX (bs:List Bk):GE bs bs.length=FW bs []:=by
 refine jc (by simp [GE,FW]) fun i h1 h2=>?_
 have:i<bs.length:=by rw [Ub] at h1;exact h1
 simp [GE,FW,EA,CH,this]
theorem AbY {bs:List Bk} {k:Nat} (hd:CH bs k=true):(GE bs k).set k true=GE bs (k+1):=by
 refine jc (by simp [GE]) fun i h1 h2=>?_
 rw [List.getElem_set]
 simp only [GE,ll,List.getElem_range]
 by_cases h:k=i
 ·subst h;simp [hd]
 ·rw [if_neg h]
  congr 1
  exact decide_eq_decide.2 (by omega)
theorem AfX {bs:List Bk} {k:Nat} (hd:CH bs k=false):GE bs (k+1)=GE bs k:=by
 refine jc (by simp [GE]) fun i h1 h2=>?_
 simp only [GE,ll,List.getElem_range]
 by_cases h:i=k
 ·subst h;simp [hd]
 ·congr 1
  exact decide_eq_decide.2 (by omega)
theorem Zw (bs:List Bk) (out:List Nat) (p:Nat):FW bs (out++[p])=(FW bs out).set p true:=by
 refine jc (by simp [FW]) fun i h1 h2=>?_
 rw [List.getElem_set]
 simp only [FW,ll,List.getElem_range,EA]
 by_cases h:p=i
 ·subst h;simp
 ·have h2:¬ i=p:=fun e=>h e.symm
  simp [h,h2]
def Ps (bs:List Bk) (i:Nat):Bool:=AG bs i != 2
theorem Zx (bs:List Bk):(fl (Ps bs) bs.length).length=CQ bs:=rfl
def LQ (bs:List Bk) (out:List Nat) (k:Nat):Int:=match (List.range k).find? (rdy bs out) with|none => -1|some p=>(p:Int)
theorem Zy (bs:List Bk) (out:List Nat):LQ bs out 0 = -1:=rfl
theorem AbZ {bs:List Bk} {k:Nat} (hp:LQ bs out k<0) (hr:rdy bs out k=true):LQ bs out (k+1)=(k:Int):=by
 unfold LQ at hp ⊢
 rw [ek,List.find?_append]
 cases h:(List.range k).find? (rdy bs out) with
 | none=>simp [hr]
 | some p=>rw [h] at hp;simp at hp;omega
theorem Sg {bs:List Bk} {k:Nat} (h:0≤LQ bs out k∨rdy bs out k=false):LQ bs out (k+1)=LQ bs out k:=by
 unfold LQ at h ⊢
 rw [ek,List.find?_append]
 cases hf:(List.range k).find? (rdy bs out) with
 | none =>
  rw [hf] at h
  rcases h with h|h
  ·simp at h
  ·simp [h]
 | some p=>simp
theorem Aca {bs:List Bk} (h:nxt bs out=none):LQ bs out bs.length = -1:=by unfold LQ;unfold nxt at h;rw [h]
theorem Acb {bs:List Bk} {p:Nat} (h:nxt bs out=some p):LQ bs out bs.length=(p:Int):=by unfold LQ;unfold nxt at h;rw [h]
theorem Acc {bs:List Bk} {k:Nat} (hd:EA bs out k=false):rdy bs out k=(TY bs false k).all fun a=>EA bs out a.toNat:=by
 rw [Pr,hd]
 have hk:AG bs k≠2:=by
  unfold EA at hd
  simp at hd
  exact hd.1
 unfold TY
 rw [if_neg (fun h=>hk h.1)]
 simp
def NC (n:Nat) (a:Int):Int:=if 0≤a∧a<(n:Int) then 0 else 10
def Lk (k:Int):Bool:=k == 11
def Pt (k:Int):Bool:=k == 11 || k == 1 || k == 2 || k == 6
def Cn (np nb:Nat) (k:Int):Nat:=if k=0 then np else nb
def BQ (np nb:Nat) (b:Bk):Int :=
 if AO b.kind<0 then 7 else if ¬ ((b.args.length:Nat):Int)=AO b.kind then 11 else if ¬ Ah (b.args.map (NC (Cn np nb b.kind)))=0 then 10
 else if ¬ CG b.vn b.ve (Pt b.kind)=0 then CG b.vn b.ve (Pt b.kind) else if ¬ CG b.un b.ue (Lk b.kind)=0 then CG b.un b.ue (Lk b.kind)
 else if Lk b.kind=true∧0<NR b.vn b.ve b.un b.ue then 26 else 0
section
variable {np nb:Nat} {b:Bk}
theorem be1 (h:AO b.kind<0):BQ np nb b=7:=if_pos h
theorem be2 (h:¬ AO b.kind<0) (h2:¬ ((b.args.length:Nat):Int)=AO b.kind):BQ np nb b=11:=by unfold BQ;rw [if_neg h,if_pos h2]
theorem be3 (h:¬ AO b.kind<0) (h2:((b.args.length:Nat):Int)=AO b.kind) {M:Nat} (hM:Cn np nb b.kind=M) (h3:¬ Ah (b.args.map (NC M))=0):BQ np nb b=10:=by
 subst hM;unfold BQ;rw [if_neg h,if_neg (not_not_intro h2),if_pos h3]
theorem be4 (h:¬ AO b.kind<0) (h2:((b.args.length:Nat):Int)=AO b.kind) {M:Nat} (hM:Cn np nb b.kind=M) (h3:Ah (b.args.map (NC M))=0) {vu:Bool} (hv:Pt b.kind=vu) (h4:¬ CG b.vn b.ve vu=0):BQ np nb b=CG b.vn b.ve vu:=by
 subst hM hv;unfold BQ;rw [if_neg h,if_neg (not_not_intro h2),if_neg (not_not_intro h3),if_pos h4]
theorem be5 (h:¬ AO b.kind<0) (h2:((b.args.length:Nat):Int)=AO b.kind) {M:Nat} (hM:Cn np nb b.kind=M) (h3:Ah (b.args.map (NC M))=0) {vu cu:Bool} (hv:Pt b.kind=vu) (h4:CG b.vn b.ve vu=0) (hc:Lk b.kind=cu)
  (h5:¬ CG b.un b.ue cu=0):BQ np nb b=CG b.un b.ue cu:=by
 subst hM hv hc;unfold BQ;rw [if_neg h,if_neg (not_not_intro h2),if_neg (not_not_intro h3),if_neg (not_not_intro h4),if_pos h5]
theorem be6 (h:¬ AO b.kind<0) (h2:((b.args.length:Nat):Int)=AO b.kind) {M:Nat} (hM:Cn np nb b.kind=M) (h3:Ah (b.args.map (NC M))=0) {vu cu:Bool} (hv:Pt b.kind=vu) (h4:CG b.vn b.ve vu=0) (hc:Lk b.kind=cu)
  (h5:CG b.un b.ue cu=0) (h6:cu=true∧0<NR b.vn b.ve b.un b.ue):BQ np nb b=26:=by
 subst hM hv hc;unfold BQ;rw [if_neg h,if_neg (not_not_intro h2),if_neg (not_not_intro h3),if_neg (not_not_intro h4),if_neg (not_not_intro h5),if_pos h6]
theorem be7 (h:¬ AO b.kind<0) (h2:((b.args.length:Nat):Int)=AO b.kind) {M:Nat} (hM:Cn np nb b.kind=M) (h3:Ah (b.args.map (NC M))=0) {vu cu:Bool} (hv:Pt b.kind=vu) (h4:CG b.vn b.ve vu=0) (hc:Lk b.kind=cu)
  (h5:CG b.un b.ue cu=0) (h6:¬ (cu=true∧0<NR b.vn b.ve b.un b.ue)):BQ np nb b=0:=by
 subst hM hv hc;unfold BQ;rw [if_neg h,if_neg (not_not_intro h2),if_neg (not_not_intro h3),if_neg (not_not_intro h4),if_neg (not_not_intro h5),if_neg h6]
end
theorem Pu {n:Int} (h:CG n e true=0):Df n e:=by
 unfold CG at h
 rw [if_pos rfl] at h
 by_cases hs:Df n e
 ·exact hs
 ·rw [if_neg hs] at h;cases h
theorem Sh {args:List Int} {M t:Nat} (hz:args[t]?=some z) (hb:¬ (0≤z∧z<(M:Int))) (hf:Ah ((args.map (NC M)).take t)=0):¬ Ah (args.map (NC M))=0:=by
 rw [Xe (k:=t) (e:=10) (by rw [ag,hz];exact congrArg some (if_neg hb)) (by decide) hf]
 decide
theorem AfY {args:List Int} {M t:Nat} (hz:args[t]?=some z) (hb:0≤z∧z<(M:Int)) (hf:Ah ((args.map (NC M)).take t)=0):Ah ((args.map (NC M)).take (t+1))=0 :=
 MI (by rw [ag,hz];exact congrArg some (if_pos hb)) hf
def DW (p:Prt):Int:=if -2147483648≤p.lo∧p.lo≤p.hi∧p.hi<2147483648∧0≤p.fr∧p.fr≤30 then 0 else 3
def Ek (ps:List Prt) (bs:List Bk) (os:List Int):Prop:=ps.length≤16∧bs.length≤64∧os.length≤16
def Er (ps:List Prt) (bs:List Bk) (os:List Int):Int:=Ah (ps.map DW++(bs.map (BQ ps.length bs.length)++os.map (NC bs.length)))
instance (ps:List Prt) (bs:List Bk) (os:List Int):Decidable (Ek ps bs os):=by unfold Ek;infer_instance
def Bl (ps:List Prt) (bs:List Bk) (os:List Int):Int:=if ¬ Ek ps bs os then 4 else if ¬ Er ps bs os=0 then Er ps bs os else EZ bs
theorem Cu {l:List Int} (h:Ah l=0):∀ x∈l,x=0:=by
 induction l with
 | nil=>simp
 | cons y l ih =>
  unfold Ah at h
  by_cases hy:y=0
  ·rw [if_pos hy] at h
   intro x hx
   rcases List.mem_cons.1 hx with rfl|hx
   ·exact hy
   ·exact ih h x hx
  ·rw [if_neg hy] at h
   exact absurd h hy
theorem XK {np nb:Nat} {b:Bk} (h:BQ np nb b=0):0≤AO b.kind∧((b.args.length:Nat):Int)=AO b.kind∧∀ a∈b.args,0≤a∧a<(Cn np nb b.kind:Int):=by
 unfold BQ at h
 by_cases h1:AO b.kind<0
 ·rw [if_pos h1] at h;cases h
 ·rw [if_neg h1] at h
  by_cases h2:¬ ((b.args.length:Nat):Int)=AO b.kind
  ·rw [if_pos h2] at h;cases h
  ·rw [if_neg h2] at h
   by_cases h3:¬ Ah (b.args.map (NC (Cn np nb b.kind)))=0
   ·rw [if_pos h3] at h;cases h
   ·refine ⟨by omega,Decidable.of_not_not h2,fun a ha=>?_⟩
    have:=Cu (Decidable.of_not_not h3) (NC (Cn np nb b.kind) a) (List.mem_map_of_mem ha)
    unfold NC at this
    by_cases h4:0≤a∧a<(Cn np nb b.kind:Int)
    ·exact h4
    ·rw [if_neg h4] at this;cases this
theorem VN {np:Nat} {bs:List Bk} (h:Ah (bs.map (BQ np bs.length))=0):XA bs:=by
 intro i hi a ha
 have hx:=gE hi
 rw [Oh hx] at ha
 by_cases hk:bs[i].kind=0
 ·rw [if_pos hk] at ha;cases ha
 ·rw [if_neg hk] at ha
  have h0:=Cu h (BQ np bs.length bs[i]) (List.mem_map_of_mem (fu hi))
  have:=(XK h0).2.2 a ha
  unfold Cn at this
  rw [if_neg hk] at this
  exact this
section
variable {ps:List Prt} {bs:List Bk} {os:List Int}
theorem de0 (h:¬ Ek ps bs os):Bl ps bs os=4:=if_pos h
theorem de1 (h:Ek ps bs os) {e:Int} (h2:Er ps bs os=e) (h3:¬ e=0):Bl ps bs os=e:=by subst h2;unfold Bl;rw [if_neg (not_not_intro h),if_pos h3]
theorem de2 (h:Ek ps bs os) (h2:Er ps bs os=0):Bl ps bs os=EZ bs:=by unfold Bl;rw [if_neg (not_not_intro h),if_neg (not_not_intro h2)]
theorem pe1 {k:Nat} {p:Prt} (hp:ps[k]?=some p) (he:DW p=e) (h0:¬ e=0) (hf:Ah ((ps.map DW).take k)=0):Er ps bs os=e :=
 Tl (pre:=[]) (k:=k) rfl (by rw [ag,hp];exact congrArg some he) h0 hf
theorem pe2 {k:Nat} {b:Bk} (h1:Ah (ps.map DW)=0) (hp:bs[k]?=some b) (he:BQ ps.length bs.length b=e) (h0:¬ e=0) (hf:Ah ((bs.map (BQ ps.length bs.length)).take k)=0):Er ps bs os=e :=
 Tl h1 (k:=k) (by rw [ag,hp];exact congrArg some he) h0 hf
theorem pe3 {k:Nat} {o:Int} (h1:Ah (ps.map DW)=0) (h2:Ah (bs.map (BQ ps.length bs.length))=0) (hp:os[k]?=some o) (he:NC bs.length o=e) (h0:¬ e=0) (hf:Ah ((os.map (NC bs.length)).take k)=0):Er ps bs os=e:=by
 unfold Er
 rw [AI,if_pos h1,AI,if_pos h2]
 exact Xe (k:=k) (by rw [ag,hp];exact congrArg some he) h0 hf
theorem pe4 (h1:Ah (ps.map DW)=0) (h2:Ah (bs.map (BQ ps.length bs.length))=0) (h3:Ah (os.map (NC bs.length))=0):Er ps bs os=0:=by
 unfold Er
 rw [AI,if_pos h1,AI,if_pos h2,h3]
theorem fs1 {α:Type} {l:List α} {f:α→Int} {k:Nat} {x:α} (hx:l[k]?=some x) (he:f x=0) (hf:Ah ((l.map f).take k)=0):Ah ((l.map f).take (k+1))=0:=MI (by rw [ag,hx];exact congrArg some he) hf
end
theorem LS {bs:List Bk} (h:Bl ps bs os=0):Ek ps bs os∧Er ps bs os=0∧EZ bs=0:=by
 unfold Bl at h
 by_cases h1:Ek ps bs os
 ·rw [if_neg (not_not_intro h1)] at h
  by_cases h2:Er ps bs os=0
  ·rw [if_neg (not_not_intro h2)] at h
   exact ⟨h1,h2,h⟩
  ·rw [if_pos h2] at h
   exact absurd h h2
 ·rw [if_pos h1] at h;cases h
theorem Acd {bs:List Bk} (h:Er ps bs os=0):Ah (bs.map (BQ ps.length bs.length))=0:=by
 unfold Er at h
 rw [AI] at h
 by_cases h1:Ah (ps.map DW)=0
 ·rw [if_pos h1,AI] at h
  by_cases h2:Ah (bs.map (BQ ps.length bs.length))=0
  ·exact h2
  ·rw [if_neg h2] at h;exact h
 ·rw [if_neg h1] at h;exact absurd h h1
theorem Aky {bs:List Bk} (h:Bl ps bs os=0):XA bs:=VN (Acd (LS h).2.1)
def isB (n k:Int):Bool:=decide (n≠0∧n=k)
theorem ArS (k:Int):isB 0 k=false:=by simp [isB]
theorem AfZ {k:Int} (h:k≠0):isB k k=true:=by simp [isB,h]
theorem Aoo {n k:Int} (h:n≠k):isB n k=false:=by simp [isB,h]
theorem Akz (h:p:=by
 go_enter func115,ntmps115
 go_wp2_with fail
 go_ret
 exact ⟨by rw [HV.out];rfl,rfl⟩):p:=h
theorem Aop (n k:Int) (w:World):Calls prog 115 #[IV n,.int .i64 k] w fun e w'=>e=.returned (.bool (isB n k))∧w=w':=by
 by_cases h:n=0
 ·subst h
  have HV:=mo (ArS k)
  have hta:∀ w,(Instr.typeAssert .nilIface 36 109 true).run prog w=.ok (.tuple #[.int .i64 0,.bool false]) w:=fun _=>by kernel_rfl
  rw [Xg]
  exact Akz
 ·have hta:∀ w,(Instr.typeAssert (.iface 109 (.int .i64 n)) 36 109 true).run prog w=.ok (.tuple #[.int .i64 n,.bool true]) w:=fun _=>by kernel_rfl
  rw [Tp h]
  by_cases hk:n=k
  ·subst hk
   have HV:=mo (AfZ h)
   clear h
   have hb:(n == n)=true:=by simp
   exact Akz
  ·have HV:=mo (Aoo hk)
   have hb:(n == k)=false:=by simpa using hk
   clear h hk
   exact Akz
/- The example, its lists in the blocks from n. -/
set_option maxRecDepth 100000
def Afr (z:Int):Prop := -9223372036854775808≤z∧z≤9223372036854775807
def Aoq (zs:List Int):Prt:=⟨zs.getD 0 0,zs.getD 1 0,zs.getD 2 0⟩
theorem VO (zs:List Int) (h:zs.length=3):(Aoq zs).cells=Ii zs:=by
 match zs,h with
 | [_,_,_],_=>rfl
theorem QZ {fs:Array Field} (h:fs.all (fun f=>f.type == 3)=true):∀ (i:Nat) (f:Field),fs[i]?=some f→prog.underlying f.type=some (.int .i64):=by
 intro i f hf
 have hi:=(Array.getElem?_eq_some_iff.1 hf)
 have:=Array.all_eq_true.1 h i hi.1
 rw [hi.2] at this
 have e:f.type=3:=by simpa using this
 rw [e]
 exact underlying3
section
variable {H:Type} {enc:TypeId × Value→H} {w:World} {spare:Nat→Bool} {held:Bool}
def bkB (x:Bk):Prop:=Afr x.kind∧Afr x.vn∧Afr x.ve∧Afr x.un∧Afr x.ue
theorem Ra {cs:List Value} {x:DataW H × List MemPlace} (h:DataW.trod enc prog w 0 spare held fuel 61 cs=some x):∃ n e:Int,cs=[.int .i64 n,.int .i64 e]∧Afr n∧Afr e:=by
 obtain ⟨zs,rfl,hl,hz⟩:=XG underlying61 (by kernel_rfl) (QZ (by kernel_rfl)) (by kernel_rfl) h
 match zs,hl with
 | [n,e],_=>exact ⟨n,e,rfl,hz _ (by simp),hz _ (by simp)⟩
theorem AkA {cs:List Value} {x:DataW H × List MemPlace} (h:DataW.trod enc prog w 0 spare held fuel 63 cs=some x) :
  ∃ b:Bk,cs=b.cells∧(b.A=none→b.cap=0)∧b.args.length≤b.cap∧b.args.length≤maxLen∧Al w w.heap.size b.A (Ii b.args)∧(∀ z∈b.args,Afr z)∧bkB b:=by
 obtain ⟨xs,n,_,_,hlen,hxl,hg⟩:=lr underlying63 h
 have hl6:cs.length=6:=hlen.trans (by kernel_rfl)
 match cs,hl6 with
 | [c0,c1,c2,c3,c4,c5],_ =>
  have k1:prog.cellsOf 3=1:=by kernel_rfl
  have k2:prog.cellsOf 24=1:=by kernel_rfl
  have k3:prog.cellsOf 61=2:=by kernel_rfl
  have hx4:xs.length=4:=hxl
  match xs,hx4 with
  | [x0,x1,x2,x3],_ =>
   have g0:DataW.trod enc prog w 0 spare held n 3 (([c0,c1,c2,c3,c4,c5].drop 0).take (prog.cellsOf 3))=some x0:=hg 0 _ rfl
   have g1:DataW.trod enc prog w 0 spare held n 24 (([c0,c1,c2,c3,c4,c5].drop 1).take (prog.cellsOf 24))=some x1:=hg 1 _ rfl
   have g2:DataW.trod enc prog w 0 spare held n 61 (([c0,c1,c2,c3,c4,c5].drop 2).take (prog.cellsOf 61))=some x2:=hg 2 _ rfl
   have g3:DataW.trod enc prog w 0 spare held n 61 (([c0,c1,c2,c3,c4,c5].drop 4).take (prog.cellsOf 61))=some x3:=hg 3 _ rfl
   rw [k1] at g0
   rw [k2] at g1
   rw [k3] at g2 g3
   obtain ⟨kind,hk,_,hkb⟩:=DataW.trod_int underlying3 g0
   obtain ⟨A,cap,args,ha,hA0,hc1,hc2,hc3,hc4⟩:=EB underlying24 underlying3 (by kernel_rfl) g1
   obtain ⟨vn,ve,hv,b1,b2⟩:=Ra g2
   obtain ⟨un,ue,hu,b3,b4⟩:=Ra g3
   refine ⟨⟨kind,A,args,cap,vn,ve,un,ue⟩,?_,hA0,hc1,hc2,hc3,hc4,bounds_i64 hkb,b1,b2,b3,b4⟩
   have e0:[c0]=[Value.int .i64 kind]:=hk
   have e2:[c2,c3]=[Value.int .i64 vn,Value.int .i64 ve]:=hv
   have e3:[c4,c5]=[Value.int .i64 un,Value.int .i64 ue]:=hu
   simp only [List.cons.injEq,and_true] at e0 e2 e3
   rw [e0,ha,e2.1,e2.2,e3.1,e3.2]
   rfl
instance:Inhabited Bk:=⟨bk0⟩
theorem Uc {x:DataW H × List MemPlace} (h:DataW.trod enc prog w 0 spare held fuel 23 [v]=some x) :
  ∃ (A:Option Addr) (cap:Nat) (l:List Bk),v=.slice A l.length cap∧l.length≤maxLen∧Al w w.heap.size A (MH Bk.cells l) ∧
   ∀ b∈l,(b.A=none→b.cap=0)∧b.args.length≤b.cap∧b.args.length≤maxLen∧Al w w.heap.size b.A (Ii b.args)∧(∀ z∈b.args,Afr z)∧bkB b:=by
 rcases open_slice underlying23 h with ⟨hcs,_⟩|⟨a,len,cap,m,n,D,Pl,hcs,_,hl,hm,hmm,_,hx⟩
 ·exact ⟨none,0,[],by simpa using hcs,ad _,Al.nil_,by simp⟩
 ·have hle:len≤m:=by rw [hmm];split <;> omega
  rw [show prog.cellsOf 63=6 by kernel_rfl] at hx
  obtain ⟨R,hR⟩:=choose_lt (α:=Bk) (n:=len) (p:=fun i b=>((b.A=none→b.cap=0)∧b.args.length≤b.cap∧b.args.length≤maxLen∧Al w w.heap.size b.A (Ii b.args)∧(∀ z∈b.args,Afr z)∧bkB b)∧∀ j,j<6→w.cell? (a.add (i*6+j))=b.cells[j]?) (fun i hi=>by
   obtain ⟨cs',h1,h2⟩:=hx i (by omega)
   obtain ⟨b,rfl,hb⟩:=AkA h2
   obtain ⟨_,hlen,hcell⟩:=World.cells?_some h1
   exact ⟨b,hb,fun j hj=>by rw [←add_add];exact hcell j hj⟩)
  refine ⟨some a,cap,(List.range len).map R,by simpa using hcs,by simp;omega,fun hne=>?_,?_⟩
  ·have hpos:0<len:=by
    rcases cn len with h0|h0
    ·subst h0;simp [MH] at hne
    ·exact h0
   obtain ⟨b,off,spot⟩:=a
   have h00:=(hR 0 hpos).2 0 (by decide)
   have hz0:(R 0).cells[0]?=some (.int .i64 (R 0).kind):=rfl
   rw [hz0] at h00
   have hspot:spot=none:=by simpa [Addr.add] using World.cell?_spot h00
   subst hspot
   have hb:b<w.heap.size:=by
    exact Aom
   refine ⟨b,off,rfl,hb,hb,fun j u hu=>?_⟩
   have hjl:j<len*6:=by
    have:=(gS.1 hu).1
    rw [Se (s:=6) (fun _=>rfl)] at this
    simpa using this
   have hk:j / 6<len:=kt (by rw [ar];exact hjl)
   have hr:j % 6<6:=ew _ (by decide)
   have hj:j / 6*6+j % 6=j:=by rw [ar];exact dn j 6
   have hg:((List.range len).map R)[j / 6]?=some (R (j / 6)):=by simp [hk]
   have h1:=Hm (f:=Bk.cells) (s:=6) (fun _=>rfl) hg hr
   rw [hj,hu] at h1
   have h2:=(hR _ hk).2 (j % 6) hr
   rw [hj,←h1] at h2
   rw [←Go.WideShapes.add_plain]
   exact h2
  ·intro y hy
   obtain ⟨i,hi,rfl⟩:=List.mem_map.1 hy
   exact (hR i (by simpa using hi)).1
end
/- Light. -/
theorem Gr {α:Type} {p:α→Bool} {l:List α} {k:Nat} {x:α} (hx:l[k]?=some x) (h:(l.take k).all p=true) (hp:p x=true):(l.take (k+1)).all p=true:=by
 rw [aw,hx,List.all_append,h]
 simp [hp]
theorem Oi {xs:List Value} (h:AV (Bh w S) (vs.map .val) xs):xs=vs:=by
 induction vs generalizing xs with
 | nil=>exact h.unnil
 | cons v vs ih =>
  obtain ⟨x,xs',rfl,h1,h2⟩:=(show AV (Bh w S) (D.val v::vs.map .val) xs from h).uncons
  cases h1
  rw [ih h2]
theorem LU (h:∀ v∈vs,v.oneCell'=true):AV (Bh w S) (vs.map .val) vs :=
 ⟨by simp,fun j d v hd hv=>by
  simp only [ag,hv,bu,Option.some.injEq] at hd
  subst hd
  exact .val (h v (gM hv))⟩
theorem Aga (hlt:∀ t b,S t b→b<w.heap.size) {t:Bool} {s n:Nat} {cs:List D} {v:Value} (h:Bh w S (.row t s n cs) v) :
  ∃ A c xs,v=.slice A n c∧(A=none→c=0)∧n≤c∧cs.length=n*s∧AV (Bh w S) cs xs∧Al w w.heap.size A xs:=by
 cases h with
 | @row _ _ _ c _ A xs hc hA hl hx hm hr =>
  refine ⟨A,c,xs,rfl,hA,hc,hl,⟨hx,hr⟩,fun hne=>?_⟩
  obtain ⟨b,off,h1,h2,h3⟩:=hm (fun h0=>hne (by rw [h0] at hx;exact bw (by simpa using hx.symm)))
  exact ⟨b,off,h1,hlt _ _ h2,hlt _ _ h2,h3⟩
theorem Si (hlt:∀ t b,S t b→b<w.heap.size) {t:Bool} {s n:Nat} {vs:List Value} {v:Value} (h:Bh w S (.row t s n (vs.map .val)) v) :
  ∃ A c,v=.slice A n c∧(A=none→c=0)∧n≤c∧vs.length=n*s∧Al w w.heap.size A vs:=by
 obtain ⟨A,c,xs,h1,h2,h3,h4,h5,h6⟩:=Aga hlt h
 rw [Oi h5] at h6
 exact ⟨A,c,h1,h2,h3,by simpa using h4,h6⟩
theorem XL (xs:List Int):xs.map dI=(Ii xs).map .val:=by simp [Ii,dI]
theorem Ud (hlt:∀ t b,S t b→b<w.heap.size) {t:Bool} {xs:List Int} {v:Value} (h:Bh w S (Ba t xs) v):∃ A c,v=.slice A xs.length c∧(A=none→c=0)∧xs.length≤c∧Al w w.heap.size A (Ii xs):=by
 unfold Ba at h
 rw [XL] at h
 obtain ⟨A,c,h1,h2,h3,_,h4⟩:=Si hlt h
 exact ⟨A,c,h1,h2,h3,h4⟩
def Agb (p:Prt):List D:=[dI p.lo,dI p.hi,dI p.fr]
def dBk (t:Bool) (b:Bk):List D:=[dI b.kind,Ba t b.args,dI b.vn,dI b.ve,dI b.un,dI b.ue]
def Tg (x:Ins):List D:=[dI x.op,dI x.dst,dI x.a,dI x.b,dI x.sa,dI x.sb,dI x.imm]
def Dh (t:Bool) (ps:List Prt):D:=.row t 3 ps.length (AN Agb ps)
def DC (t:Bool) (bs:List Bk):D:=.row t 6 bs.length (AN (dBk t) bs)
def AaG (t:Bool) (xs:List Ins):D:=.row t 7 xs.length (AN Tg xs)
def dDg (t:Bool) (ps:List Prt) (bs:List Bk) (os:List Int):List D:=[Dh t ps,DC t bs,Ba t os]
def aDg (t:Bool) (ps:List Prt) (bs:List Bk) (os:List Int):A:=.agg (dDg t ps bs os)
def aE (n:Int):A:=.one (.val (IV n))
theorem XM (n:Int):(IV n).oneCell'=true:=by unfold IV;split <;> rfl
theorem Nb {α:Type} {f:α→List D} {g:α→List Value} (h:∀ x,f x=(g x).map .val) (l:List α):AN f l=(MH g l).map .val:=by
 induction l with
 | nil=>rfl
 | cons x l ih =>
  simp only [AN,MH,ce,fp,gz] at ih ⊢
  rw [ih,h]
theorem Ue (p:Prt):Agb p=(Prt.cells p).map .val:=rfl
theorem Ace (p:Ins):Tg p=(Ins.cells p).map .val:=rfl
structure FK (ps:List Prt) (bs:List Bk) (os:List Int):Prop where
 l1:ps.length≤1000000
 l2:bs.length≤1000000
 l3:os.length≤1000000
 la:∀ b∈bs,b.args.length≤1000000
theorem Uf (w w':World) (h:Below w.heap.size w w') (ht:An w):An w':=ht.call h
theorem VP {x y:A} {a b:Value} (h1:Em w S x a) (h2:Em w S y b):Afq w S [x,y] (.tuple #[a,b]):=⟨[a,b],rfl,.cons_ h1 (.cons_ h2 .nil_)⟩
theorem BI {x:A} (h:AV (Em w S) [x] vs):∃ v,vs=[v]∧Em w S x v:=by
 obtain ⟨v,vs',rfl,h1,h2⟩:=h.uncons
 rw [h2.unnil]
 exact ⟨v,rfl,h1⟩
theorem DK {t:Bool} {bs:List Bk} {k:Nat} {y:Bk} (h:bs[k]?=some y):((AN (dBk t) bs).drop (k*6)).take 6=dBk t y:=Fv (f:=dBk t) (s:=6) (fun _=>rfl) h
theorem Fy {k:Nat} {y:Prt} (h:ps[k]?=some y):((AN Agb ps).drop (k*3)).take 3=Agb y:=Fv (f:=Agb) (s:=3) (fun _=>rfl) h
theorem Aif {xs:List Ins} {k:Nat} {y:Ins} (h:xs[k]?=some y):((AN Tg xs).drop (k*7)).take 7=Tg y:=Fv (f:=Tg) (s:=7) (fun _=>rfl) h
theorem AF {k:Nat} (h:xs[k]?=some z):((xs.map dI).drop (k*1)).take 1=[dI z]:=AbN h
inductive Vj (t:Bool):D→Prop
 | val (v:Value):Vj t (.val v)
 | row {s n:Nat} {cs:List D} (h:∀ d∈cs,Vj t d):Vj t (.row t s n cs)
 | ptr {cs:List D} (h:∀ d∈cs,Vj t d):Vj t (.ptr t cs)
theorem Vj.rel {t:Bool} {d:D} (h:Vj t d):∀ v,Bh w S d v→Bh w (fun u b=>u=t∧S t b) d v:=by
 induction h with
 | val v=>intro u hu;cases hu with|val h=>exact .val h
 | @row s n cs _ ih =>
  intro v hv
  cases hv with
  | row xs hc hA hln hx hm hr =>
   refine .row xs hc hA hln hx (fun hne=>?_) fun j u x hu hj=>ih u (gM hu) x (hr j u x hu hj)
   obtain ⟨b,off,h1,h2,h3⟩:=hm hne
   exact ⟨b,off,h1,⟨rfl,h2⟩,h3⟩
 | @ptr cs _ ih =>
  intro v hv
  cases hv with
  | ptr xs hx hb hm hr=>exact .ptr xs hx ⟨rfl,hb⟩ hm fun j u x hu hj=>ih u (gM hu) x (hr j u x hu hj)
def ATag (t:Bool):A→Prop
 | .one d=>Vj t d
 | .agg ds=>∀ d∈ds,Vj t d
theorem CV.fresh {args res:List A} (h:CV P G f args res) (ht:∀ a∈args,ATag true a):CVF P G f args res:=fun w S vs hg hlt ha=>by
 have ha':AV (Em w fun u b=>u=true∧S true b) args vs:=⟨ha.1,fun j y v hy hv=>by
  have h1:=ha.2 j y v hy hv
  have h2:=ht y (gM hy)
  cases y with
  | one d=>exact Vj.rel h2 v h1
  | agg ds =>
   obtain ⟨xs,rfl,h3⟩:=h1
   exact ⟨xs,rfl,h3.1,fun i d x hd hx=>Vj.rel (h2 d (gM hd)) x (h3.2 i d x hd hx)⟩⟩
 refine (h w (fun u b=>u=true∧S true b) vs hg (fun t b hb=>hlt true b hb.2) ha').mono fun e w' ⟨v,h1,h2,h3⟩=>⟨v,h1,h2.mono (fun t b hb=>?_) (fun _ _ _=>rfl),h3⟩
 obtain ⟨rfl,hb|hb⟩:=hb
 ·cases hb.1
 ·exact ⟨rfl,hb⟩
theorem AkB (t:Bool) (xs:List Int):Vj t (Ba t xs):=.row fun d hd=>by obtain ⟨z,_,rfl⟩:=List.mem_map.1 hd;exact .val _
theorem XN {α:Type} {f:α→List D} {t:Bool} (hf:∀ x,∀ d∈f x,Vj t d) (l:List α):∀ d∈AN f l,Vj t d:=fun d hd=>by
 obtain ⟨ds,h1,h2⟩:=List.mem_flatten.1 hd
 obtain ⟨x,_,rfl⟩:=List.mem_map.1 h1
 exact hf x d h2
theorem ArT (t:Bool) (ps:List Prt):Vj t (Dh t ps):=.row (XN (fun x d hd=>by simp only [Agb,bo,bp,or_false] at hd;rcases hd with rfl|rfl|rfl <;> exact .val _) ps)
theorem ArU (t:Bool) (bs:List Bk):Vj t (DC t bs):=.row (XN (fun x d hd=>by
 simp only [dBk,bo,bp,or_false] at hd
 rcases hd with rfl|rfl|rfl|rfl|rfl|rfl
 ·exact .val _
 ·exact AkB t _
 all_goals exact .val _) bs)
theorem Aor (t:Bool) (ps:List Prt) (bs:List Bk) (os:List Int):ATag t (aDg t ps bs os):=fun d hd=>by
 simp only [dDg,bo,bp,or_false] at hd
 rcases hd with rfl|rfl|rfl
 ·exact ArT t ps
 ·exact ArU t bs
 ·exact AkB t os
theorem XO (xs:List Int):Dg (Ba false xs):=.row fun d hd=>by obtain ⟨z,_,rfl⟩:=List.mem_map.1 hd;exact .val _
theorem Dp {α:Type} {f:α→List D} (hf:∀ x,∀ d∈f x,Dg d) (l:List α):∀ d∈AN f l,Dg d:=fun d hd=>by
 obtain ⟨ds,h1,h2⟩:=List.mem_flatten.1 hd
 obtain ⟨x,_,rfl⟩:=List.mem_map.1 h1
 exact hf x d h2
theorem Sj (x:Prt):∀ d∈Agb x,Dg d:=fun d hd=>by simp only [Agb,bo,bp,or_false] at hd;rcases hd with rfl|rfl|rfl <;> exact .val _
theorem XP (x:Ins):∀ d∈Tg x,Dg d:=fun d hd=>by simp only [Tg,bo,bp,or_false] at hd;rcases hd with rfl|rfl|rfl|rfl|rfl|rfl|rfl <;> exact .val _
section
variable {P:Program} {G:World→Prop} {o:Oper} {F:Frm} {H:List Ob}
theorem BV {x:Operand} {b:Bool} (ho:o.op=.binOp .neq t x (.const .nilIface) t') (ht:TyI P t) (hx:F.ev x=.one (.d (.val (IV E)))) (hb:(E != 0)=b):Bb P G o F H (.one (.d (.val (.bool b)))) []:=by
 by_cases h:E=0
 ·refine RY ho ht hx (.inr (.inl ⟨rfl,?_,?_⟩))
  ·rw [h,Xg]
  ·rw [←hb,Qt h]
 ·refine RY ho ht hx (.inr (.inr (.inr ⟨rfl,⟨_,_,Tp h⟩,?_⟩)))
  rw [←hb,Li h]
theorem Eo {x:Operand} {b:Bool} (ho:o.op=.binOp .eql t x (.const .nilIface) t') (ht:TyI P t) (hx:F.ev x=.one (.d (.val (IV E)))) (hb:(E == 0)=b):Bb P G o F H (.one (.d (.val (.bool b)))) []:=by
 by_cases h:E=0
 ·refine RY ho ht hx (.inl ⟨rfl,?_,?_⟩)
  ·rw [h,Xg]
  ·rw [←hb,TP h]
 ·refine RY ho ht hx (.inr (.inr (.inl ⟨rfl,⟨_,_,Tp h⟩,?_⟩)))
  rw [←hb,VJ h]
theorem Acf {t:Tmp} (hF:F t=.one (.d (.val (IV E)))) (hz:E=E'):RV P F H (.tmp t) (aE E'):=.tmp (by rw [hF,hz];exact .one (.d fun _=>.val _))
theorem Il {t:Tmp} (hF:F t=.one (.d (.val .nilIface))) (hz:E'=0):RV P F H (.tmp t) (aE E'):=.tmp (by rw [hF,hz];exact .one (.d fun _=>.val _))
theorem Agc {t:Tmp} {n:Int} (hF:F t=.one (.d (.val (.iface 109 (.int .i64 n))))) (h0:n≠0) (hz:E'=n):RV P F H (.tmp t) (aE E'):=.tmp (by rw [hF,hz,←Tp h0];exact .one (.d fun _=>.val _))
theorem Ug {t:Tmp} {ty ty' k:Nat} {cs:List C} {ds:List D} {y:A} (hF:F t=.one (.ref id 0 none)) (hH:H[id]?=some (.box ty' cs)) (hk:TyK P ty true k) (hi:cs.length=k) (hy:y=.agg ds) (h:AV (Gj false H) cs ds):RV P F H (.cell t ty) y:=by
 obtain ⟨d,h1,h2⟩:=hk.h
 rw [hy]
 exact .cellA hF hH h1 h2 (by rw [hk.s,hi]) h
end
structure Hd9 (p:Prop):Prop where
 o:p
theorem qq {p':Prop} (k:p') (h:p'→p:=by first|exact qa|exact qb|exact qc|exact qd|exact qe|exact qf|exact qg|exact qh|exact qi|exact qj|exact qk|exact ql rfl|exact qm rfl|exact qn rfl|exact Je):p:=h k
theorem cvz {args res:List A} (hf:prog.funcs[f]?=some fn) (hN:fn.ntmps=N) (k:CW prog An N c (F0 args) [] (AnK prog fn res)) (hb:fn.body=some c:=by exact rfl) (ha:args.length≤N:=by exact bf rfl):CV prog An f args res:=Akc Uf hf hb hN ha k
section
variable {P:Program} {G:World→Prop} {o:Oper} {F:Frm} {H:List Ob}
theorem xNE {x:Operand} {b:Bool} (ht:TyI P t) (ho:o.op=.binOp .neq t x (.const .nilIface) t':=by with_unfolding_all exact rfl) (hx:F.ev x=.one (.d (.val (IV E))):=by with_unfolding_all exact rfl) (hb:(E != 0)=b:=by first|exact Qt rfl|exact Qt (by omega)|exact Li (by first|assumption|omega)|exact rfl):Bb P G o F H (.one (.d (.val (.bool b)))) []:=BV ho ht hx hb
theorem xNt {x:Operand} {b:Bool} (ho:o.op=.unOp .not t x:=by with_unfolding_all exact rfl) (hx:F.ev x=.one (.d (.val (.bool b))):=by with_unfolding_all exact rfl):Bb P G o F H (.one (.d (.val (.bool (!b))))) []:=Aia ho hx
theorem xNg {x:Operand} {p:Int} (ho:o.op=.unOp .neg t x:=by with_unfolding_all exact rfl) (hx:F.ev x=.one (.d (.val (.int .i64 p))):=by with_unfolding_all exact rfl) (hb : -9223372036854775807≤p∧p≤9223372036854775807:=by omega):Bb P G o F H (.one (.d (.val (.int .i64 (-p))))) []:=Xp ho hx hb
theorem xM1 {x:Operand} {c:C} (ho:o.op=.move x:=by with_unfolding_all exact rfl) (hx:F.ev x=.one c:=by with_unfolding_all exact rfl):Bb P G o F H (.one c) []:=Xu ho hx
theorem xMt {x:Operand} {l:List A} (ho:o.op=.move x:=by with_unfolding_all exact rfl) (hx:F.ev x=.tup l:=by with_unfolding_all exact rfl):Bb P G o F H (.tup l) []:=Aof ho hx
theorem xAl {z:Value} {k:Nat} (hz:TyZ P t z k by_) (ho:o.op=.alloc t:=by with_unfolding_all exact rfl):Bb P G o F H (.one (.ref H.length 0 none)) [.box t (Ex z.cells.toList)]:=AfH ho hz
end
theorem LV (A:Option Addr) (ws:List Nat) (c m:Nat) (w:World) (h:Al w m A (w32 ws)) (hc:ws.length≤c) (hl:ws.length≤1000000) :
  Calls prog 206 #[.slice A ws.length c] w fun e w'=>e=.returned (.slice A (IW ws).length c)∧w=w':=by
 have H:=mo h
 clear h
 go_enter func206,ntmps206
 go_wp2_with fail
 go_loopw [3] (fun i wr=>Ane w ws i wr) (fun i _=>(intOf i).toNat)
 case atStart=>exact ⟨ws.length,aa _,rfl,rfl,rfl⟩
 case round =>
  obtain ⟨k,hk,rfl,ht,rfl⟩:=hrel
  have HT:=mo ht
  clear ht
  by_cases h0:k=0
  ·subst h0
   go_wp2_with fail
   go_ret
   refine ⟨?_,rfl⟩
   rw [Cp,←HT.out]
   rfl
  ·obtain ⟨j,rfl⟩:=jn h0
   obtain ⟨b,off,z,rfl,hbm,hbs,hx,hcc⟩:=H.out.w32_ (k:=j) (by omega)
   have HX:=mo hx
   clear hx
   by_cases hz:z=0
   ·subst hz
    go_wp2_with fail
    have e1:Ds ws j=Ds ws ws.length:=by
     rw [←HT.out]
     show Ds ws j=if ws[j]?.getD 0=0 then Ds ws j else j+1
     rw [if_pos (by rw [HX.out];rfl)]
    exact ⟨⟨j,by omega,by go_num,e1,rfl⟩,by simp [intOf];try omega⟩
   ·have hz':((z:Int) == 0)=false:=by simp;omega
    go_wp2_with fail
    go_ret
    refine ⟨?_,rfl⟩
    have e1:j+1=Ds ws ws.length:=by
     rw [←HT.out]
     show j+1=if ws[j]?.getD 0=0 then Ds ws j else j+1
     rw [if_neg (by rw [HX.out];exact hz)]
    rw [Cp,←e1]
    rfl
theorem Aos (h:p:=by
 clear ka kb
 go_wp2_with (at_builtin;refine Nv rfl _ _ rfl w.heap.size _ os z wr.heap.size rfl (HO.out.alloc _) rfl (by simp [go_sem]) (by have:=HOL.out;omega) (by simp;omega) ?_;intro v' w2 hown2 hg2 hb2)
 exact ⟨⟨k+1,os++[z],c',by omega,by go_num,rfl,hown2,by rw [ak,HOL.out];rfl,Co HOK.out hzb,hcb.out,(Vp HOL.out HX.out HY.out HV.out (by have:=HZ.out;omega)),hb.trans ((((ab _ wr).alloc (aa _) _).mono hb.size).trans hb2)⟩,by simp [intOf];omega⟩):p:=h
theorem Agd (A B:Option Addr) (a b:List Nat) (c1 c2 m:Nat) (w:World) (hm:m≤w.heap.size) (h1:Al w m A (w32 a)) (h2:Al w m B (w32 b)) (ha:Ao a) (hb:Ao b) (l1:a.length≤100000) (l2:b.length≤100000) :
    Calls prog 108 #[.slice A a.length c1,.slice B b.length c2] w fun e w' =>
      ∃ G g,e=.returned (.slice G (Ad (Ay a+Ay b)).length g)∧(G=none→g=0)∧(Ad (Ay a+Ay b)).length≤g∧Al w' w'.heap.size G (w32 (Ad (Ay a+Ay b)))∧Below w.heap.size w w':=by
  have H1:=mo h1
  have H2:=mo h2
  have HA:=mo ha
  have HB:=mo hb
  clear h1 h2 ha hb
  go_enter func108,ntmps108
  go_wp2_with fail
  go_loopw [5,6,7] (fun v cv i wr=>Arm w a b v cv i wr) (fun _ _ i _=>max a.length b.length - (intOf i).toNat)
  case atStart=>exact ⟨0,[],0,ad _,rfl,rfl,Dw.nil_ _ _,rfl,by simp [Ao],by omega,by simp [Ay],ab _ _⟩
  case round =>
    as_aux_lemma =>
    obtain ⟨k,os,cy,hk,rfl,rfl,hown,hol,hok,hcy,hv,hb⟩:=hrel
    have HO:=mo hown
    have HOL:=mo hol
    have HOK:=mo hok
    have HV:=mo hv
    clear hown hol hok hv
    have hmax:max (a.length:Int) (b.length:Int)=((max a.length b.length:Nat):Int):=by omega
    have hsz:=hb.size
    by_cases hlt:k<max a.length b.length
    · by_cases ka:k<a.length
      · by_cases kb:k<b.length
        · as_aux_lemma =>
          obtain ⟨b1,o1,x,rfl,q1,_,hx,g1'⟩:=H1.out.w32_ ka
          have g1:=(hb.cell (p:=⟨b1,o1+k,none⟩) (al q1 hm)).trans g1'
          have bx:=HA.out x (gM hx)
          have HX := mo (show a[k]?.getD 0 = x by rw [hx]; rfl)
          have ka':(k:Int)<(a.length:Int):=by omega
          clear hx g1'
          obtain ⟨b2,o2,y,rfl,q2,_,hy,g2'⟩:=H2.out.w32_ kb
          have g2:=(hb.cell (p:=⟨b2,o2+k,none⟩) (al q2 hm)).trans g2'
          have by':=HB.out y (gM hy)
          have HY := mo (show b[k]?.getD 0 = y by rw [hy]; rfl)
          have kb':(k:Int)<(b.length:Int):=by omega
          clear hy g2'
          obtain ⟨z,hz⟩:∃ z:Nat,((cy:Int)+(x:Int)+(y:Int)) % 4294967296=(z:Int):=⟨((cy+x+y) % 4294967296:Nat),by omega⟩
          obtain ⟨c',hc'⟩:∃ c':Nat,((cy:Int)+(x:Int)+(y:Int)) / 4294967296=(c':Int):=⟨((cy+x+y) / 4294967296:Nat),by omega⟩
          have HZ := mo (show z + 4294967296 * c' = cy + x + y by omega)
          have hzb:z<4294967296:=by omega
          have hcb := mo (show c' ≤ 1 by omega)
          clear ka kb
          go_wp2_with (at_builtin;refine Nv rfl _ _ rfl w.heap.size _ os z wr.heap.size rfl (HO.out.alloc _) rfl (by simp [go_sem]) (by have:=HOL.out;omega) (by simp;omega) ?_;intro v' w2 hown2 hg2 hb2)
          exact ⟨⟨k+1,os++[z],c',by omega,by go_num,rfl,hown2,by rw [ak,HOL.out];rfl,Co HOK.out hzb,hcb.out,(Vp HOL.out HX.out HY.out HV.out HZ.out),hb.trans ((((ab _ wr).alloc (aa _) _).mono hb.size).trans hb2)⟩,by simp [intOf];omega⟩
        · as_aux_lemma =>
          obtain ⟨b1,o1,x,rfl,q1,_,hx,g1'⟩:=H1.out.w32_ ka
          have g1:=(hb.cell (p:=⟨b1,o1+k,none⟩) (al q1 hm)).trans g1'
          have bx:=HA.out x (gM hx)
          have HX := mo (show a[k]?.getD 0 = x by rw [hx]; rfl)
          have ka':(k:Int)<(a.length:Int):=by omega
          clear hx g1'
          have HY := mo (show b[k]?.getD 0 = 0 by rw [dv (by omega)]; rfl)
          have kb':¬ (k:Int)<(b.length:Int):=by omega
          have kb2:decide ((k:Int)<(b.length:Int))=false:=decide_eq_false kb'
          obtain ⟨z,hz⟩:∃ z:Nat,((cy:Int)+(x:Int)) % 4294967296=(z:Int):=⟨((cy+x) % 4294967296:Nat),by omega⟩
          obtain ⟨c',hc'⟩:∃ c':Nat,((cy:Int)+(x:Int)) / 4294967296=(c':Int):=⟨((cy+x) / 4294967296:Nat),by omega⟩
          have HZ := mo (show z + 4294967296 * c' = cy + x by omega)
          have hzb:z<4294967296:=by omega
          have hcb := mo (show c' ≤ 1 by omega)
          exact Aos
      · have kb:k<b.length:=by omega
        have HX := mo (show a[k]?.getD 0 = 0 by rw [dv (by omega)]; rfl)
        have ka':¬ (k:Int)<(a.length:Int):=by omega
        have ka2:decide ((k:Int)<(a.length:Int))=false:=decide_eq_false ka'
        obtain ⟨b2,o2,y,rfl,q2,_,hy,g2'⟩:=H2.out.w32_ kb
        have g2:=(hb.cell (p:=⟨b2,o2+k,none⟩) (al q2 hm)).trans g2'
        have by':=HB.out y (gM hy)
        have HY := mo (show b[k]?.getD 0 = y by rw [hy]; rfl)
        have kb':(k:Int)<(b.length:Int):=by omega
        clear hy g2'
        obtain ⟨z,hz⟩:∃ z:Nat,((cy:Int)+(y:Int)) % 4294967296=(z:Int):=⟨((cy+y) % 4294967296:Nat),by omega⟩
        obtain ⟨c',hc'⟩:∃ c':Nat,((cy:Int)+(y:Int)) / 4294967296=(c':Int):=⟨((cy+y) / 4294967296:Nat),by omega⟩
        have HZ := mo (show z + 4294967296 * c' = cy + y by omega)
        have hzb:z<4294967296:=by omega
        have hcb := mo (show c' ≤ 1 by omega)
        exact Aos
    · as_aux_lemma =>
      have hle:¬ (k:Int)<((max a.length b.length:Nat):Int):=by omega
      have hke:k=max a.length b.length:=by omega
      have hka:a.length≤k:=by omega
      have hkb:b.length≤k:=by omega
      have hcy32:cy<4294967296:=by omega
      obtain ⟨ws,hws⟩:∃ ws,ws=os++[cy]:=⟨_,rfl⟩
      have hwok:Ao ws:=by rw [hws];exact Co HOK.out hcy32
      have hwl:ws.length=k+1:=by rw [hws,ak,HOL.out];rfl
      have hwv:Ay ws=Ay a+Ay b:=by
        have hv:=HV.out
        rw [aq hka,aq hkb] at hv
        rw [hws,BU,HOL.out,←hv]
        simp only [Ay,Nat.mul_zero,cr]
      have hl6:ws.length≤1000000:=by omega
      have HWS:=mo hws
      have HWO:=mo hwok
      have HWV:=mo hwv
      clear hws hwok hwv hmax hke hka hkb hwl hlt
      have hmax:max (a.length:Int) (b.length:Int)=((max a.length b.length:Nat):Int):=by omega
      go_wp2_with (first
        | (go_at_call 206;refine (LV G ws g w2.heap.size w2 hGc hgc hl6).mono ?_;rintro e w3 ⟨rfl,rfl⟩)
        | (at_builtin;refine Nv rfl _ _ rfl w.heap.size _ os cy wr.heap.size rfl (HO.out.alloc _) rfl (by simp [go_sem]) (by have:=HOL.out;omega) (by simp;omega) ?_;intro v' w2 hown2 hg2 hb2;rw [←HWS.out] at hown2;obtain ⟨G,g,rfl,hGn,hGc⟩:=hown2.view;obtain ⟨_,hgc,_,_⟩:=hown2.cap_))
      go_ret
      have hcan:=CJ HWO.out
      rw [HWV.out] at hcan
      refine ⟨G,g,by rw [hcan];rfl,hGn,?_,?_,hb.trans ((((ab _ wr).alloc (aa _) _).mono hb.size).trans hb2)⟩
      · rw [←hcan,Cp]
        have:=DY ws ws.length
        omega
      · rw [←hcan]
        exact hGc.takeW _
theorem Age (A B:Option Addr) (a b:List Nat) (c1 c2 m:Nat) (w:World) (h1:Al w m A (w32 a)) (h2:Al w m B (w32 b)) (ha:Ao a) (hb:Ao b) (l1:a.length≤100000) (l2:b.length≤100000) :
  Calls prog 109 #[.slice A a.length c1,.slice B b.length c2] w fun e w'=>e=.returned (.bool (AaP a b))∧Below w.heap.size w w':=by
 have H1:=mo h1
 have H2:=mo h2
 have HA:=mo ha
 have HB:=mo hb
 clear h1 h2 ha hb
 by_cases hl:a.length=b.length
 ·have HL:=mo hl
  have e1:((a.length:Int) != (b.length:Int))=false:=by simp;omega
  have hlb:AaP a b=decide (Ay a<Ay b):=if_pos hl
  rw [hlb]
  clear hl hlb
  go_enter func109,ntmps109
  go_wp2_with fail
  go_loopw [5] (fun i wr=>Ang w a b i wr) (fun i _=>(intOf i+1).toNat)
  case atStart=>exact ⟨a.length,0,aa _,rfl,by rw [jp,HL.out,jp],rfl⟩
  case round =>
   as_aux_lemma =>
   obtain ⟨k,nq,hk,rfl,hd,rfl⟩:=hrel
   have HD:=mo hd
   clear hd
   by_cases h0:k=0
   ·subst h0
    go_wp2_with fail
    go_ret
    refine ⟨?_,below_drewN (ab _ _) _⟩
    have:=HD.out
    simp at this
    subst this
    simp
   ·obtain ⟨j,rfl⟩:=jn h0
    obtain ⟨b1,o1,x,rfl,_,_,hx,g1⟩:=H1.out.w32_ (k:=j) (by omega)
    obtain ⟨b2,o2,y,rfl,_,_,hy,g2⟩:=H2.out.w32_ (k:=j) (by have:=HL.out;omega)
    have HX:=mo hx
    have HY:=mo hy
    have hj:((j.succ:Nat):Int) - 1=(j:Int):=by omega
    have hja:(j:Int)<(a.length:Int):=by omega
    have hjb:(j:Int)<(b.length:Int):=by have:=HL.out;omega
    rw [hj]
    clear hx hy h0
    by_cases hxy:x=y
    ·subst hxy
     have e2:((x:Int) != (x:Int))=false:=by simp
     go_wp2_with fail
     go_quiet (fail)
     go_wp2_with fail
     exact ⟨⟨j,_,by omega,by go_num,Ts HX.out HY.out HD.out,rfl⟩,by simp [intOf];try omega⟩
    ·have e2:((x:Int) != (y:Int))=true:=by simp;omega
     have HN:=mo hxy
     clear hxy
     go_wp2_with fail
     go_quiet (fail)
     go_wp2_with fail
     go_quiet (fail)
     go_wp2_with fail
     go_ret
     refine ⟨?_,by repeat (first|exact ab _ _|refine Tj ?_ _)⟩
     rw [AaO HA.out HB.out HX.out HY.out HD.out HN.out]
     simp
 ·have e1:((a.length:Int) != (b.length:Int))=true:=by simp;omega
  have hlb:AaP a b=decide (a.length<b.length):=if_neg hl
  rw [hlb]
  clear hl hlb
  go_enter func109,ntmps109
  go_wp2_with fail
  go_ret
  exact ⟨by simp,ab _ _⟩
theorem Aot (h:p:=by
 clear hlt kb
 go_wp2_with (at_builtin;refine Nv rfl _ _ rfl w.heap.size _ os z wr.heap.size rfl (HO.out.alloc _) rfl (by simp [go_sem]) (by have:=HOL.out;omega) (by simp;omega) ?_;intro v' w2 hown2 hg2 hb2)
 exact ⟨⟨k+1,os++[z],1,by omega,by go_num,rfl,hown2,by rw [ak,HOL.out];rfl,Co HOK.out hzb,by omega,AaQ HOL.out HX.out HY.out HV.out HZ.out,hb.trans ((((ab _ wr).alloc (aa _) _).mono hb.size).trans hb2)⟩,by simp [intOf];omega⟩):p:=h
theorem Aou (h:p:=by
 clear hlt kb
 go_wp2_with (at_builtin;refine Nv rfl _ _ rfl w.heap.size _ os z wr.heap.size rfl (HO.out.alloc _) rfl (by simp [go_sem]) (by have:=HOL.out;omega) (by simp;omega) ?_;intro v' w2 hown2 hg2 hb2)
 exact ⟨⟨k+1,os++[z],0,by omega,by go_num,rfl,hown2,by rw [ak,HOL.out];rfl,Co HOK.out hzb,by omega,AaQ HOL.out HX.out HY.out HV.out HZ.out,hb.trans ((((ab _ wr).alloc (aa _) _).mono hb.size).trans hb2)⟩,by simp [intOf];omega⟩):p:=h
theorem Acg (A B:Option Addr) (a b:List Nat) (c1 c2 m:Nat) (w:World) (hm:m≤w.heap.size) (h1:Al w m A (w32 a)) (h2:Al w m B (w32 b)) (ha:Ao a) (hb:Ao b) (l1:a.length≤100000) (l2:b.length≤a.length) (hle:Ay b≤Ay a) :
  Calls prog 110 #[.slice A a.length c1,.slice B b.length c2] w fun e w' =>
   ∃ G g,e=.returned (.slice G (Ad (Ay a - Ay b)).length g)∧(G=none→g=0)∧(Ad (Ay a - Ay b)).length≤g∧Al w' w'.heap.size G (w32 (Ad (Ay a - Ay b)))∧Below w.heap.size w w':=by
 have H1:=mo h1
 have H2:=mo h2
 have HA:=mo ha
 have HB:=mo hb
 have HLE:=mo hle
 clear h1 h2 ha hb hle
 go_enter func110,ntmps110
 go_wp2_with fail
 go_loopw [5,6,11] (fun v cv i wr=>Arn w a b v cv i wr) (fun _ _ i _=>a.length - (intOf i).toNat)
 case atStart=>exact ⟨0,[],0,ad _,rfl,rfl,Dw.nil_ _ _,rfl,by simp [Ao],by omega,by simp [Ay],ab _ _⟩
 case round =>
  as_aux_lemma =>
  obtain ⟨k,os,br,hk,rfl,rfl,hown,hol,hok,hcy,hv,hb⟩:=hrel
  have HO:=mo hown
  have HOL:=mo hol
  have HOK:=mo hok
  have HV:=mo hv
  clear hown hol hok hv
  have hsz:=hb.size
  by_cases hlt:k<a.length
  ·by_cases kb:k<b.length
   ·skip
    obtain ⟨b1,o1,x,rfl,q1,_,hx,g1'⟩:=H1.out.w32_ hlt
    have g1:=(hb.cell (p:=⟨b1,o1+k,none⟩) (al q1 hm)).trans g1'
    have bx:=HA.out x (gM hx)
    have HX:=mo (show a[k]?.getD 0=x by rw [hx];rfl)
    have ka':(k:Int)<(a.length:Int):=by omega
    clear hx g1'
    obtain ⟨b2,o2,y,rfl,q2,_,hy,g2'⟩:=H2.out.w32_ kb
    have g2:=(hb.cell (p:=⟨b2,o2+k,none⟩) (al q2 hm)).trans g2'
    have by':=HB.out y (gM hy)
    have HY:=mo (show b[k]?.getD 0=y by rw [hy];rfl)
    have kb':(k:Int)<(b.length:Int):=by omega
    clear hy g2'
    by_cases hneg:(x:Int) - (br:Int) - (y:Int)<0
    ·as_aux_lemma =>
     obtain ⟨z,hz⟩:∃ z:Nat,(x:Int) - (br:Int) - (y:Int)+4294967296=(z:Int):=⟨((x:Int) - (br:Int) - (y:Int)+4294967296).toNat,by omega⟩
     have HZ:=mo (show z+br+y=x+4294967296*1 by omega)
     have hzb:z<4294967296:=by omega
     have hzm:(z:Int) % 4294967296=(z:Int):=by omega
     exact Aot
    ·as_aux_lemma =>
     obtain ⟨z,hz⟩:∃ z:Nat,(x:Int) - (br:Int) - (y:Int)=(z:Int):=⟨((x:Int) - (br:Int) - (y:Int)).toNat,by omega⟩
     have HZ:=mo (show z+br+y=x+4294967296*0 by omega)
     have hzb:z<4294967296:=by omega
     have hzm:(z:Int) % 4294967296=(z:Int):=by omega
     exact Aou
   ·skip
    obtain ⟨b1,o1,x,rfl,q1,_,hx,g1'⟩:=H1.out.w32_ hlt
    have g1:=(hb.cell (p:=⟨b1,o1+k,none⟩) (al q1 hm)).trans g1'
    have bx:=HA.out x (gM hx)
    have HX:=mo (show a[k]?.getD 0=x by rw [hx];rfl)
    have ka':(k:Int)<(a.length:Int):=by omega
    clear hx g1'
    have HY:=mo (show b[k]?.getD 0=0 by rw [dv (by omega)];rfl)
    have kb':¬ (k:Int)<(b.length:Int):=by omega
    by_cases hneg:(x:Int) - (br:Int)<0
    ·as_aux_lemma =>
     obtain ⟨z,hz⟩:∃ z:Nat,(x:Int) - (br:Int)+4294967296=(z:Int):=⟨((x:Int) - (br:Int)+4294967296).toNat,by omega⟩
     have HZ:=mo (show z+br+0=x+4294967296*1 by omega)
     have hzb:z<4294967296:=by omega
     have hzm:(z:Int) % 4294967296=(z:Int):=by omega
     exact Aot
    ·as_aux_lemma =>
     obtain ⟨z,hz⟩:∃ z:Nat,(x:Int) - (br:Int)=(z:Int):=⟨((x:Int) - (br:Int)).toNat,by omega⟩
     have HZ:=mo (show z+br+0=x+4294967296*0 by omega)
     have hzb:z<4294967296:=by omega
     have hzm:(z:Int) % 4294967296=(z:Int):=by omega
     exact Aou
  ·as_aux_lemma =>
   have hka:a.length≤k:=by omega
   have hkb:b.length≤k:=by omega
   have hke:k=a.length:=by omega
   have hwv:Ay os=Ay a - Ay b:=by
    have hv:=HV.out
    rw [aq hka,aq hkb,hke] at hv
    exact Anh (HOL.out.trans hke) HOK.out hcy HLE.out hv
   have hl6:os.length≤1000000:=by have:=HOL.out;omega
   have HWV:=mo hwv
   obtain ⟨G,g,rfl,hGn,hGc⟩:=HO.out.view
   obtain ⟨_,hgc,_,_⟩:=HO.out.cap_
   have HGC:=mo hGc
   clear hwv hka hkb hke hGc
   go_wp2_with (go_at_call 206;refine (LV G os g wr.heap.size wr HGC.out hgc hl6).mono ?_;rintro e w3 ⟨rfl,rfl⟩)
   go_ret
   have hcan:=CJ HOK.out
   rw [HWV.out] at hcan
   refine ⟨G,g,by rw [hcan];rfl,hGn,?_,?_,hb⟩
   ·rw [←hcan,Cp]
    have:=DY os os.length
    omega
   ·rw [←hcan]
    exact HGC.out.takeW _
theorem AkC (h:p:=by
 go_enter func81,ntmps81
 go_wp2_with fail
 go_ret
 exact ⟨rfl,(ab _ w).alloc (aa _) _⟩):p:=h
theorem Ach (neg:Bool) (A:Option Addr) (n den c m:Nat) (w:World) (hm:m≤w.heap.size) (h:Al w m A (w32 (Ad n))) (hl:(Ad n).length≤100000) (ok:Ani neg n den) :
  Calls prog 81 #[.agg #[.bool neg,.slice A (Ad n).length c,.int .i64 (den:Int)]] w fun e w'=>e=.returned (.bool true)∧Below w.heap.size w w':=by
 by_cases h0:n=0
 ·obtain ⟨rfl,rfl⟩:=ok.zero h0
  subst h0
  rw [AK]
  clear h hl ok
  exact AkC
 ·have hp:=CO h0
  have ht:=OC h0
  obtain ⟨b,off,z,rfl,q1,q2,hz,g1⟩:=h.w32_ (k:=(Ad n).length - 1) (by omega)
  have hz0:((z:Int) != 0)=true:=by
   rw [hz] at ht
   simp at ht
   simp
   omega
  have g0:w.cell? ⟨b,off,none⟩=some (.int .u32 ((n % 4294967296:Nat):Int)):=by
   obtain ⟨b',off',z',hA,_,_,hz',g'⟩:=h.w32_ (k:=0) hp
   cases hA
   rw [QI h0] at hz'
   cases hz'
   exact g'
  obtain ⟨L,hL⟩:∃ L,L=(Ad n).length - 1:=⟨_,rfl⟩
  obtain ⟨x,hx⟩:∃ x:Nat,x=n % 4294967296:=⟨_,rfl⟩
  have hlen:(Ad n).length=L+1:=by omega
  have hd:=ok.fine
  have ho:=ok.odd
  rw [←hx] at g0
  rw [←hL] at g1
  rw [hlen]
  have hl':L≤100000:=by omega
  have e0:((L:Int)+1 == 0)=false:=by simp;omega
  have hodd:den≠0→(x:Int) % 2=1:=fun hne=>by have:=ho hne;omega
  clear h hl ok ho ht hz hL hx hlen hp h0
  by_cases hden:den=0
  ·subst hden
   clear hodd hd
   exact AkC
  ·have ho:=hodd hden
   have d0:((den:Int) == 0)=false:=by simp;omega
   have d1:decide ((den:Int)≤65536)=true:=decide_eq_true (by omega)
   clear hodd hden
   exact AkC
theorem Agf (h2:tmps.getD 2 undef=.pointer (some ⟨b,0,none⟩)) (hB:Ca w b [v0,v1,v2] 43) :
  (results Tryz.f105 tmps).run prog w=.ok (.agg #[v0,v1,v2]) w:=by
 have k0:=hB.cell 0
 have k1:=hB.cell 1
 have k2:=hB.cell 2
 simp at k0 k1 k2
 simp at h2
 simp [results,results105,go_sem,h2,k0,k1,k2]
theorem Oj (neg:Bool) (A:Option Addr) (n den c m:Nat) (w:World) (hm:m≤w.heap.size) (h:Al w m A (w32 (Ad n))) (hl:(Ad n).length≤100000) (ok:Ani neg n den) :
  Calls prog 105 #[.agg #[.bool neg,.slice A (Ad n).length c,.int .i64 (den:Int)]] w fun e w'=>e=.returned (.agg #[.bool neg,.slice A (Ad n).length c,.int .i64 (den:Int)])∧Below w.heap.size w w':=by
 have H:=mo h
 have OK:=mo ok
 have HL:=mo hl
 clear h ok hl
 have b0:Below w.heap.size w ((w.alloc (.cells #[.bool neg,.slice A (Ad n).length c,.int .i64 (den:Int)] 43)).alloc (.cells #[.bool false,.slice none 0 0,.int .i64 0] 43)):=Am (Am (ab _ _) _) _
 have r0:=Ca.new_ (w.alloc (.cells #[.bool neg,.slice A (Ad n).length c,.int .i64 (den:Int)] 43)) [.bool false,.slice none 0 0,.int .i64 0] 43
 go_enter func105,ntmps105
 go_wp2_with fail
 go_at_call 81
 refine (Ach neg A n den c m _ (by simp;omega) (H.out.below b0 hm) HL.out OK.out).mono ?_
 rintro e w1 ⟨rfl,hb⟩
 obtain ⟨qc,qf,qs,qz⟩:=It (m:=w.heap.size+2) hb (by simp) (by simp)
 have r1:=r0.below hb (by simp)
 have b1:=b0.trans (hb.mono (by simp;omega))
 have e1:(w.alloc (.cells #[.bool neg,.slice A (Ad n).length c,.int .i64 (den:Int)] 43)).heap.size=w.heap.size+1:=by simp
 rw [e1] at r1
 clear hb r0 b0 e1
 go_wp2_with fail
 refine bodyPost_ret (Agf rfl (((r1.set_ 0 _).set_ 1 _).set_ 2 _)) rfl ⟨rfl,((b1.setCell (by simp) _).setCell (by simp) _).setCell (by simp) _⟩
theorem AkD (h:p:=by
 rintro e w1 ⟨rfl,hb⟩
 obtain ⟨qc,qf,qs,qz⟩:=It (m:=w.heap.size+1) hb (by simp) (by simp)
 have b1:=b0.trans (hb.mono (by simp))
 clear hb r0 b0
 go_wp2_with fail
 go_ret
 exact ⟨by rw [SV];rfl,((b1.setCell (by simp) _).setCell (by simp) _).setCell (by simp) _⟩):p:=h
theorem Agg (neg:Bool) (A:Option Addr) (n den c m:Nat) (w:World) (hm:m≤w.heap.size) (h:Al w m A (w32 (Ad n))) (hl:(Ad n).length≤100000) (ok:Ani neg n den) :
  Calls prog 41 #[.agg #[.bool neg,.slice A (Ad n).length c,.int .i64 (den:Int)]] w fun e w'=>e=.returned (.int .i64 (sgn neg n))∧Below w.heap.size w w':=by
 have H:=mo h
 have OK:=mo ok
 have HL:=mo hl
 clear h ok hl
 have b0:Below w.heap.size w (w.alloc (.cells #[.bool neg,.slice A (Ad n).length c,.int .i64 (den:Int)] 43)):=Am (ab _ _) _
 have r0:=Ca.new_ w [.bool neg,.slice A (Ad n).length c,.int .i64 (den:Int)] 43
 by_cases h0:n=0
 ·have SV:sgn neg n=0:=by simp [sgn,h0]
  have ez:(((Ad n).length:Int) == 0)=true:=by rw [h0,AK];rfl
  clear h0
  go_enter func41,ntmps41
  go_wp2_with fail
  go_at_call 105
  refine (Oj neg A n den c m _ (by simp;omega) (H.out.below b0 hm) HL.out OK.out).mono ?_
  exact AkD
 ·have hp:=CO h0
  have ez:(((Ad n).length:Int) == 0)=false:=by rw [beq_eq_false_iff_ne];omega
  cases neg with
  | true =>
   have SV:sgn true n = -1:=by simp [sgn,h0]
   clear hp h0
   go_enter func41,ntmps41
   go_wp2_with fail
   go_at_call 105
   refine (Oj true A n den c m _ (by simp;omega) (H.out.below b0 hm) HL.out OK.out).mono ?_
   exact AkD
  | false =>
   have SV:sgn false n=1:=by simp [sgn,h0]
   clear hp h0
   go_enter func41,ntmps41
   go_wp2_with fail
   go_at_call 105
   refine (Oj false A n den c m _ (by simp;omega) (H.out.below b0 hm) HL.out OK.out).mono ?_
   exact AkD
theorem Agh (A:Option Addr) (a:List Nat) (c n m:Nat) (w:World) (hm:m≤w.heap.size) (h1:Al w m A (w32 a)) (ha:Ao a) (l1:a.length≤100000) (hn:n≤1000000) :
    Calls prog 106 #[.slice A a.length c,.int .i64 (n:Int)] w fun e w' =>
      ∃ G g,e=.returned (.slice G (Ad (Ay a*2 ^ n)).length g)∧(G=none→g=0)∧(Ad (Ay a*2 ^ n)).length≤g∧Al w' w'.heap.size G (w32 (Ad (Ay a*2 ^ n)))∧Below w.heap.size w w':=by
  rw [OE n]
  obtain ⟨q,hq⟩:∃ q,q=n / 32:=⟨_,rfl⟩
  obtain ⟨p,hp⟩:∃ p,p=2 ^ (n % 32):=⟨_,rfl⟩
  have hp0:0<p:=by rw [hp];exact bj _
  have hp32:p≤2147483648:=by
    rw [hp]
    exact ax (n := 2) (by decide) (show n % 32 ≤ 31 by omega)
  rw [←hq,←hp]
  have HP:=mo hp
  have H1:=mo h1
  have HA:=mo ha
  have hqi:(n:Int) / 32=(q:Int):=by omega
  have hq6:q≤31250:=by omega
  clear h1 ha hp hq
  obtain ⟨i0,hi,hz0,hz1,hz2⟩:=info_parts RK
  go_enter func106,ntmps106
  go_wp2_with (with_reducible refine wpList_make_full _ rfl (.tmp 10) (.tmp 10) 41 rfl w.heap.size 126 i0 (.int .u32 0) 1 IY hi hz0 hz1 .i64 .i64 _ _ q rfl rfl rfl rfl (by rw [hz2];omega) (by unfold maxLen;omega) (aa _) ?_;intro w2 hown hg)
  have hst:=(ab w.heap.size w).grown hg (aa _) (fun k h=>by simp at h)
  have hown2:Dw w2 w.heap.size (.slice (some ⟨w.heap.size,0,none⟩) q q) (List.replicate q 0):=by
    have e1:w32 (List.replicate q 0)=(madeCells (Value.int .u32 0).cells (q*1)).toList:=by
      rw [cq]
      have:=toList_madeCells_one (Value.int .u32 0) q
      simp only [w32,List.map_replicate]
      exact this.symm
    unfold Dw
    rw [e1,fa]
    exact hown
  have hsz:=hst.size
  clear hown hg hi hz0 hz1 hz2
  go_loopw [5,6,14] (fun v cv i wr=>Arp w a q p v cv i wr) (fun _ _ i _=>a.length - (intOf i).toNat)
  case atStart=>exact ⟨0,List.replicate q 0,0,ad _,rfl,rfl,hown2,by simp,OD q,hp0,by simp [EG,Ay],hst⟩
  case round =>
    as_aux_lemma =>
    obtain ⟨k,os,cy,hk,rfl,rfl,hown,hol,hok,hcy,hv,hb⟩:=hrel
    have HO:=mo hown
    have HOL:=mo hol
    have HOK:=mo hok
    have HV:=mo hv
    clear hown hol hok hv hown2 hst
    have hsz:=hb.size
    by_cases hlt:k<a.length
    · as_aux_lemma =>
      obtain ⟨b1,o1,x,rfl,q1,_,hx,g1'⟩:=H1.out.w32_ hlt
      have g1:=(hb.cell (p:=⟨b1,o1+k,none⟩) (al q1 hm)).trans g1'
      have bx:=HA.out x (gM hx)
      have HX := mo (show a[k]?.getD 0 = x by rw [hx]; rfl)
      have ka':(k:Int)<(a.length:Int):=by omega
      clear hx g1'
      obtain ⟨s,hs⟩:∃ s:Nat,s=cy+x*p:=⟨_,rfl⟩
      have hor:bits .or .u64 (cy:Int) (IntKind.u64.wrap ((x:Int)*2 ^ (n % 32)))=(s:Int):=by
        rw [hs]
        exact Aro HP.out hcy bx (by omega)
      have HC:=mo (AaS hcy bx)
      rw [←hs] at HC
      obtain ⟨z,hz⟩:∃ z:Nat,(s:Int) % 4294967296=(z:Int):=⟨(s % 4294967296:Nat),by omega⟩
      obtain ⟨c',hc'⟩:∃ c':Nat,(s:Int) / 4294967296=(c':Int):=⟨(s / 4294967296:Nat),by omega⟩
      have HZ := mo (show z + 4294967296 * c' = cy + x * p by rw [← hs]; omega)
      have hzb:z<4294967296:=by omega
      have HC2 := mo (show c' < p by have h := HC.out; omega)
      clear hs HC
      go_wp2_with (at_builtin;refine Nv rfl _ _ rfl w.heap.size _ os z wr.heap.size rfl (HO.out.alloc _) rfl (by simp [go_sem]) (by have:=HOL.out;omega) (by simp;omega) ?_;intro v' w3 hown3 hg3 hb3)
      exact ⟨⟨k+1,os++[z],c',by omega,by go_num,rfl,hown3,by rw [ak,HOL.out];rfl,Co HOK.out hzb,HC2.out,AaT HOL.out HX.out HV.out HZ.out,hb.trans ((((ab _ wr).alloc (aa _) _).mono hb.size).trans hb3)⟩,by simp [intOf];omega⟩
    · as_aux_lemma =>
      have hle:¬ (k:Int)<(a.length:Int):=by omega
      have hka:a.length≤k:=by omega
      have hcy32:cy<4294967296:=by omega
      have hcym:(cy:Int) % 4294967296=(cy:Int):=by omega
      obtain ⟨ws,hws⟩:∃ ws,ws=os++[cy]:=⟨_,rfl⟩
      have hwok:Ao ws:=by rw [hws];exact Co HOK.out hcy32
      have hwl:ws.length=q+k+1:=by rw [hws,ak,HOL.out];rfl
      have hwv:Ay ws=Ay a*(4294967296 ^ q*p):=by
        have hv:=HV.out
        rw [aq hka] at hv
        rw [hws,BU,HOL.out,←hv]
        simp only [Ay,Nat.mul_zero,cr]
      have hl6:ws.length≤1000000:=by omega
      have HWS:=mo hws
      have HWO:=mo hwok
      have HWV:=mo hwv
      clear hws hwok hwv hka hwl hlt
      go_wp2_with (first
        | (go_at_call 206;refine (LV G ws g w3.heap.size w3 hGc hgc hl6).mono ?_;rintro e w4 ⟨rfl,rfl⟩)
        | (at_builtin;refine Nv rfl _ _ rfl w.heap.size _ os cy wr.heap.size rfl (HO.out.alloc _) rfl (by simp [go_sem]) (by have:=HOL.out;omega) (by simp;omega) ?_;intro v' w3 hown3 hg3 hb3;rw [←HWS.out] at hown3;obtain ⟨G,g,rfl,hGn,hGc⟩:=hown3.view;obtain ⟨_,hgc,_,_⟩:=hown3.cap_))
      go_ret
      have hcan:=CJ HWO.out
      rw [HWV.out] at hcan
      refine ⟨G,g,by rw [hcan];rfl,hGn,?_,?_,hb.trans ((((ab _ wr).alloc (aa _) _).mono hb.size).trans hb3)⟩
      · rw [←hcan,Cp]
        have:=DY ws ws.length
        omega
      · rw [←hcan]
        exact hGc.takeW _
theorem Aov (h:p:=by
 clear hzn
 have HZB:=mo (show z<4294967296 by rw [HZ.out];exact ew _ (by decide))
 have hj2:q+(j+1)≤a.length:=by have:=HIJ.out;omega
 go_wp2_with (at_builtin;refine Nv rfl _ _ rfl w.heap.size _ os z wr.heap.size rfl (HO.out.alloc _) rfl (by simp [go_sem]) (by have:=HOL.out;omega) (by simp;omega) ?_;intro v' w3 hown3 hg3 hb3)
 exact ⟨⟨j+1,os++[z],hj2,by rw [←HIJ.out],hown3,by rw [ak,HOL.out];rfl,Co HOK.out HZB.out,AaV HA.out HOL.out HV.out HZ.out,hb.trans ((((ab _ wr).alloc (aa _) _).mono hb.size).trans hb3)⟩,by simp [intOf];try omega⟩):p:=h
theorem Aow (h:p:=by
 rw [e] at hl
 rw [fw (al hl (ax (by decide) (by omega))),AK]):p:=h
theorem Uh (A:Option Addr) (a:List Nat) (c n m:Nat) (w:World) (hm:m≤w.heap.size) (h1:Al w m A (w32 a)) (ha:Ao a) (l1:a.length≤100000) (hn:n≤1000000) :
  Calls prog 207 #[.slice A a.length c,.int .i64 (n:Int)] w fun e w' =>
   ∃ G g,e=.returned (.tuple #[.slice G (Ad (Ay a / 2 ^ n)).length g,.bool (QJ (Ay a) n)])∧(G=none→g=0)∧(Ad (Ay a / 2 ^ n)).length≤g∧Al w' w'.heap.size G (w32 (Ad (Ay a / 2 ^ n)))∧Below w.heap.size w w':=by
 have H1:=mo h1
 have HA:=mo ha
 clear h1 ha
 go_enter func207,ntmps207
 go_wp2_with fail
 go_loopw [6,7] (fun cv i wr=>Arr a n w cv i wr) (fun _ i _=>n - (intOf i).toNat)
 case atStart=>exact ⟨0,ad _,ad _,rfl,by rw [AaU],rfl⟩
 case round =>
  obtain ⟨k,hk,hkl,rfl,rfl,rfl⟩:=hrel
  by_cases hlt:k<n
  ·by_cases hlt2:k<32*a.length
   ·obtain ⟨q,hq⟩:∃ q,q=k / 32:=⟨_,rfl⟩
    have hka:q<a.length:=by omega
    obtain ⟨b1,o1,x,rfl,q1,_,hx,g1⟩:=H1.out.w32_ hka
    have bx:=HA.out x (gM hx)
    have HX:=mo (show a[k / 32]?.getD 0=x by rw [←hq,hx];rfl)
    have i1:(k:Int)<(n:Int):=by omega
    have i2:(k:Int)<32*(a.length:Int):=by omega
    have i3:(k:Int) / 32=(q:Int):=by omega
    have i4:(q:Int)<(a.length:Int):=by omega
    clear hq
    clear hx
    obtain ⟨cb,hcb⟩:∃ cb,cb=QJ (Ay a) k:=⟨_,rfl⟩
    rw [←hcb]
    have HC:=mo hcb
    clear hcb
    cases cb with
    | true =>
     go_wp2_with fail
     have e:=Tt (Ay a) k
     rw [←HC.out] at e
     exact ⟨⟨k+1,by omega,by omega,by go_num,by rw [e];rfl,rfl⟩,by simp [intOf];omega⟩
    | false =>
     go_wp2_with fail
     have e:=Tt (Ay a) k
     rw [←HC.out,←AhR HA.out bx HX.out] at e
     exact ⟨⟨k+1,by omega,by omega,by go_num,by rw [e];rfl,rfl⟩,by simp [intOf];omega⟩
   ·as_aux_lemma =>
    have hc:QJ (Ay a) k=QJ (Ay a) n:=by
     have hl:=BO HA.out
     have e:(4294967296:Nat) ^ a.length=2 ^ (32*a.length):=by
      rw [ee]
     rw [e,show 32*a.length=k by omega] at hl
     exact (Afw hl hk).symm
    have hz:Ad (Ay a / 2 ^ n)=[]:=by
     have hl:=BO HA.out
     have e:(4294967296:Nat) ^ a.length=2 ^ (32*a.length):=by
      rw [ee]
     exact Aow
    have i1:(k:Int)<(n:Int):=by omega
    have i2:¬ (k:Int)<32*(a.length:Int):=by omega
    have i3:32*(a.length:Int)≤(n:Int):=by omega
    rw [hc]
    have HZ:=mo hz
    clear hc hz
    go_wp2_with fail
    exact bodyPost_ret (v:=.tuple #[.slice none 0 0,.bool (QJ (Ay a) n)]) (by simp [results,results207,go_sem]) rfl ⟨none,0,by rw [HZ.out];rfl,fun _=>rfl,by rw [HZ.out];exact aa _,by rw [HZ.out];exact Al.nil_,ab _ _⟩
  ·have hkn:k=n:=by omega
   subst hkn
   have i1:¬ (k:Int)<(k:Int):=by omega
   by_cases hlt2:k<32*a.length
   ·as_aux_lemma =>
    obtain ⟨q,hq⟩:∃ q,q=k / 32:=⟨_,rfl⟩
    have hql:q<a.length:=by omega
    have i3:¬ 32*(a.length:Int)≤(k:Int):=by omega
    have i4:(k:Int) / 32=(q:Int):=by omega
    have HQ:=mo hq
    clear hlt hlt2 hq hkl hk
    go_wp2_with fail
    go_loopw [8,9] (fun v i wr=>Anj w a k q v i wr) (fun _ i _=>a.length - (intOf i).toNat)
    case atStart=>exact ⟨0,[],by omega,by simp,Dw.nil_ _ _,rfl,by simp [Ao],by simp [Ay,Nat.mod_one],ab _ _⟩
    case round =>
     as_aux_lemma =>
     obtain ⟨j,os,hj,rfl,hown,hol,hok,hv,hb⟩:=hrel
     have HO:=mo hown
     have HOL:=mo hol
     have HOK:=mo hok
     have HV:=mo hv
     clear hown hol hok hv
     have hsz:=hb.size
     obtain ⟨i,hi⟩:∃ i,i=q+j:=⟨_,rfl⟩
     rw [←hi]
     have hij:(i:Int)+1=((q+(j+1):Nat):Int):=by omega
     have HIJ:=mo hij
     have HI:=mo hi
     have hjl:j<1000000:=by omega
     clear hi hij hj
     by_cases hlt:i<a.length
     ·obtain ⟨b1,o1,x,rfl,q1,_,hx,g1'⟩:=H1.out.w32_ hlt
      have g1:=(hb.cell (p:=⟨b1,o1+i,none⟩) (al q1 hm)).trans g1'
      have bx:=HA.out x (gM hx)
      have HX:=mo (show a[k / 32+j]?.getD 0=x by rw [←HQ.out,←HI.out,hx];rfl)
      have ka':(i:Int)<(a.length:Int):=by omega
      clear hx g1'
      by_cases hlt2:i+1<a.length
      ·obtain ⟨b2,o2,y,hA2,q2,_,hy,g2'⟩:=H1.out.w32_ hlt2
       cases hA2
       have g2:=(hb.cell (p:=⟨b1,o1+(i+1),none⟩) (al q1 hm)).trans g2'
       have by':=HA.out y (gM hy)
       have HY:=mo (show a[k / 32+j+1]?.getD 0=y by rw [←HQ.out,←HI.out,hy];rfl)
       have kb':(i:Int)+1<(a.length:Int):=by omega
       clear hy g2'
       obtain ⟨z,hzn⟩:∃ z:Nat,z=(x+y*4294967296) / 2 ^ (k % 32) % 4294967296:=⟨_,rfl⟩
       have hz:(bits .or .u64 (x:Int) ((y:Int)*4294967296) / 2 ^ (k % 32) % 4294967296)=(z:Int):=by rw [hzn,Arq bx by'];simp
       have HZ:=mo (show z=(a[k / 32+j]?.getD 0+a[k / 32+j+1]?.getD 0*4294967296) / 2 ^ (k % 32) % 4294967296 by rw [HX.out,HY.out];exact hzn)
       exact Aov
      ·have HY:=mo (show a[k / 32+j+1]?.getD 0=0 by rw [←HQ.out,←HI.out,dv (by omega)];rfl)
       have kb':¬ (i:Int)+1<(a.length:Int):=by omega
       obtain ⟨z,hzn⟩:∃ z:Nat,z=x / 2 ^ (k % 32) % 4294967296:=⟨_,rfl⟩
       have hz:((x:Int) / 2 ^ (k % 32) % 4294967296)=(z:Int):=by rw [hzn];simp
       have HZ:=mo (show z=(a[k / 32+j]?.getD 0+a[k / 32+j+1]?.getD 0*4294967296) / 2 ^ (k % 32) % 4294967296 by rw [HX.out,HY.out,gx,cr];exact hzn)
       exact Aov
     ·as_aux_lemma =>
      have hle:¬ (i:Int)<(a.length:Int):=by omega
      have hl6:os.length≤1000000:=by have:=HOL.out;omega
      have HWV:=mo (AhQ (k:=j) HA.out (by have:=HI.out;have:=HQ.out;omega) HV.out)
      obtain ⟨G,g,rfl,hGn,hGc⟩:=HO.out.view
      obtain ⟨_,hgc,_,_⟩:=HO.out.cap_
      have HGC:=mo hGc
      clear hGc
      go_wp2_with (go_at_call 206;refine (LV G os g wr.heap.size wr HGC.out hgc hl6).mono ?_;rintro e w3 ⟨rfl,rfl⟩)
      have hcan:=CJ HOK.out
      rw [HWV.out] at hcan
      refine bodyPost_ret (v:=.tuple #[.slice G (IW os).length g,.bool (QJ (Ay a) k)]) (by simp [results,results207,go_sem]) rfl ⟨G,g,by rw [hcan],hGn,?_,?_,hb⟩
      ·rw [←hcan,Cp]
       have:=DY os os.length
       omega
      ·rw [←hcan]
       exact HGC.out.takeW _
   ·as_aux_lemma =>
    have hz:Ad (Ay a / 2 ^ k)=[]:=by
     have hl:=BO HA.out
     have e:(4294967296:Nat) ^ a.length=2 ^ (32*a.length):=by
      rw [ee]
     exact Aow
    have i3:32*(a.length:Int)≤(k:Int):=by omega
    have HZ:=mo hz
    clear hz
    go_wp2_with fail
    exact bodyPost_ret (v:=.tuple #[.slice none 0 0,.bool (QJ (Ay a) k)]) (by simp [results,results207,go_sem]) rfl ⟨none,0,by rw [HZ.out];rfl,fun _=>rfl,by rw [HZ.out];exact aa _,by rw [HZ.out];exact Al.nil_,ab _ _⟩
theorem Rb (h2:tmps.getD 6 undef=.pointer (some ⟨b,0,none⟩)) (hB:Ca w b [v0,v1,v2] 43) :
  (results Tryz.f107 tmps).run prog w=.ok (.agg #[v0,v1,v2]) w:=by
 have k0:=hB.cell 0
 have k1:=hB.cell 1
 have k2:=hB.cell 2
 simp at k0 k1 k2
 simp at h2
 simp [results,results107,go_sem,h2,k0,k1,k2]
theorem Aox (h:p:=by
  obtain ⟨y,hy⟩:∃ y,y=n / 2 ^ k:=⟨_,rfl⟩
  rw [←hy] at hodd hy0
  have HRES := mo (show nf (sg neg n) den = (sg neg y, den - k) by rw [HNF.out, ← hy]; exact Gl (fun h => by have := hodd h; unfold sg; split <;> omega))
  have HY:=mo hy
  have HODD:=mo hodd
  have HY0:=mo hy0
  have hp:=CO hy0
  have e0:(((Ad y).length:Int) == 0)=false:=by rw [beq_eq_false_iff_ne];omega
  have hyl:(Ad y).length≤100000:=by
    refine lT (AZ ?_) l2
    rw [hy]
    exact jk _ _
  clear hy hodd hy0 hp
  go_wp2_with (first
    | (go_at_call 207
       refine (Uh _ (Ad n) c k m _ (by simp;omega) (HCT.out.below b0 hm) (Az n) l2 (by omega)).mono ?_
       rintro e w2 ⟨G,g,rfl,hG,hg,hcG,hb2⟩
       rw [Au,←HY.out] at hg hcG ⊢
       have hsz2:=hb2.size
       simp at hsz2
       have hszl:w.heap.size<w2.heap.size:=by omega)
    | (at_builtin
       refine Anf rfl _ _ rfl w2.heap.size _ [] (Ad y) G g w2.heap.size rfl (Dw.lit0 (aa _)) rfl hG (hcG.below ((ab w2.heap.size w2).alloc (aa _) _) (aa _)) (by simp;omega) (by simp) ?_
       intro v' w4 hown4 hg4 hb4
       rw [ef] at hown4
       obtain ⟨A',c',rfl,_,_⟩:=hown4.view
       have hall:Below (w.heap.size+1) (w.alloc (.cells #[.bool false,.slice none 0 0,.int .i64 0] 43)) w4:=(hb2.mono (by simp)).trans ((((ab (w.heap.size+1) w2).alloc (by omega) _)).trans (hb4.mono (by omega)))
       have hsz4:=hb4.size
       simp at hsz4
       have hsz5:w.heap.size<w4.heap.size:=by omega
       have r4:=r0.below hall (by simp)
       have bb4:=b0.trans (hall.mono (by simp))
       clear hb2 hb4 hg4
       obtain ⟨qc,qf,qs,qz⟩:=It (m:=w.heap.size+1) hall (by simp) (by simp)))
  have hown5:Dw (((w4.setCell ⟨w.heap.size,0,none⟩ (.bool neg)).setCell ⟨w.heap.size,1,none⟩ (.slice A' (Ad y).length c')).setCell ⟨w.heap.size,2,none⟩ (.int .i64 ((den:Int) - (k:Int)))) w2.heap.size (.slice A' (Ad y).length c') (Ad y):=ownsRow_setCell_below (ownsRow_setCell_below (ownsRow_setCell_below hown4 (by simp;omega) _) (by simp;omega) _) (by simp;omega) _
  refine bodyPost_ret (Rb rfl (((r4.set_ 0 _).set_ 1 _).set_ 2 _)) rfl ⟨_,rfl,?_,((bb4.setCell (by simp) _).setCell (by simp) _).setCell (by simp) _⟩
  rw [HRES.out]
  obtain ⟨_,hcl,hn',hc'⟩:=hown5.cap_
  refine ⟨A',c',?_,hn',?_,?_,?_,by show den - k≤65536;omega,?_⟩
  · rw [Iw,AaZ HY0.out]
    have:(den:Int) - (k:Int)=((den - k:Nat):Int):=by omega
    rw [this]
  · rw [Iw];exact hcl
  · rw [Iw];exact hc'
  · intro a ha
    have:=(World.ownsRow.lt hown5 a.block (by rw [ha];rfl)).1
    omega
  · intro h
    have:=HODD.out h
    show sg neg y % 2=1
    unfold sg
    split <;> omega):p:=h
theorem Aoy (h:p:=by
  go_wp2_with (go_at_call 207
               refine (Uh _ [] c 0 m _ (by simp;omega) (HCT.out.below b0 hm) (by simp [Ao]) (by simp) (by omega)).mono ?_
               rintro e w2 ⟨G,g,rfl,hG,hg,hcG,hb2⟩
               rw [show Ay [] / 2 ^ 0=0 by rfl,AK]
               have hsz2:=hb2.size
               simp at hsz2
               have hszl:w.heap.size<w2.heap.size:=by omega
               obtain ⟨qc,qf,qs,qz⟩:=It (m:=w.heap.size+1) hb2 (by simp) (by simp)
               have r4:=r0.below hb2 (by simp)
               have bb4:=b0.trans (hb2.mono (by simp)))
  refine bodyPost_ret (Rb rfl (((r4.set_ 0 _).set_ 1 _).set_ 2 _)) rfl ⟨_,rfl,?_,((bb4.setCell (by simp) _).setCell (by simp) _).setCell (by simp) _⟩
  rw [HR.out]
  exact DyR.zero_ _ _ _):p:=h
theorem Nc (neg:Bool) (A:Option Addr) (ws:List Nat) (c den m:Nat) (w:World) (hm:m≤w.heap.size) (h1:Al w m A (w32 ws)) (hc:ws.length≤c) (ha:Ao ws) (l1:ws.length≤100000) (hd:den≤65536) :
  Calls prog 107 #[.bool neg,.slice A ws.length c,.int .i64 (den:Int)] w fun e w' =>
   ∃ v,e=.returned v∧DyR w' w.heap.size w'.heap.size v (nf (sg neg (Ay ws)) den).1 (nf (sg neg (Ay ws)) den).2∧Below w.heap.size w w':=by
 have hcan:=CJ ha
 have hlen:(Ad (Ay ws)).length≤ws.length:=by
  rw [←hcan,Cp]
  exact DY _ _
 have HCAN:=mo hcan
 have H1:=mo h1
 have hct:=h1.takeW (Ds ws ws.length)
 rw [show ws.take (Ds ws ws.length)=Ad (Ay ws) from hcan] at hct
 have HCT:=mo hct
 obtain ⟨n,hn⟩:∃ n,n=Ay ws:=⟨_,rfl⟩
 rw [←hn] at HCT HCAN hlen ⊢
 have l2:(Ad n).length≤100000:=by omega
 have l3:(Ad n).length≤c:=by omega
 have l4:ws.length≤1000000:=by omega
 clear h1 ha hcan hct hn
 have b0:Below w.heap.size w (w.alloc (.cells #[.bool false,.slice none 0 0,.int .i64 0] 43)):=Am (ab _ _) _
 have r0:=Ca.new_ w [.bool false,.slice none 0 0,.int .i64 0] 43
 go_enter func107,ntmps107
 go_wp2_with (go_at_call 206;refine (LV A ws c m _ (H1.out.below b0 hm) hc l4).mono ?_;rintro e w3 ⟨rfl,rfl⟩)
 rw [HCAN.out]
 by_cases hn0:n=0
 ·subst hn0
  have hr:nf (sg neg 0) den=(0,0):=by
   rw [show sg neg 0=0 by unfold sg;split <;> rfl]
   exact Vr den
  have HR:=mo hr
  clear hr
  rw [AK] at HCT ⊢
  clear l2 l3 hlen
  go_loopw [7] (fun i wr=>Ars (w.alloc (.cells #[.bool false,.slice none 0 0,.int .i64 0] 43)) i wr) (fun i _=>0)
  case atStart=>exact ⟨rfl,rfl⟩
  case round =>
   obtain ⟨rfl,rfl⟩:=hrel
   have i9:¬ (65536:Int)<(den:Int):=by omega
   by_cases hlt:den=0
   ·subst hlt
    exact Aoy
   ·have i1:0<den:=by omega
    have i2:(0:Int)<(den:Int):=by omega
    clear hlt
    exact Aoy
 ·have HN0:=mo hn0
  have hn1:=CO hn0
  clear hn0
  go_loopw [7] (fun i wr=>Art n den neg (w.alloc (.cells #[.bool false,.slice none 0 0,.int .i64 0] 43)) i wr) (fun i _=>den - (intOf i).toNat)
  case atStart=>exact ⟨0,ad _,ad _,rfl,Nat.mod_one _,by simp,rfl⟩
  case round =>
   skip
   obtain ⟨k,hk,hkl,rfl,hmod,hnf,rfl⟩:=hrel
   have HNF:=mo hnf
   have HMOD:=mo hmod
   clear hnf hmod
   have i9:¬ (65536:Int)<(den:Int) - (k:Int):=by omega
   by_cases hlt:k<den
   ·have i1:(k:Int)<(den:Int):=by omega
    have hlt2:k<32*(Ad n).length:=by
     rcases ba k (32*(Ad n).length) with h|h
     ·exact h
     ·exfalso
      have h2:=BO (Az n)
      rw [Au,show (4294967296:Nat)=2 ^ 32 by decide,←ee,show 32*(Ad n).length=k by omega] at h2
      have h3:=HMOD.out
      rw [et h2] at h3
      exact HN0.out h3
    obtain ⟨q,hq⟩:∃ q,q=k / 32:=⟨_,rfl⟩
    have hka:q<(Ad n).length:=by omega
    obtain ⟨b1,o1,x,rfl,q1,_,hx,g1'⟩:=HCT.out.w32_ hka
    have g1:=(b0.cell (p:=⟨b1,o1+q,none⟩) (al q1 hm)).trans g1'
    have bx:=Az n x (gM hx)
    have hbit:=AhR (Az n) bx (show (Ad n)[k / 32]?.getD 0=x by rw [←hq,hx];rfl)
    have hbit0:=Ank (Az n) bx (show (Ad n)[k / 32]?.getD 0=x by rw [←hq,hx];rfl)
    rw [Au] at hbit hbit0
    have i2:(k:Int)<32*((Ad n).length:Int):=by omega
    have i3:(k:Int) / 32=(q:Int):=by omega
    have i4:(q:Int)<((Ad n).length:Int):=by omega
    clear hq hx g1' hbit
    by_cases hz:n / 2 ^ k % 2=0
    ·have hb0:(bits .and .u32 ((x:Int) / 2 ^ (k % 32)) 1 == 0)=true:=by rw [hbit0,hz];rfl
     have HZ:=mo hz
     clear hbit0 hz
     go_wp2_with fail
     refine ⟨⟨k+1,by omega,by omega,by go_num,Anl HMOD.out HZ.out,HNF.out.trans (Aba hlt HZ.out),rfl⟩,by simp [intOf];omega⟩
    ·have hb0:(bits .and .u32 ((x:Int) / 2 ^ (k % 32)) 1 == 0)=false:=by rw [hbit0];simp;omega
     have hodd:den - k≠0→n / 2 ^ k % 2=1:=fun _=>by omega
     have hy0:n / 2 ^ k≠0:=fun h=>by rw [h] at hz;exact hz rfl
     clear hbit0 hz
     exact Aox
   ·have hkd:k=den:=by omega
    have i1:¬ (k:Int)<(den:Int):=by omega
    have hodd:den - k≠0→n / 2 ^ k % 2=1:=fun h=>by omega
    have hy0:n / 2 ^ k≠0:=fun h=>by
     have h2:=dn n (2 ^ k)
     rw [h,HMOD.out] at h2
     exact HN0.out (by omega)
    clear hkd
    exact Aox
theorem Pv {x:Int} {d:Nat} (D:DyR w lo m v x d) (hm:m≤w.heap.size) (hl:(Ad x.natAbs).length≤100000) :
  Calls prog 105 #[v] w fun e w'=>e=.returned v∧Below w.heap.size w w':=by
 obtain ⟨A,c,rfl,h1,h2,h3,h4,h5,h6⟩:=D
 exact Oj _ A _ d c m w hm h3 hl (AjG h5 h6)
theorem Aoz {x:Int} {d:Nat} (D:DyR w lo m v x d) (hm:m≤w.heap.size) (hl:(Ad x.natAbs).length≤100000) :
  Calls prog 41 #[v] w fun e w'=>e=.returned (.int .i64 (sgI x))∧Below w.heap.size w w':=by
 obtain ⟨A,c,rfl,h1,h2,h3,h4,h5,h6⟩:=D
 refine (Agg _ A _ d c m w hm h3 hl (AjG h5 h6)).mono ?_
 rintro e w' ⟨rfl,hb⟩
 refine ⟨?_,hb⟩
 have:sgn (decide (x<0)) x.natAbs=sgI x:=by
  unfold sgn sgI
  by_cases h0:x=0
  ·subst h0;rfl
  ·rw [if_neg (by omega),if_neg h0]
   by_cases h1:x<0
   ·simp [h1]
   ·simp [h1]
 rw [this]
theorem Sk {neg:Bool} {A:Option Addr} {L c d:Nat} (hL:L=(Ad n).length) (hc:Al w m A (w32 (Ad n))) (hcap:L≤c) (hm:m≤w.heap.size) (hl:(Ad n).length≤100000) (hd:d≤65536) :
  Calls prog 107 #[.bool neg,.slice A L c,.int .i64 (d:Int)] w fun e w' =>
   ∃ v,e=.returned v∧DyR w' w.heap.size w'.heap.size v (nf (sg neg n) d).1 (nf (sg neg n) d).2∧Below w.heap.size w w':=by
 subst hL
 have h:=Nc neg A (Ad n) c d m w hm hc hcap (Az n) hl hd
 rw [Au] at h
 exact h
theorem AkE (h2:tmps.getD 2 undef=.pointer (some ⟨b,0,none⟩)) (hB:Ca w b [v0,v1,v2] 43) :
  (results Tryz.f112 tmps).run prog w=.ok (.agg #[v0,v1,v2]) w:=by
 have k0:=hB.cell 0
 have k1:=hB.cell 1
 have k2:=hB.cell 2
 simp at k0 k1 k2
 simp at h2
 simp [results,results112,go_sem,h2,k0,k1,k2]
theorem AkF (h:p:=by
 exact ((((D3'.out.set_ (by omega) 0 _).set_ (by omega) 1 _).set_ (by omega) 2 _).low (by omega)).more (by simp)):p:=h
theorem ArV {x:Int} {d:Nat} (D:DyR w lo m v x d) (hm:m≤w.heap.size) (hl:(Ad x.natAbs).length≤100000) :
  Calls prog 112 #[v] w fun e w'=>∃ v',e=.returned v'∧DyR w' w.heap.size w'.heap.size v' (-x) d∧Below w.heap.size w w':=by
 obtain ⟨nb,A,L,c,rfl,HD⟩:=D.form
 have D':=mo D
 clear D
 have b0:Below w.heap.size w ((w.alloc (.cells #[.bool nb,.slice A L c,.int .i64 (d:Int)] 43)).alloc (.cells #[.bool false,.slice none 0 0,.int .i64 0] 43)):=Am (Am (ab _ _) _) _
 have r0:=(Ca.new_ (w.alloc (.cells #[.bool nb,.slice A L c,.int .i64 (d:Int)] 43)) [.bool false,.slice none 0 0,.int .i64 0] 43)
 rw [show (w.alloc (.cells #[.bool nb,.slice A L c,.int .i64 (d:Int)] 43)).heap.size=w.heap.size+1 by simp] at r0
 go_enter func112,ntmps112
 go_wp2_with fail
 go_at_call 105
 refine (Pv (D'.out.below b0 hm) (by simp;omega) hl).mono ?_
 rintro e w1 ⟨rfl,hb⟩
 obtain ⟨qc,qf,qs,qz⟩:=It (m:=w.heap.size+2) hb (by simp) (by simp)
 have r1:=r0.below hb (by simp)
 have b1:=b0.trans (hb.mono (by simp;omega))
 clear hb r0 b0
 go_wp2_with fail
 go_at_call 107
 obtain ⟨W,hW⟩:∃ W,W=((w1.setCell ⟨w.heap.size,0,none⟩ (.bool nb)).setCell ⟨w.heap.size,1,none⟩ (.slice A L c)).setCell ⟨w.heap.size,2,none⟩ (.int .i64 (d:Int)):=⟨_,rfl⟩
 have hWs:w.heap.size+2≤W.heap.size:=by rw [hW];simp;omega
 have b2:Below w.heap.size w W:=by rw [hW];exact ((b1.setCell (by simp) _).setCell (by simp) _).setCell (by simp) _
 have r2:Ca W (w.heap.size+1) [.bool false,.slice none 0 0,.int .i64 0] 43:=by
  rw [hW]
  exact ((r1.other_ (by omega) _ _).other_ (by omega) _ _).other_ (by omega) _ _
 rw [←hW]
 clear hW qc qf qs qz r1 b1
 refine (Sk (n:=x.natAbs) (m:=m) HD.out.2.1 (HD.out.2.2.2.2.1.below b2 hm) HD.out.2.2.2.1 (by omega) hl HD.out.2.2.2.2.2.1).mono ?_
 rintro e w3 ⟨v',rfl,D3,hb3⟩
 obtain ⟨tc,tf,ts,tz⟩:=It (m:=w.heap.size+2) hb3 hWs hWs
 have r3:=r2.below hb3 (by omega)
 have b3:=b2.trans (hb3.mono (by omega))
 have hval:nf (sg (!nb) x.natAbs) d=(-x,d):=by
  have e:sg (!nb) x.natAbs = -x:=by
   rw [HD.out.1]
   unfold sg
   by_cases h:x<0
   ·simp [h];omega
   ·simp [h];omega
  rw [e]
  exact Anm (fun h=>by have:=HD.out.2.2.2.2.2.2 h;omega)
 rw [hval] at D3
 obtain ⟨nb3,A3,L3,c3,rfl,_⟩:=D3.form
 have D3':=mo D3
 have k0:w3.cell? ⟨w.heap.size+1,0,none⟩=some (.bool false):=r3.cell 0
 have k1:w3.cell? ⟨w.heap.size+1,1,none⟩=some (.slice none 0 0):=r3.cell 1
 have k2:w3.cell? ⟨w.heap.size+1,2,none⟩=some (.int .i64 0):=r3.cell 2
 have kf:=r3.free
 clear D3 hb3 r2 b2 hval tc tf
 go_wp2_with fail
 refine bodyPost_ret (AkE rfl (((r3.set_ 0 _).set_ 1 _).set_ 2 _)) rfl ⟨_,rfl,?_,((b3.setCell (by simp) _).setCell (by simp) _).setCell (by simp) _⟩
 exact AkF
theorem AkG (h2:tmps.getD 2 undef=.pointer (some ⟨b,0,none⟩)) (hB:Ca w b [v0,v1,v2] 43) :
  (results Tryz.f101 tmps).run prog w=.ok (.agg #[v0,v1,v2]) w:=by
 have k0:=hB.cell 0
 have k1:=hB.cell 1
 have k2:=hB.cell 2
 simp at k0 k1 k2
 simp at h2
 simp [results,results101,go_sem,h2,k0,k1,k2]
theorem ArW {x:Int} {d:Nat} (D:DyR w lo m v x d) (hm:m≤w.heap.size) (hl:(Ad x.natAbs).length≤100000) :
  Calls prog 101 #[v] w fun e w'=>∃ v',e=.returned v'∧DyR w' w.heap.size w'.heap.size v' (((x.natAbs:Nat):Int)) d∧Below w.heap.size w w':=by
 obtain ⟨nb,A,L,c,rfl,HD⟩:=D.form
 have D':=mo D
 clear D
 have b0:Below w.heap.size w ((w.alloc (.cells #[.bool nb,.slice A L c,.int .i64 (d:Int)] 43)).alloc (.cells #[.bool false,.slice none 0 0,.int .i64 0] 43)):=Am (Am (ab _ _) _) _
 have r0:=(Ca.new_ (w.alloc (.cells #[.bool nb,.slice A L c,.int .i64 (d:Int)] 43)) [.bool false,.slice none 0 0,.int .i64 0] 43)
 rw [show (w.alloc (.cells #[.bool nb,.slice A L c,.int .i64 (d:Int)] 43)).heap.size=w.heap.size+1 by simp] at r0
 go_enter func101,ntmps101
 go_wp2_with fail
 go_at_call 105
 refine (Pv (D'.out.below b0 hm) (by simp;omega) hl).mono ?_
 rintro e w1 ⟨rfl,hb⟩
 obtain ⟨qc,qf,qs,qz⟩:=It (m:=w.heap.size+2) hb (by simp) (by simp)
 have r1:=r0.below hb (by simp)
 have b1:=b0.trans (hb.mono (by simp;omega))
 clear hb r0 b0
 go_wp2_with fail
 go_at_call 107
 obtain ⟨W,hW⟩:∃ W,W=((w1.setCell ⟨w.heap.size,0,none⟩ (.bool nb)).setCell ⟨w.heap.size,1,none⟩ (.slice A L c)).setCell ⟨w.heap.size,2,none⟩ (.int .i64 (d:Int)):=⟨_,rfl⟩
 have hWs:w.heap.size+2≤W.heap.size:=by rw [hW];simp;omega
 have b2:Below w.heap.size w W:=by rw [hW];exact ((b1.setCell (by simp) _).setCell (by simp) _).setCell (by simp) _
 have r2:Ca W (w.heap.size+1) [.bool false,.slice none 0 0,.int .i64 0] 43:=by
  rw [hW]
  exact ((r1.other_ (by omega) _ _).other_ (by omega) _ _).other_ (by omega) _ _
 rw [←hW]
 clear hW qc qf qs qz r1 b1
 refine (Sk (n:=x.natAbs) (m:=m) HD.out.2.1 (HD.out.2.2.2.2.1.below b2 hm) HD.out.2.2.2.1 (by omega) hl HD.out.2.2.2.2.2.1).mono ?_
 rintro e w3 ⟨v',rfl,D3,hb3⟩
 obtain ⟨tc,tf,ts,tz⟩:=It (m:=w.heap.size+2) hb3 hWs hWs
 have r3:=r2.below hb3 (by omega)
 have b3:=b2.trans (hb3.mono (by omega))
 have hval:nf (sg false x.natAbs) d=(((x.natAbs:Nat):Int),d):=by
  exact Anm (fun h=>by have:=HD.out.2.2.2.2.2.2 h;unfold sg;simp;omega)
 rw [hval] at D3
 obtain ⟨nb3,A3,L3,c3,rfl,_⟩:=D3.form
 have D3':=mo D3
 have k0:w3.cell? ⟨w.heap.size+1,0,none⟩=some (.bool false):=r3.cell 0
 have k1:w3.cell? ⟨w.heap.size+1,1,none⟩=some (.slice none 0 0):=r3.cell 1
 have k2:w3.cell? ⟨w.heap.size+1,2,none⟩=some (.int .i64 0):=r3.cell 2
 have kf:=r3.free
 clear D3 hb3 r2 b2 hval tc tf
 go_wp2_with fail
 refine bodyPost_ret (AkG rfl (((r3.set_ 0 _).set_ 1 _).set_ 2 _)) rfl ⟨_,rfl,?_,((b3.setCell (by simp) _).setCell (by simp) _).setCell (by simp) _⟩
 exact AkF
theorem AoA (h2:tmps.getD 2 undef=.pointer (some ⟨b,0,none⟩)) (hB:Ca w b [v0,v1,v2] 43) :
  (results Tryz.f39 tmps).run prog w=.ok (.agg #[v0,v1,v2]) w:=by
 have k0:=hB.cell 0
 have k1:=hB.cell 1
 have k2:=hB.cell 2
 simp at k0 k1 k2
 simp at h2
 simp [results,results39,go_sem,h2,k0,k1,k2]
theorem AoB (h:p:=by
 obtain ⟨nb3,A3,L3,c3,rfl,_⟩:=D3.form
 have D3':=mo D3
 have k0:w3.cell? ⟨w.heap.size,0,none⟩=some (.bool false):=r3.cell 0
 have k1:w3.cell? ⟨w.heap.size,1,none⟩=some (.slice none 0 0):=r3.cell 1
 have k2:w3.cell? ⟨w.heap.size,2,none⟩=some (.int .i64 0):=r3.cell 2
 have kf:=r3.free
 clear D3 hb3 r0 b0 c0 tc tf
 go_wp2_with fail
 refine bodyPost_ret (AoA rfl (((r3.set_ 0 _).set_ 1 _).set_ 2 _)) rfl ⟨_,rfl,?_,((b3.setCell (by simp) _).setCell (by simp) _).setCell (by simp) _⟩
 exact ((((D3'.out.set_ (by omega) 0 _).set_ (by omega) 1 _).set_ (by omega) 2 _).low (by omega)).more (by simp)):p:=h
theorem AoC (h:p:=by
 rw [show (w.alloc (.cells #[.bool false,.slice none 0 0,.int .i64 0] 43)).heap.size=w.heap.size+1 by simp] at h
 exact h.cells_ (by omega)):p:=h
theorem AoD (n:Int) (h1 : -9223372036854775808≤n) (h2:n<9223372036854775808) (w:World) :
  Calls prog 39 #[.int .i64 n] w fun e w'=>∃ v',e=.returned v'∧DyR w' w.heap.size w'.heap.size v' n 0∧Below w.heap.size w w':=by
 by_cases h:n<0
 ·as_aux_lemma =>
  obtain ⟨p,hp⟩:∃ p:Nat,-(n+1)=(p:Int):=⟨(-(n+1)).toNat,by omega⟩
  obtain ⟨a,ha⟩:∃ a:Nat,(p:Int)+1=(a:Int):=⟨p+1,by omega⟩
  have hsg:sg true a=n:=by unfold sg;simp;omega
  have hpb:p<9223372036854775808:=by omega
  obtain ⟨lo,hlo⟩:∃ lo:Nat,(a:Int) % 4294967296=(lo:Int):=⟨(a % 4294967296:Nat),by omega⟩
  obtain ⟨hi,hhi⟩:∃ hi:Nat,(a:Int) / 4294967296=(hi:Int):=⟨(a / 4294967296:Nat),by omega⟩
  have hib:hi<4294967296:=by omega
  have lob:lo<4294967296:=by omega
  have hval:Ay [lo,hi]=a:=by rw [RL];omega
  have HSG:=mo hsg
  have HV:=mo hval
  clear hsg hval
  have b0:Below w.heap.size w ((w.alloc (.cells #[.bool false,.slice none 0 0,.int .i64 0] 43)).alloc (.cells #[.int .u32 (lo:Int),.int .u32 (hi:Int)] 126)):=Am (Am (ab _ _) _) _
  have r0:=(Ca.new_ w [.bool false,.slice none 0 0,.int .i64 0] 43).below ((ab (w.heap.size+1) _).alloc (by simp) (.cells #[.int .u32 (lo:Int),.int .u32 (hi:Int)] 126)) (by omega)
  have c0:Al ((w.alloc (.cells #[.bool false,.slice none 0 0,.int .i64 0] 43)).alloc (.cells #[.int .u32 (lo:Int),.int .u32 (hi:Int)] 126)) (w.heap.size+2) (some ⟨w.heap.size+1,0,none⟩) (w32 [lo,hi]):=by
   have h:=Ca.new_ (w.alloc (.cells #[.bool false,.slice none 0 0,.int .i64 0] 43)) (w32 [lo,hi]) 126
   exact AoC
  go_enter func39,ntmps39
  go_wp2_with fail
  go_at_call 107
  refine (Nc true (some ⟨w.heap.size+1,0,none⟩) [lo,hi] 2 0 (w.heap.size+2) _ (by simp) c0 (by simp) (AjH lob hib) (by simp) (by omega)).mono ?_
  rintro e w3 ⟨v',rfl,D3,hb3⟩
  obtain ⟨tc,tf,ts,tz⟩:=It (m:=w.heap.size+2) hb3 (by simp) (by simp)
  have r3:=r0.below hb3 (by simp;omega)
  have b3:=b0.trans (hb3.mono (by simp;omega))
  rw [HV.out,HSG.out] at D3
  have D3:DyR w3 (w.heap.size+2) w3.heap.size v' n 0:=D3.low (by simp)
  exact AoB
 ·as_aux_lemma =>
  obtain ⟨a,rfl⟩:∃ a:Nat,n=(a:Int):=⟨n.toNat,by omega⟩
  have hsg:sg false a=(a:Int):=by unfold sg;simp
  obtain ⟨lo,hlo⟩:∃ lo:Nat,(a:Int) % 4294967296=(lo:Int):=⟨(a % 4294967296:Nat),by omega⟩
  obtain ⟨hi,hhi⟩:∃ hi:Nat,(a:Int) / 4294967296=(hi:Int):=⟨(a / 4294967296:Nat),by omega⟩
  have hib:hi<4294967296:=by omega
  have lob:lo<4294967296:=by omega
  have hval:Ay [lo,hi]=a:=by rw [RL];omega
  have HSG:=mo hsg
  have HV:=mo hval
  clear hsg hval
  have b0:Below w.heap.size w ((w.alloc (.cells #[.bool false,.slice none 0 0,.int .i64 0] 43)).alloc (.cells #[.int .u32 (lo:Int),.int .u32 (hi:Int)] 126)):=Am (Am (ab _ _) _) _
  have r0:=(Ca.new_ w [.bool false,.slice none 0 0,.int .i64 0] 43).below ((ab (w.heap.size+1) _).alloc (by simp) (.cells #[.int .u32 (lo:Int),.int .u32 (hi:Int)] 126)) (by omega)
  have c0:Al ((w.alloc (.cells #[.bool false,.slice none 0 0,.int .i64 0] 43)).alloc (.cells #[.int .u32 (lo:Int),.int .u32 (hi:Int)] 126)) (w.heap.size+2) (some ⟨w.heap.size+1,0,none⟩) (w32 [lo,hi]):=by
   have h:=Ca.new_ (w.alloc (.cells #[.bool false,.slice none 0 0,.int .i64 0] 43)) (w32 [lo,hi]) 126
   exact AoC
  go_enter func39,ntmps39
  go_wp2_with fail
  go_at_call 107
  refine (Nc false (some ⟨w.heap.size+1,0,none⟩) [lo,hi] 2 0 (w.heap.size+2) _ (by simp) c0 (by simp) (AjH lob hib) (by simp) (by omega)).mono ?_
  rintro e w3 ⟨v',rfl,D3,hb3⟩
  obtain ⟨tc,tf,ts,tz⟩:=It (m:=w.heap.size+2) hb3 (by simp) (by simp)
  have r3:=r0.below hb3 (by simp;omega)
  have b3:=b0.trans (hb3.mono (by simp;omega))
  rw [HV.out,HSG.out] at D3
  have D3:DyR w3 (w.heap.size+2) w3.heap.size v' (a:Int) 0:=D3.low (by simp)
  exact AoB
theorem Aci {k:Nat} (h:WdR w m v n) (hm:m≤w.heap.size) (hl:(Ad n).length≤100000) (hk:k≤1000000) :
  Calls prog 106 #[v,.int .i64 (k:Int)] w fun e w'=>∃ v',e=.returned v'∧WdR w' w'.heap.size v' (n*2 ^ k)∧Below w.heap.size w w':=by
 obtain ⟨A,c,rfl,h1,h2,h3⟩:=h
 refine (Agh A (Ad n) c k m w hm h3 (Az n) hl hk).mono ?_
 rintro e w' ⟨G,g,rfl,g1,g2,g3,hb⟩
 rw [Au] at g2 g3 ⊢
 exact ⟨_,rfl,⟨G,g,rfl,g1,g2,g3⟩,hb⟩
theorem AoE (h:p:=by
 rintro e w' ⟨G,g,rfl,g1,g2,g3,hb⟩
 rw [Au,Au] at g2 g3 ⊢
 exact ⟨_,rfl,⟨G,g,rfl,g1,g2,g3⟩,hb⟩):p:=h
theorem AoF {a:Nat} (h:WdR w m v a) (h2:WdR w m2 v2 b) (hm:m≤w.heap.size) (hm2:m2≤w.heap.size) (hl:(Ad a).length≤100000) (hl2:(Ad b).length≤100000) :
  Calls prog 108 #[v,v2] w fun e w'=>∃ v',e=.returned v'∧WdR w' w'.heap.size v' (a+b)∧Below w.heap.size w w':=by
 obtain ⟨A,c,rfl,h1,h1',h3⟩:=h
 obtain ⟨A2,c2,rfl,k1,k1',k3⟩:=h2
 refine (Agd A A2 (Ad a) (Ad b) c c2 w.heap.size w (aa _) (h3.more hm) (k3.more hm2) (Az a) (Az b) hl hl2).mono ?_
 exact AoE
theorem Acj {a:Nat} (h:WdR w m v a) (h2:WdR w m2 v2 b) (hm:m≤w.heap.size) (hm2:m2≤w.heap.size) (hl:(Ad a).length≤100000) (hle:b≤a) :
  Calls prog 110 #[v,v2] w fun e w'=>∃ v',e=.returned v'∧WdR w' w'.heap.size v' (a - b)∧Below w.heap.size w w':=by
 obtain ⟨A,c,rfl,h1,h1',h3⟩:=h
 obtain ⟨A2,c2,rfl,k1,k1',k3⟩:=h2
 refine (Acg A A2 (Ad a) (Ad b) c c2 w.heap.size w (aa _) (h3.more hm) (k3.more hm2) (Az a) (Az b) hl (AZ hle) (by rw [Au,Au];exact hle)).mono ?_
 exact AoE
theorem AoG {a:Nat} (h:WdR w m v a) (h2:WdR w m2 v2 b) (hl:(Ad a).length≤100000) (hl2:(Ad b).length≤100000) :
  Calls prog 109 #[v,v2] w fun e w'=>e=.returned (.bool (decide (a<b)))∧Below w.heap.size w w':=by
 obtain ⟨A,c,rfl,h1,h1',h3⟩:=h
 obtain ⟨A2,c2,rfl,k1,k1',k3⟩:=h2
 have:=Age A A2 (Ad a) (Ad b) c c2 (max m m2) w (h3.more (by omega)) (k3.more (by omega)) (Az a) (Az b) hl hl2
 rw [Vt] at this
 exact this
theorem LW {neg:Bool} {d:Nat} (h:WdR w m v n) (hm:m≤w.heap.size) (hl:(Ad n).length≤100000) (hd:d≤65536) :
  Calls prog 107 #[.bool neg,v,.int .i64 (d:Int)] w fun e w' =>
   ∃ v',e=.returned v'∧DyR w' w.heap.size w'.heap.size v' (nf (sg neg n) d).1 (nf (sg neg n) d).2∧Below w.heap.size w w':=by
 obtain ⟨A,c,rfl,h1,h1',h3⟩:=h
 exact Sk rfl h3 h1' hm hl hd
theorem AkH (h2:tmps.getD 4 undef=.pointer (some ⟨b,0,none⟩)) (hB:Ca w b [v0,v1,v2] 43) :
  (results Tryz.f37 tmps).run prog w=.ok (.agg #[v0,v1,v2]) w:=by
 have k0:=hB.cell 0
 have k1:=hB.cell 1
 have k2:=hB.cell 2
 simp at k0 k1 k2
 simp at h2
 simp [results,results37,go_sem,h2,k0,k1,k2]
theorem AkI (h:p:=by
 go_wp2_with fail
 refine bodyPost_ret (AkH rfl (((rz.set_ 0 _).set_ 1 _).set_ 2 _)) rfl ⟨_,rfl,?_,(((b0.trans (hk6.is.mono (by omega))).setCell (by simp;omega) _).setCell (by simp;omega) _).setCell (by simp;omega) _⟩
 exact ((((D6.set_ (by omega) 0 _).set_ (by omega) 1 _).set_ (by omega) 2 _).low (by omega)).more (by simp)):p:=h
theorem Pw {x y:Int} (D1:DyR w lo1 m v x dx) (D2:DyR w lo2 m2 v2 y dy) (hm:m≤w.heap.size) (hm2:m2≤w.heap.size) (l1:(Ad x.natAbs).length≤50000) (l2:(Ad y.natAbs).length≤50000) :
    Calls prog 37 #[v,v2] w fun e w'=>∃ v',e=.returned v'∧DyR w' w.heap.size w'.heap.size v' (Cb x dx y dy).1 (Cb x dx y dy).2∧Below w.heap.size w w':=by
  replace D2:=D2.more (Nat.le_max_right m m2)
  replace D1:=D1.more (Nat.le_max_left m m2)
  replace hm:max m m2≤w.heap.size:=by omega
  generalize max m m2=m at D1 D2 hm
  obtain ⟨nb1,A1,L1,c1,rfl,HD1⟩:=D1.form
  obtain ⟨nb2,A2,L2,c2,rfl,HD2⟩:=D2.form
  have b0:Below w.heap.size w (((w.alloc (.cells #[.bool nb1,.slice A1 L1 c1,.int .i64 (dx:Int)] 43)).alloc (.cells #[.bool nb2,.slice A2 L2 c2,.int .i64 (dy:Int)] 43)).alloc (.cells #[.bool false,.slice none 0 0,.int .i64 0] 43)):=Am (Am (Am (ab _ _) _) _) _
  have D1':=D1.below b0 hm
  have D2':=D2.below b0 hm
  clear D1 D2
  have r2:=Ca.new_ ((w.alloc (.cells #[.bool nb1,.slice A1 L1 c1,.int .i64 (dx:Int)] 43)).alloc (.cells #[.bool nb2,.slice A2 L2 c2,.int .i64 (dy:Int)] 43)) [.bool false,.slice none 0 0,.int .i64 0] 43
  have r1:=(Ca.new_ (w.alloc (.cells #[.bool nb1,.slice A1 L1 c1,.int .i64 (dx:Int)] 43)) [.bool nb2,.slice A2 L2 c2,.int .i64 (dy:Int)] 43).call ((ab _ _).alloc (aa _) (.cells #[.bool false,.slice none 0 0,.int .i64 0] 43))
  have r0:=((Ca.new_ w [.bool nb1,.slice A1 L1 c1,.int .i64 (dx:Int)] 43).call ((ab _ _).alloc (aa _) (.cells #[.bool nb2,.slice A2 L2 c2,.int .i64 (dy:Int)] 43))).call ((ab _ _).alloc (aa _) (.cells #[.bool false,.slice none 0 0,.int .i64 0] 43))
  rw [show ((w.alloc (.cells #[.bool nb1,.slice A1 L1 c1,.int .i64 (dx:Int)] 43)).alloc (.cells #[.bool nb2,.slice A2 L2 c2,.int .i64 (dy:Int)] 43)).heap.size=w.heap.size+2 by simp] at r2
  rw [show (w.alloc (.cells #[.bool nb1,.slice A1 L1 c1,.int .i64 (dx:Int)] 43)).heap.size=w.heap.size+1 by simp] at r1
  go_enter func37,ntmps37
  go_wp2_with fail
  obtain ⟨W,hW⟩:∃ W,W=(((w.alloc (.cells #[.bool nb1,.slice A1 L1 c1,.int .i64 (dx:Int)] 43)).alloc (.cells #[.bool nb2,.slice A2 L2 c2,.int .i64 (dy:Int)] 43)).alloc (.cells #[.bool false,.slice none 0 0,.int .i64 0] 43)):=⟨_,rfl⟩
  have hWs:W.heap.size=w.heap.size+3:=by rw [hW];simp
  rw [←hW]
  rw [←hW] at b0 D1' D2' r0 r1 r2
  clear hW
  have a0:W.cell? ⟨w.heap.size,0,none⟩=some (.bool nb1):=r0.cell 0
  have a1:W.cell? ⟨w.heap.size,1,none⟩=some (.slice A1 L1 c1):=r0.cell 1
  have a2:W.cell? ⟨w.heap.size,2,none⟩=some (.int .i64 (dx:Int)):=r0.cell 2
  have e0:W.cell? ⟨w.heap.size+1,0,none⟩=some (.bool nb2):=r1.cell 0
  have e1:W.cell? ⟨w.heap.size+1,1,none⟩=some (.slice A2 L2 c2):=r1.cell 1
  have e2:W.cell? ⟨w.heap.size+1,2,none⟩=some (.int .i64 (dy:Int)):=r1.cell 2
  have hle:m≤w.heap.size+3:=by omega
  have hle2:m≤w.heap.size+2:=by omega
  have hz:w.heap.size+3≤W.heap.size:=by omega
  refine OA 4 (w.heap.size+3) hz (by kernel_rfl) (by kernel_rfl) ?_
  intro _
  simp only [List.take_succ_cons,gy,List.drop_succ_cons,jq]
  repeat (go_big_quiet_step ((first
    | (go_at_call 105;exact Lz (Pv (D1'.below (QF.is _) hle) (lT hle (QF.fits _)) (lT l1 (by omega))))
    | (go_at_call 105;exact Lz (Pv (D2'.below (QF.is _) hle) (lT hle (QF.fits _)) (lT l2 (by omega)))))))
  refine wpQuiet_nil ?_
  intro w2 hw'
  obtain ⟨⟨_,hb2,hz2⟩,rfl⟩:=hw'
  have s0:=r0.below hb2 (by omega)
  have s1:=r1.below hb2 (by omega)
  have s2:=r2.below hb2 (by omega)
  have b2:=b0.trans (hb2.mono (by omega))
  replace D1':=D1'.below hb2 hle
  replace D2':=D2'.below hb2 hle
  clear r0 r1 r2 b0 a0 a1 a2 e0 e1 e2 hWs hz hb2
  have a0:w2.cell? ⟨w.heap.size,0,none⟩=some (.bool nb1):=s0.cell 0
  have a1:w2.cell? ⟨w.heap.size,1,none⟩=some (.slice A1 L1 c1):=s0.cell 1
  have a2:w2.cell? ⟨w.heap.size,2,none⟩=some (.int .i64 (dx:Int)):=s0.cell 2
  have e0:w2.cell? ⟨w.heap.size+1,0,none⟩=some (.bool nb2):=s1.cell 0
  have e1:w2.cell? ⟨w.heap.size+1,1,none⟩=some (.slice A2 L2 c2):=s1.cell 1
  have e2:w2.cell? ⟨w.heap.size+1,2,none⟩=some (.int .i64 (dy:Int)):=s1.cell 2
  have f0:=s0.free
  have f1:=s1.free
  have hd1:=HD1.out.2.2.2.2.2.1
  have hd2:=HD2.out.2.2.2.2.2.1
  obtain ⟨D,hD⟩:∃ D:Nat,D=max dx dy:=⟨_,rfl⟩
  have hDD:max (dx:Int) (dy:Int)=(D:Int):=by omega
  have hD6:D≤65536:=by omega
  obtain ⟨p,hp⟩:∃ p:Nat,p=D - dx:=⟨_,rfl⟩
  obtain ⟨q,hq⟩:∃ q:Nat,q=D - dy:=⟨_,rfl⟩
  have hpp:IntKind.i64.wrap ((D:Int) - (dx:Int))=(p:Int):=by rw [iu];omega
  have hqq:IntKind.i64.wrap ((D:Int) - (dy:Int))=(q:Int):=by rw [iu];omega
  have hp6:p≤65536:=by omega
  have hq6:q≤65536:=by omega
  have HV := mo (show Cb x dx y dy = nf (x * 2 ^ p + y * 2 ^ q) D by unfold Cb; rw [← hD, ← hp, ← hq])
  have hp6':p≤1000000:=by omega
  have hq6':q≤1000000:=by omega
  clear hD hp hq
  go_wp2_with fail
  obtain ⟨W,hW⟩:∃ W,W=(((((w2.setCell ⟨w.heap.size,0,none⟩ (.bool nb1)).setCell ⟨w.heap.size,1,none⟩ (.slice A1 L1 c1)).setCell ⟨w.heap.size,2,none⟩ (.int .i64 (dx:Int))).setCell ⟨w.heap.size+1,0,none⟩ (.bool nb2)).setCell ⟨w.heap.size+1,1,none⟩ (.slice A2 L2 c2)).setCell ⟨w.heap.size+1,2,none⟩ (.int .i64 (dy:Int)):=⟨_,rfl⟩
  rw [←hW]
  have t0:Ca W w.heap.size [.bool nb1,.slice A1 L1 c1,.int .i64 (dx:Int)] 43:=by
    rw [hW]
    exact ((((((s0.set_ 0 _).set_ 1 _).set_ 2 _).other_ (by omega) _ _).other_ (by omega) _ _).other_ (by omega) _ _)
  have t1:Ca W (w.heap.size+1) [.bool nb2,.slice A2 L2 c2,.int .i64 (dy:Int)] 43:=by
    rw [hW]
    exact ((((((s1.other_ (by omega) _ _).other_ (by omega) _ _).other_ (by omega) _ _).set_ 0 _).set_ 1 _).set_ 2 _)
  have t2:Ca W (w.heap.size+2) [.bool false,.slice none 0 0,.int .i64 0] 43:=by
    rw [hW]
    exact ((((((s2.other_ (by omega) _ _).other_ (by omega) _ _).other_ (by omega) _ _).other_ (by omega) _ _).other_ (by omega) _ _).other_ (by omega) _ _)
  have b0:Below w.heap.size w W:=by
    rw [hW]
    exact (((((b2.setCell (by simp) _).setCell (by simp) _).setCell (by simp) _).setCell (by simp) _).setCell (by simp) _).setCell (by simp) _
  have hWs:w.heap.size+3≤W.heap.size:=by rw [hW];simpa using hz2
  have bW:Below w.heap.size w2 W:=by
    rw [hW]
    exact ((((((ab _ w2).setCell (by simp) _).setCell (by simp) _).setCell (by simp) _).setCell (by simp) _).setCell (by simp) _).setCell (by simp) _
  have X1:WdR W m (.slice A1 L1 c1) x.natAbs:=D1'.words.below bW hm
  have X2:WdR W m (.slice A2 L2 c2) y.natAbs:=D2'.words.below bW hm
  clear hW bW s0 s1 s2 b2 a0 a1 a2 e0 e1 e2 f0 f1 D1' D2'
  have a0:W.cell? ⟨w.heap.size,0,none⟩=some (.bool nb1):=t0.cell 0
  have a1:W.cell? ⟨w.heap.size,1,none⟩=some (.slice A1 L1 c1):=t0.cell 1
  have a2:W.cell? ⟨w.heap.size,2,none⟩=some (.int .i64 (dx:Int)):=t0.cell 2
  have e0:W.cell? ⟨w.heap.size+1,0,none⟩=some (.bool nb2):=t1.cell 0
  have e1:W.cell? ⟨w.heap.size+1,1,none⟩=some (.slice A2 L2 c2):=t1.cell 1
  have e2:W.cell? ⟨w.heap.size+1,2,none⟩=some (.int .i64 (dy:Int)):=t1.cell 2
  have hk:SK W (w.heap.size+2) (w.heap.size+2) W:=SK.refl (by omega) ⟨_,_,_,t2⟩
  go_cut [6,7] (fun s6 s7 wx=>∃ A6 L6 c6 A7 L7 c7,s6=.slice A6 L6 c6∧s7=.slice A7 L7 c7∧WdR wx wx.heap.size (.slice A6 L6 c6) (x.natAbs*2 ^ p)∧WdR wx wx.heap.size (.slice A7 L7 c7) (y.natAbs*2 ^ q)∧SK W (w.heap.size+2) (w.heap.size+2) wx)
  case first =>
    go_region_held3 (fun w'=>(∀ b o,b<w.heap.size+2→w'.cell? ⟨b,o,none⟩=W.cell? ⟨b,o,none⟩)∧SK W (w.heap.size+2) (w.heap.size+2) w')
      (first
      | (refine SK.all ?_
         first
           | assumption
           | exact hk
           | exact hk.drew
           | exact ((SK.set (by assumption) (by omega) _ _).set (by omega) _ _).set (by omega) _ _))
      (first
        | (go_at_call_of 106 (Value.slice A1 L1 c1);refine (Aci (X1.below (SK.is (m:=w.heap.size+2) (r:=w.heap.size+2) (by first|exact hk|exact hk.drew|assumption)) hle2) ?_ ?_ hp6').mono ?_;exact (lT hle2 (SK.fits (m:=w.heap.size+2) (r:=w.heap.size+2) (by first|exact hk|exact hk.drew|assumption)));exact (by omega);(rintro e w5 ⟨v5,rfl,Y1,hb5⟩;have hk5:=SK.call (W:=W) (m:=w.heap.size+2) (r:=w.heap.size+2) (by first|exact hk|exact hk.drew|assumption) hb5;obtain ⟨A5,L5,c5,rfl⟩:=Y1.form))
        | (go_at_call_of 106 (Value.slice A2 L2 c2);refine (Aci (X2.below (SK.is (m:=w.heap.size+2) (r:=w.heap.size+2) (by first|exact hk|exact hk.drew|assumption)) hle2) ?_ ?_ hq6').mono ?_;exact (lT hle2 (SK.fits (m:=w.heap.size+2) (r:=w.heap.size+2) (by first|exact hk|exact hk.drew|assumption)));exact (by omega);(rintro e w4 ⟨v4,rfl,Y2,hb4⟩;have hk4:=SK.call (W:=W) (m:=w.heap.size+2) (r:=w.heap.size+2) (by first|exact hk|exact hk.drew|assumption) hb4;obtain ⟨A4,L4,c4,rfl⟩:=Y2.form)))
    all_goals (go_wp2_with fail;go_meet;exact ⟨A5,L5,c5,A4,L4,c4,rfl,rfl,(Y1.below hb4 (aa _)).more hb4.size,Y2,hk4⟩)
  case rest =>
    obtain ⟨A6,L6,c6,A7,L7,c7,rfl,rfl,Y1,Y2,hkx⟩:=hcut
    have g0:wc.cell? ⟨w.heap.size,0,none⟩=some (.bool nb1):=(hkx.all.1 _ _ (by omega)).trans a0
    have g1:wc.cell? ⟨w.heap.size+1,0,none⟩=some (.bool nb2):=(hkx.all.1 _ _ (by omega)).trans e0
    obtain ⟨a,ha⟩:∃ a,a=x.natAbs*2 ^ p:=⟨_,rfl⟩
    obtain ⟨b,hb⟩:∃ b,b=y.natAbs*2 ^ q:=⟨_,rfl⟩
    have hx:=Xi x p
    have hy:=Xi y q
    rw [←HD1.out.1,←ha] at hx
    rw [←HD2.out.1,←hb] at hy
    have hla:(Ad a).length≤60000:=by
      have:=Bs x.natAbs p
      rw [←ha] at this
      omega
    have hlb:(Ad b).length≤60000:=by
      have:=Bs y.natAbs q
      rw [←hb] at this
      omega
    rw [←ha] at Y1
    rw [←hb] at Y2
    have HX:=mo hx
    have HY:=mo hy
    clear ha hb hx hy X1 X2 hle hle2
    by_cases hn:nb1=nb2
    · as_aux_lemma =>
      subst hn
      have hlen:(Ad (a+b)).length≤100000:=by have:=Ew a b;omega
      have hval:nf (sg nb1 (a+b)) D=Cb x dx y dy:=by rw [AjI,HX.out,HY.out,HV.out]
      have HVAL:=mo hval
      clear hval
      go_wp2_with fail
      obtain ⟨wv,hwv⟩:∃ wv,wv=wc:=⟨_,rfl⟩
      rw [←hwv]
      rw [←hwv] at Y1 Y2 hkx g0 g1
      have hkv:=hkx
      clear hwv hkx
      go_region_held3 (fun w'=>(∀ b o,b<w.heap.size+2→w'.cell? ⟨b,o,none⟩=W.cell? ⟨b,o,none⟩)∧SK W (w.heap.size+2) (w.heap.size+2) w')
        (first
          | (refine SK.all ?_
             first
               | assumption
               | exact hkv
               | exact hkv.drew
               | exact ((SK.set (by assumption) (by omega) _ _).set (by omega) _ _).set (by omega) _ _))
        (first
          | (go_at_call 108;refine (AoF (Y1.below (ab _ wv).drew (aa _)) (Y2.below (ab _ wv).drew (aa _)) (aa _) (aa _) (by omega) (by omega)).mono ?_;(rintro e w5 ⟨v5,rfl,D5,hb5⟩;have hk5:=SK.call (W:=W) (m:=w.heap.size+2) (r:=w.heap.size+2) (by first|exact hkv.drew|assumption) hb5;have hf5:=hk5.lt;obtain ⟨A5,L5,c5,rfl⟩:=D5.form))
          | (go_at_call 107;refine (LW D5 (aa _) hlen hD6).mono ?_;(rintro e w6 ⟨v6,rfl,D6,hb6⟩;have hk6:=SK.call hk5 hb6;have hf6:=hk6.lt;rw [HVAL.out] at D6;obtain ⟨nb6,A9,L9,c9,rfl,_⟩:=D6.form;obtain ⟨z0,z1,z2,rz,k0,k1,k2,kf⟩:=SK.cells hk6)))
      exact AkI
    · have hne:(nb1 == nb2)=false:=by simpa using hn
      have HN:=mo hn
      clear hn
      go_wp2_with fail
      go_at_call 109
      refine (AoG Y1 Y2 (by omega) (by omega)).mono ?_
      rintro e w4 ⟨rfl,hb4⟩
      have hkv:=hkx.call hb4
      have g0':w4.cell? ⟨w.heap.size,0,none⟩=some (.bool nb1):=(hkv.all.1 _ _ (by omega)).trans a0
      have g1':w4.cell? ⟨w.heap.size+1,0,none⟩=some (.bool nb2):=(hkv.all.1 _ _ (by omega)).trans e0
      replace Y1:=(Y1.below hb4 (aa _)).more hb4.size
      replace Y2:=(Y2.below hb4 (aa _)).more hb4.size
      clear hkx hb4 g0 g1
      obtain ⟨wv,hwv⟩:∃ wv,wv=w4:=⟨_,rfl⟩
      rw [←hwv]
      rw [←hwv] at Y1 Y2 hkv g0' g1'
      clear hwv
      by_cases hlt:a<b
      · as_aux_lemma =>
        have hlen:(Ad (b - a)).length≤100000:=lT (AZ (Nat.sub_le _ _)) (by omega)
        have hval:nf (sg nb2 (b - a)) D=Cb x dx y dy:=by rw [AjJ HN.out hlt,HX.out,HY.out,HV.out]
        have HVAL:=mo hval
        rw [decide_eq_true hlt]
        have hle:a≤b:=by omega
        clear hval hlt
        go_wp2_with fail
        go_region_held3 (fun w'=>(∀ b o,b<w.heap.size+2→w'.cell? ⟨b,o,none⟩=W.cell? ⟨b,o,none⟩)∧SK W (w.heap.size+2) (w.heap.size+2) w')
          (first
            | (refine SK.all ?_
               first
                 | assumption
                 | exact hkv
                 | exact hkv.drew
                 | exact ((SK.set (by assumption) (by omega) _ _).set (by omega) _ _).set (by omega) _ _))
          (first
            | (go_at_call 110;refine (Acj (Y2.below (ab _ wv).drew (aa _)) (Y1.below (ab _ wv).drew (aa _)) (aa _) (aa _) (by omega) hle).mono ?_;(rintro e w5 ⟨v5,rfl,D5,hb5⟩;have hk5:=SK.call (W:=W) (m:=w.heap.size+2) (r:=w.heap.size+2) (by first|exact hkv.drew|assumption) hb5;have hf5:=hk5.lt;obtain ⟨A5,L5,c5,rfl⟩:=D5.form))
            | (go_at_call 107;refine (LW D5 (aa _) hlen hD6).mono ?_;(rintro e w6 ⟨v6,rfl,D6,hb6⟩;have hk6:=SK.call hk5 hb6;have hf6:=hk6.lt;rw [HVAL.out] at D6;obtain ⟨nb6,A9,L9,c9,rfl,_⟩:=D6.form;obtain ⟨z0,z1,z2,rz,k0,k1,k2,kf⟩:=SK.cells hk6)))
        exact AkI
      · as_aux_lemma =>
        have hlen:(Ad (a - b)).length≤100000:=lT (AZ (Nat.sub_le _ _)) (by omega)
        have hval:nf (sg nb1 (a - b)) D=Cb x dx y dy:=by rw [AjK HN.out (by omega),HX.out,HY.out,HV.out]
        have HVAL:=mo hval
        rw [decide_eq_false hlt]
        have hle:b≤a:=by omega
        clear hval hlt
        go_wp2_with fail
        go_region_held3 (fun w'=>(∀ b o,b<w.heap.size+2→w'.cell? ⟨b,o,none⟩=W.cell? ⟨b,o,none⟩)∧SK W (w.heap.size+2) (w.heap.size+2) w')
          (first
            | (refine SK.all ?_
               first
                 | assumption
                 | exact hkv
                 | exact hkv.drew
                 | exact ((SK.set (by assumption) (by omega) _ _).set (by omega) _ _).set (by omega) _ _))
          (first
            | (go_at_call 110;refine (Acj (Y1.below (ab _ wv).drew (aa _)) (Y2.below (ab _ wv).drew (aa _)) (aa _) (aa _) (by omega) hle).mono ?_;(rintro e w5 ⟨v5,rfl,D5,hb5⟩;have hk5:=SK.call (W:=W) (m:=w.heap.size+2) (r:=w.heap.size+2) (by first|exact hkv.drew|assumption) hb5;have hf5:=hk5.lt;obtain ⟨A5,L5,c5,rfl⟩:=D5.form))
            | (go_at_call 107;refine (LW D5 (aa _) hlen hD6).mono ?_;(rintro e w6 ⟨v6,rfl,D6,hb6⟩;have hk6:=SK.call hk5 hb6;have hf6:=hk6.lt;rw [HVAL.out] at D6;obtain ⟨nb6,A9,L9,c9,rfl,_⟩:=D6.form;obtain ⟨z0,z1,z2,rz,k0,k1,k2,kf⟩:=SK.cells hk6)))
        exact AkI
theorem AkJ (h2:tmps.getD 4 undef=.pointer (some ⟨b,0,none⟩)) (hB:Ca w b [v0,v1,v2] 43) :
  (results Tryz.f42 tmps).run prog w=.ok (.agg #[v0,v1,v2]) w:=by
 have k0:=hB.cell 0
 have k1:=hB.cell 1
 have k2:=hB.cell 2
 simp at k0 k1 k2
 simp at h2
 simp [results,results42,go_sem,h2,k0,k1,k2]
theorem Ack {x y:Int} (D1:DyR w lo1 m v x dx) (D2:DyR w lo2 m v2 y dy) (hm:m≤w.heap.size) (l1:(Ad x.natAbs).length≤50000) (l2:(Ad y.natAbs).length≤50000) :
    Calls prog 42 #[v,v2] w fun e w'=>∃ v',e=.returned v'∧DyR w' w.heap.size w'.heap.size v' (Cb x dx (-y) dy).1 (Cb x dx (-y) dy).2∧Below w.heap.size w w':=by
  obtain ⟨nb1,A1,L1,c1,rfl,HD1⟩:=D1.form
  obtain ⟨nb2,A2,L2,c2,rfl,HD2⟩:=D2.form
  have b0:Below w.heap.size w (((w.alloc (.cells #[.bool nb1,.slice A1 L1 c1,.int .i64 (dx:Int)] 43)).alloc (.cells #[.bool nb2,.slice A2 L2 c2,.int .i64 (dy:Int)] 43)).alloc (.cells #[.bool false,.slice none 0 0,.int .i64 0] 43)):=Am (Am (Am (ab _ _) _) _) _
  have D1':=D1.below b0 hm
  have D2':=D2.below b0 hm
  clear D1 D2
  have r2:=Ca.new_ ((w.alloc (.cells #[.bool nb1,.slice A1 L1 c1,.int .i64 (dx:Int)] 43)).alloc (.cells #[.bool nb2,.slice A2 L2 c2,.int .i64 (dy:Int)] 43)) [.bool false,.slice none 0 0,.int .i64 0] 43
  have r1:=(Ca.new_ (w.alloc (.cells #[.bool nb1,.slice A1 L1 c1,.int .i64 (dx:Int)] 43)) [.bool nb2,.slice A2 L2 c2,.int .i64 (dy:Int)] 43).call ((ab _ _).alloc (aa _) (.cells #[.bool false,.slice none 0 0,.int .i64 0] 43))
  have r0:=((Ca.new_ w [.bool nb1,.slice A1 L1 c1,.int .i64 (dx:Int)] 43).call ((ab _ _).alloc (aa _) (.cells #[.bool nb2,.slice A2 L2 c2,.int .i64 (dy:Int)] 43))).call ((ab _ _).alloc (aa _) (.cells #[.bool false,.slice none 0 0,.int .i64 0] 43))
  rw [show ((w.alloc (.cells #[.bool nb1,.slice A1 L1 c1,.int .i64 (dx:Int)] 43)).alloc (.cells #[.bool nb2,.slice A2 L2 c2,.int .i64 (dy:Int)] 43)).heap.size=w.heap.size+2 by simp] at r2
  rw [show (w.alloc (.cells #[.bool nb1,.slice A1 L1 c1,.int .i64 (dx:Int)] 43)).heap.size=w.heap.size+1 by simp] at r1
  go_enter func42,ntmps42
  go_wp2_with fail
  obtain ⟨W,hW⟩:∃ W,W=(((w.alloc (.cells #[.bool nb1,.slice A1 L1 c1,.int .i64 (dx:Int)] 43)).alloc (.cells #[.bool nb2,.slice A2 L2 c2,.int .i64 (dy:Int)] 43)).alloc (.cells #[.bool false,.slice none 0 0,.int .i64 0] 43)):=⟨_,rfl⟩
  have hWs:W.heap.size=w.heap.size+3:=by rw [hW];simp
  rw [←hW]
  rw [←hW] at b0 D1' D2' r0 r1 r2
  clear hW
  have a0:W.cell? ⟨w.heap.size,0,none⟩=some (.bool nb1):=r0.cell 0
  have a1:W.cell? ⟨w.heap.size,1,none⟩=some (.slice A1 L1 c1):=r0.cell 1
  have a2:W.cell? ⟨w.heap.size,2,none⟩=some (.int .i64 (dx:Int)):=r0.cell 2
  have e0:W.cell? ⟨w.heap.size+1,0,none⟩=some (.bool nb2):=r1.cell 0
  have e1:W.cell? ⟨w.heap.size+1,1,none⟩=some (.slice A2 L2 c2):=r1.cell 1
  have e2:W.cell? ⟨w.heap.size+1,2,none⟩=some (.int .i64 (dy:Int)):=r1.cell 2
  have hk:SK W (w.heap.size+2) (w.heap.size+2) W:=SK.refl (by omega) ⟨_,_,_,r2⟩
  have hle:m≤w.heap.size+2:=by omega
  go_region_held3 (fun w'=>(∀ b o,b<w.heap.size+2→w'.cell? ⟨b,o,none⟩=W.cell? ⟨b,o,none⟩)∧SK W (w.heap.size+2) (w.heap.size+2) w')
    (first
      | (refine SK.all ?_
         first
           | assumption
           | exact hk
           | exact hk.drew
           | exact ((SK.set (by assumption) (by omega) _ _).set (by omega) _ _).set (by omega) _ _))
    (first
      | (go_at_call 112; refine (ArV (D2'.below (SK.is (m := w.heap.size + 2) (r := w.heap.size + 2) (by first | exact hk.drew | assumption)) hle) ?_ ?_).mono ?_; (simp; omega); exact (by omega); (rintro e w5 ⟨v5, rfl, D5, hb5⟩; have hk5 := SK.call (W := W) (m := w.heap.size + 2) (r := w.heap.size + 2) (by first | exact hk.drew | assumption) hb5; have hf5 := hk5.lt; obtain ⟨nb5, A5, L5, c5, rfl, _⟩ := D5.form))
      | (go_at_call 37; refine (Pw (D1'.below (SK.is (m := w.heap.size + 2) (r := w.heap.size + 2) hk5) hle) D5 ?_ ?_ ?_ ?_).mono ?_; exact (by omega); exact (aa _); exact l1; (rw [Int.natAbs_neg]; exact l2); (rintro e w6 ⟨v6, rfl, D6, hb6⟩; have hk6 := SK.call hk5 hb6; have hf6 := hk6.lt; have hlo := hf5; obtain ⟨nb6, A6, L6, c6, rfl, _⟩ := D6.form; obtain ⟨z0, z1, z2, rz, k0, k1, k2, kf⟩ := SK.cells hk6)))
  go_wp2_with fail
  refine bodyPost_ret (AkJ rfl (((rz.set_ 0 _).set_ 1 _).set_ 2 _)) rfl ⟨_,rfl,?_,(((b0.trans (hk6.is.mono (by omega))).setCell (by simp;omega) _).setCell (by simp;omega) _).setCell (by simp;omega) _⟩
  exact ((((D6.set_ (by omega) 0 _).set_ (by omega) 1 _).set_ (by omega) 2 _).low (by omega)).more (by simp)
theorem VQ {x y:Int} (D1:DyR w lo1 m v x dx) (D2:DyR w lo2 m v2 y dy) (hm:m≤w.heap.size) (l1:(Ad x.natAbs).length≤50000) (l2:(Ad y.natAbs).length≤50000) :
  Calls prog 29 #[v,v2] w fun e w'=>e=.returned (.int .i64 (Cm x dx y dy))∧Below w.heap.size w w':=by
 have hlen:(Ad (Cb x dx (-y) dy).1.natAbs).length≤100000:=Abb l1 (by rw [Int.natAbs_neg];exact l2) D1.bound.1 D2.bound.1
 obtain ⟨nb1,A1,L1,c1,rfl,HD1⟩:=D1.form
 obtain ⟨nb2,A2,L2,c2,rfl,HD2⟩:=D2.form
 have b0:Below w.heap.size w ((w.alloc (.cells #[.bool nb1,.slice A1 L1 c1,.int .i64 (dx:Int)] 43)).alloc (.cells #[.bool nb2,.slice A2 L2 c2,.int .i64 (dy:Int)] 43)):=Am (Am (ab _ _) _) _
 have D1':=mo (D1.below b0 hm)
 have D2':=mo (D2.below b0 hm)
 clear D1 D2
 go_enter func29,ntmps29
 go_wp2_with fail
 go_at_call 42
 refine (Ack D1'.out D2'.out (by simp;omega) l1 l2).mono ?_
 rintro e w5 ⟨v5,rfl,D5,hb5⟩
 have D5':=mo D5
 obtain ⟨nb5,A5,L5,c5,rfl,_⟩:=D5.form
 have b5:=b0.trans (hb5.mono (by simp;omega))
 clear D5 hb5
 go_wp2_with fail
 go_at_call 41
 refine (Aoz D5'.out (aa _) hlen).mono ?_
 rintro e w6 ⟨rfl,hb6⟩
 have b6:=b5.trans (hb6.mono (by have:=b5.size;omega))
 go_wp2_with fail
 go_ret
 exact ⟨rfl,b6⟩
theorem Acl (h2:tmps.getD 4 undef=.pointer (some ⟨b,0,none⟩)) (hB:Ca w b [v0,v1,v2] 43) :
  (results Tryz.f255 tmps).run prog w=.ok (.agg #[v0,v1,v2]) w:=by
 have k0:=hB.cell 0
 have k1:=hB.cell 1
 have k2:=hB.cell 2
 simp at k0 k1 k2
 simp at h2
 simp [results,results255,go_sem,h2,k0,k1,k2]
theorem AkK {x y:Int} (D1:DyR w lo1 m v x dx) (D2:DyR w lo2 m v2 y dy) (hm:m≤w.heap.size) (l1:(Ad x.natAbs).length≤50000) (l2:(Ad y.natAbs).length≤50000) :
  Calls prog 255 #[v,v2] w fun e w'=>∃ v',e=.returned v'∧DyR w' w.heap.size w'.heap.size v' (Dt x dx y dy).1 (Dt x dx y dy).2∧Below w.heap.size w w':=by
 have HB1:=D1.bound
 have HB2:=D2.bound
 obtain ⟨nb1,A1,L1,c1,rfl,HD1⟩:=D1.form
 obtain ⟨nb2,A2,L2,c2,rfl,HD2⟩:=D2.form
 have b0:Below w.heap.size w (((w.alloc (.cells #[.bool nb1,.slice A1 L1 c1,.int .i64 (dx:Int)] 43)).alloc (.cells #[.bool nb2,.slice A2 L2 c2,.int .i64 (dy:Int)] 43)).alloc (.cells #[.bool false,.slice none 0 0,.int .i64 0] 43)):=Am (Am (Am (ab _ _) _) _) _
 have D1':=D1.below b0 hm
 have D2':=D2.below b0 hm
 clear D1 D2
 have r2:=Ca.new_ ((w.alloc (.cells #[.bool nb1,.slice A1 L1 c1,.int .i64 (dx:Int)] 43)).alloc (.cells #[.bool nb2,.slice A2 L2 c2,.int .i64 (dy:Int)] 43)) [.bool false,.slice none 0 0,.int .i64 0] 43
 have r1:=(Ca.new_ (w.alloc (.cells #[.bool nb1,.slice A1 L1 c1,.int .i64 (dx:Int)] 43)) [.bool nb2,.slice A2 L2 c2,.int .i64 (dy:Int)] 43).call ((ab _ _).alloc (aa _) (.cells #[.bool false,.slice none 0 0,.int .i64 0] 43))
 have r0:=((Ca.new_ w [.bool nb1,.slice A1 L1 c1,.int .i64 (dx:Int)] 43).call ((ab _ _).alloc (aa _) (.cells #[.bool nb2,.slice A2 L2 c2,.int .i64 (dy:Int)] 43))).call ((ab _ _).alloc (aa _) (.cells #[.bool false,.slice none 0 0,.int .i64 0] 43))
 rw [show ((w.alloc (.cells #[.bool nb1,.slice A1 L1 c1,.int .i64 (dx:Int)] 43)).alloc (.cells #[.bool nb2,.slice A2 L2 c2,.int .i64 (dy:Int)] 43)).heap.size=w.heap.size+2 by simp] at r2
 rw [show (w.alloc (.cells #[.bool nb1,.slice A1 L1 c1,.int .i64 (dx:Int)] 43)).heap.size=w.heap.size+1 by simp] at r1
 go_enter func255,ntmps255
 go_wp2_with fail
 obtain ⟨W,hW⟩:∃ W,W=(((w.alloc (.cells #[.bool nb1,.slice A1 L1 c1,.int .i64 (dx:Int)] 43)).alloc (.cells #[.bool nb2,.slice A2 L2 c2,.int .i64 (dy:Int)] 43)).alloc (.cells #[.bool false,.slice none 0 0,.int .i64 0] 43)):=⟨_,rfl⟩
 have hWs:W.heap.size=w.heap.size+3:=by rw [hW];simp
 rw [←hW]
 rw [←hW] at b0 D1' D2' r0 r1 r2
 clear hW
 have a0:W.cell? ⟨w.heap.size,0,none⟩=some (.bool nb1):=r0.cell 0
 have a1:W.cell? ⟨w.heap.size,1,none⟩=some (.slice A1 L1 c1):=r0.cell 1
 have a2:W.cell? ⟨w.heap.size,2,none⟩=some (.int .i64 (dx:Int)):=r0.cell 2
 have e0:W.cell? ⟨w.heap.size+1,0,none⟩=some (.bool nb2):=r1.cell 0
 have e1:W.cell? ⟨w.heap.size+1,1,none⟩=some (.slice A2 L2 c2):=r1.cell 1
 have e2:W.cell? ⟨w.heap.size+1,2,none⟩=some (.int .i64 (dy:Int)):=r1.cell 2
 go_at_call 29
 refine (VQ D1' D2' (by omega) l1 l2).mono ?_
 rintro e w2 ⟨rfl,hb2⟩
 have s0:=r0.call hb2
 have s1:=r1.call hb2
 have s2:=r2.call hb2
 have b2:=b0.trans (hb2.mono (by omega))
 replace D1':=D1'.below hb2 (by omega)
 replace D2':=D2'.below hb2 (by omega)
 have hz2:w.heap.size+3≤w2.heap.size:=by have:=hb2.size;omega
 clear r0 r1 r2 b0 a0 a1 a2 e0 e1 e2 hWs hb2
 have a0:w2.cell? ⟨w.heap.size,0,none⟩=some (.bool nb1):=s0.cell 0
 have a1:w2.cell? ⟨w.heap.size,1,none⟩=some (.slice A1 L1 c1):=s0.cell 1
 have a2:w2.cell? ⟨w.heap.size,2,none⟩=some (.int .i64 (dx:Int)):=s0.cell 2
 have e0:w2.cell? ⟨w.heap.size+1,0,none⟩=some (.bool nb2):=s1.cell 0
 have e1:w2.cell? ⟨w.heap.size+1,1,none⟩=some (.slice A2 L2 c2):=s1.cell 1
 have e2:w2.cell? ⟨w.heap.size+1,2,none⟩=some (.int .i64 (dy:Int)):=s1.cell 2
 have f0:=s0.free
 by_cases hc:0<Cm x dx y dy
 ·as_aux_lemma =>
  have HC:=mo hc
  have hodd:=HB2.2
  obtain ⟨cv,hcv⟩:∃ cv,cv=Cm x dx y dy:=⟨_,rfl⟩
  rw [←hcv] at hc
  rw [←hcv]
  have hcb:decide (0<cv)=true:=decide_eq_true hc
  clear hcv HB1 HB2
  go_wp2_with fail
  go_at_call 37
  obtain ⟨W,hW⟩:∃ W,W=((w2.setCell ⟨w.heap.size,0,none⟩ (.bool nb2)).setCell ⟨w.heap.size,1,none⟩ (.slice A2 L2 c2)).setCell ⟨w.heap.size,2,none⟩ (.int .i64 (dy:Int)):=⟨_,rfl⟩
  have rz:Ca W (w.heap.size+2) [.bool false,.slice none 0 0,.int .i64 0] 43:=by
   rw [hW]
   exact ((s2.other_ (by omega) _ _).other_ (by omega) _ _).other_ (by omega) _ _
  have bW:Below w.heap.size w W:=by
   rw [hW]
   exact ((b2.setCell (by simp) _).setCell (by simp) _).setCell (by simp) _
  have bX:Below w.heap.size w2 W:=by
   rw [hW]
   exact (((ab _ w2).setCell (by simp) _).setCell (by simp) _).setCell (by simp) _
  have hWs:w.heap.size+3≤W.heap.size:=by rw [hW];simpa using hz2
  rw [←hW]
  clear hW s0 s1 s2 a0 a1 a2 e0 e1 e2 f0 b2
  have D0:DyR W 0 0 (.agg #[.bool false,.slice none 0 0,.int .i64 0]) 0 0:=DyR.zero_ _ _ _
  have hk:SK W (w.heap.size+2) (w.heap.size+2) W:=SK.refl (by omega) ⟨_,_,_,rz⟩
  refine (Pw (D2'.below bX hm) D0 (by omega) (by omega) l2 (by simp [AK])).mono ?_
  rintro e w6 ⟨v6,rfl,D6,hb6⟩
  have hk6:=SK.call hk hb6
  rw [Hn hodd] at D6
  have D6':=mo D6
  obtain ⟨nb6,A6,L6,c6,rfl,_⟩:=D6.form
  have hf6:=hk6.lt
  obtain ⟨z0,z1,z2,rw6,k0,k1,k2,kf⟩:=SK.cells hk6
  have b6:=bW.trans (hb6.mono (by omega))
  clear D6 hb6 hk6 hk rz bW
  go_wp2_with fail
  refine bodyPost_ret (Acl rfl (((rw6.set_ 0 _).set_ 1 _).set_ 2 _)) rfl ⟨_,rfl,?_,((b6.setCell (by simp;omega) _).setCell (by simp;omega) _).setCell (by simp;omega) _⟩
  have HE:=((((D6'.out.set_ (b:=w.heap.size+2) (by omega) 0 (.bool nb6)).set_ (b:=w.heap.size+2) (by omega) 1 (.slice A6 L6 c6)).set_ (b:=w.heap.size+2) (by omega) 2 (.int .i64 (dy:Int))).low (show w.heap.size≤W.heap.size by omega))
  have hv:Dt x dx y dy=(y,dy):=by
   unfold Dt
   exact if_pos (by have:=HC.out;omega)
  rw [hv]
  exact HE.more (by simp)
 ·as_aux_lemma =>
  have HC:=mo hc
  have hodd:=HB1.2
  obtain ⟨cv,hcv⟩:∃ cv,cv=Cm x dx y dy:=⟨_,rfl⟩
  rw [←hcv] at hc
  rw [←hcv]
  have hcb:decide (0<cv)=false:=decide_eq_false hc
  clear hcv HB1 HB2
  go_wp2_with fail
  go_at_call 37
  obtain ⟨W,hW⟩:∃ W,W=w2:=⟨_,rfl⟩
  have rz:=s2
  have bW:=b2
  have hWs:=hz2
  rw [←hW]
  rw [←hW] at rz bW hWs D1' D2'
  clear hW s0 s1 s2 a0 a1 a2 e0 e1 e2 f0 b2
  have D0:DyR W 0 0 (.agg #[.bool false,.slice none 0 0,.int .i64 0]) 0 0:=DyR.zero_ _ _ _
  have hk:SK W (w.heap.size+2) (w.heap.size+2) W:=SK.refl (by omega) ⟨_,_,_,rz⟩
  refine (Pw D1' D0 (by omega) (by omega) l1 (by simp [AK])).mono ?_
  rintro e w6 ⟨v6,rfl,D6,hb6⟩
  have hk6:=SK.call hk hb6
  rw [Hn hodd] at D6
  have D6':=mo D6
  obtain ⟨nb6,A6,L6,c6,rfl,_⟩:=D6.form
  have hf6:=hk6.lt
  obtain ⟨z0,z1,z2,rw6,k0,k1,k2,kf⟩:=SK.cells hk6
  have b6:=bW.trans (hb6.mono (by omega))
  clear D6 hb6 hk6 hk rz bW
  go_wp2_with fail
  refine bodyPost_ret (Acl rfl (((rw6.set_ 0 _).set_ 1 _).set_ 2 _)) rfl ⟨_,rfl,?_,((b6.setCell (by simp;omega) _).setCell (by simp;omega) _).setCell (by simp;omega) _⟩
  have HE:=((((D6'.out.set_ (b:=w.heap.size+2) (by omega) 0 (.bool nb6)).set_ (b:=w.heap.size+2) (by omega) 1 (.slice A6 L6 c6)).set_ (b:=w.heap.size+2) (by omega) 2 (.int .i64 (dx:Int))).low (show w.heap.size≤W.heap.size by omega))
  have hv:Dt x dx y dy=(x,dx):=by
   unfold Dt
   exact if_neg (by have:=HC.out;omega)
  rw [hv]
  exact HE.more (by simp)
theorem Acm (h2:tmps.getD 4 undef=.pointer (some ⟨b,0,none⟩)) (hB:Ca w b [v0,v1,v2] 43) :
  (results Tryz.f100 tmps).run prog w=.ok (.agg #[v0,v1,v2]) w:=by
 have k0:=hB.cell 0
 have k1:=hB.cell 1
 have k2:=hB.cell 2
 simp at k0 k1 k2
 simp at h2
 simp [results,results100,go_sem,h2,k0,k1,k2]
theorem AkL {x y:Int} (D1:DyR w lo1 m v x dx) (D2:DyR w lo2 m v2 y dy) (hm:m≤w.heap.size) (l1:(Ad x.natAbs).length≤50000) (l2:(Ad y.natAbs).length≤50000) :
  Calls prog 100 #[v,v2] w fun e w'=>∃ v',e=.returned v'∧DyR w' w.heap.size w'.heap.size v' (Dx x dx y dy).1 (Dx x dx y dy).2∧Below w.heap.size w w':=by
 have HB1:=D1.bound
 have HB2:=D2.bound
 obtain ⟨nb1,A1,L1,c1,rfl,HD1⟩:=D1.form
 obtain ⟨nb2,A2,L2,c2,rfl,HD2⟩:=D2.form
 have b0:Below w.heap.size w (((w.alloc (.cells #[.bool nb1,.slice A1 L1 c1,.int .i64 (dx:Int)] 43)).alloc (.cells #[.bool nb2,.slice A2 L2 c2,.int .i64 (dy:Int)] 43)).alloc (.cells #[.bool false,.slice none 0 0,.int .i64 0] 43)):=Am (Am (Am (ab _ _) _) _) _
 have D1':=D1.below b0 hm
 have D2':=D2.below b0 hm
 clear D1 D2
 have r2:=Ca.new_ ((w.alloc (.cells #[.bool nb1,.slice A1 L1 c1,.int .i64 (dx:Int)] 43)).alloc (.cells #[.bool nb2,.slice A2 L2 c2,.int .i64 (dy:Int)] 43)) [.bool false,.slice none 0 0,.int .i64 0] 43
 have r1:=(Ca.new_ (w.alloc (.cells #[.bool nb1,.slice A1 L1 c1,.int .i64 (dx:Int)] 43)) [.bool nb2,.slice A2 L2 c2,.int .i64 (dy:Int)] 43).call ((ab _ _).alloc (aa _) (.cells #[.bool false,.slice none 0 0,.int .i64 0] 43))
 have r0:=((Ca.new_ w [.bool nb1,.slice A1 L1 c1,.int .i64 (dx:Int)] 43).call ((ab _ _).alloc (aa _) (.cells #[.bool nb2,.slice A2 L2 c2,.int .i64 (dy:Int)] 43))).call ((ab _ _).alloc (aa _) (.cells #[.bool false,.slice none 0 0,.int .i64 0] 43))
 rw [show ((w.alloc (.cells #[.bool nb1,.slice A1 L1 c1,.int .i64 (dx:Int)] 43)).alloc (.cells #[.bool nb2,.slice A2 L2 c2,.int .i64 (dy:Int)] 43)).heap.size=w.heap.size+2 by simp] at r2
 rw [show (w.alloc (.cells #[.bool nb1,.slice A1 L1 c1,.int .i64 (dx:Int)] 43)).heap.size=w.heap.size+1 by simp] at r1
 go_enter func100,ntmps100
 go_wp2_with fail
 obtain ⟨W,hW⟩:∃ W,W=(((w.alloc (.cells #[.bool nb1,.slice A1 L1 c1,.int .i64 (dx:Int)] 43)).alloc (.cells #[.bool nb2,.slice A2 L2 c2,.int .i64 (dy:Int)] 43)).alloc (.cells #[.bool false,.slice none 0 0,.int .i64 0] 43)):=⟨_,rfl⟩
 have hWs:W.heap.size=w.heap.size+3:=by rw [hW];simp
 rw [←hW]
 rw [←hW] at b0 D1' D2' r0 r1 r2
 clear hW
 have a0:W.cell? ⟨w.heap.size,0,none⟩=some (.bool nb1):=r0.cell 0
 have a1:W.cell? ⟨w.heap.size,1,none⟩=some (.slice A1 L1 c1):=r0.cell 1
 have a2:W.cell? ⟨w.heap.size,2,none⟩=some (.int .i64 (dx:Int)):=r0.cell 2
 have e0:W.cell? ⟨w.heap.size+1,0,none⟩=some (.bool nb2):=r1.cell 0
 have e1:W.cell? ⟨w.heap.size+1,1,none⟩=some (.slice A2 L2 c2):=r1.cell 1
 have e2:W.cell? ⟨w.heap.size+1,2,none⟩=some (.int .i64 (dy:Int)):=r1.cell 2
 go_at_call 29
 refine (VQ D1' D2' (by omega) l1 l2).mono ?_
 rintro e w2 ⟨rfl,hb2⟩
 have s0:=r0.call hb2
 have s1:=r1.call hb2
 have s2:=r2.call hb2
 have b2:=b0.trans (hb2.mono (by omega))
 replace D1':=D1'.below hb2 (by omega)
 replace D2':=D2'.below hb2 (by omega)
 have hz2:w.heap.size+3≤w2.heap.size:=by have:=hb2.size;omega
 clear r0 r1 r2 b0 a0 a1 a2 e0 e1 e2 hWs hb2
 have a0:w2.cell? ⟨w.heap.size,0,none⟩=some (.bool nb1):=s0.cell 0
 have a1:w2.cell? ⟨w.heap.size,1,none⟩=some (.slice A1 L1 c1):=s0.cell 1
 have a2:w2.cell? ⟨w.heap.size,2,none⟩=some (.int .i64 (dx:Int)):=s0.cell 2
 have e0:w2.cell? ⟨w.heap.size+1,0,none⟩=some (.bool nb2):=s1.cell 0
 have e1:w2.cell? ⟨w.heap.size+1,1,none⟩=some (.slice A2 L2 c2):=s1.cell 1
 have e2:w2.cell? ⟨w.heap.size+1,2,none⟩=some (.int .i64 (dy:Int)):=s1.cell 2
 have f0:=s0.free
 by_cases hc:Cm x dx y dy<0
 ·as_aux_lemma =>
  have HC:=mo hc
  have hodd:=HB2.2
  obtain ⟨cv,hcv⟩:∃ cv,cv=Cm x dx y dy:=⟨_,rfl⟩
  rw [←hcv] at hc
  rw [←hcv]
  have hcb:decide (cv<0)=true:=decide_eq_true hc
  clear hcv HB1 HB2
  go_wp2_with fail
  go_at_call 37
  obtain ⟨W,hW⟩:∃ W,W=((w2.setCell ⟨w.heap.size,0,none⟩ (.bool nb2)).setCell ⟨w.heap.size,1,none⟩ (.slice A2 L2 c2)).setCell ⟨w.heap.size,2,none⟩ (.int .i64 (dy:Int)):=⟨_,rfl⟩
  have rz:Ca W (w.heap.size+2) [.bool false,.slice none 0 0,.int .i64 0] 43:=by
   rw [hW]
   exact ((s2.other_ (by omega) _ _).other_ (by omega) _ _).other_ (by omega) _ _
  have bW:Below w.heap.size w W:=by
   rw [hW]
   exact ((b2.setCell (by simp) _).setCell (by simp) _).setCell (by simp) _
  have bX:Below w.heap.size w2 W:=by
   rw [hW]
   exact (((ab _ w2).setCell (by simp) _).setCell (by simp) _).setCell (by simp) _
  have hWs:w.heap.size+3≤W.heap.size:=by rw [hW];simpa using hz2
  rw [←hW]
  clear hW s0 s1 s2 a0 a1 a2 e0 e1 e2 f0 b2
  have D0:DyR W 0 0 (.agg #[.bool false,.slice none 0 0,.int .i64 0]) 0 0:=DyR.zero_ _ _ _
  have hk:SK W (w.heap.size+2) (w.heap.size+2) W:=SK.refl (by omega) ⟨_,_,_,rz⟩
  refine (Pw (D2'.below bX hm) D0 (by omega) (by omega) l2 (by simp [AK])).mono ?_
  rintro e w6 ⟨v6,rfl,D6,hb6⟩
  have hk6:=SK.call hk hb6
  rw [Hn hodd] at D6
  have D6':=mo D6
  obtain ⟨nb6,A6,L6,c6,rfl,_⟩:=D6.form
  have hf6:=hk6.lt
  obtain ⟨z0,z1,z2,rw6,k0,k1,k2,kf⟩:=SK.cells hk6
  have b6:=bW.trans (hb6.mono (by omega))
  clear D6 hb6 hk6 hk rz bW
  go_wp2_with fail
  refine bodyPost_ret (Acm rfl (((rw6.set_ 0 _).set_ 1 _).set_ 2 _)) rfl ⟨_,rfl,?_,((b6.setCell (by simp;omega) _).setCell (by simp;omega) _).setCell (by simp;omega) _⟩
  have HE:=((((D6'.out.set_ (b:=w.heap.size+2) (by omega) 0 (.bool nb6)).set_ (b:=w.heap.size+2) (by omega) 1 (.slice A6 L6 c6)).set_ (b:=w.heap.size+2) (by omega) 2 (.int .i64 (dy:Int))).low (show w.heap.size≤W.heap.size by omega))
  have hv:Dx x dx y dy=(y,dy):=by
   unfold Dx
   exact if_pos (by have:=HC.out;omega)
  rw [hv]
  exact HE.more (by simp)
 ·as_aux_lemma =>
  have HC:=mo hc
  have hodd:=HB1.2
  obtain ⟨cv,hcv⟩:∃ cv,cv=Cm x dx y dy:=⟨_,rfl⟩
  rw [←hcv] at hc
  rw [←hcv]
  have hcb:decide (cv<0)=false:=decide_eq_false hc
  clear hcv HB1 HB2
  go_wp2_with fail
  go_at_call 37
  obtain ⟨W,hW⟩:∃ W,W=w2:=⟨_,rfl⟩
  have rz:=s2
  have bW:=b2
  have hWs:=hz2
  rw [←hW]
  rw [←hW] at rz bW hWs D1' D2'
  clear hW s0 s1 s2 a0 a1 a2 e0 e1 e2 f0 b2
  have D0:DyR W 0 0 (.agg #[.bool false,.slice none 0 0,.int .i64 0]) 0 0:=DyR.zero_ _ _ _
  have hk:SK W (w.heap.size+2) (w.heap.size+2) W:=SK.refl (by omega) ⟨_,_,_,rz⟩
  refine (Pw D1' D0 (by omega) (by omega) l1 (by simp [AK])).mono ?_
  rintro e w6 ⟨v6,rfl,D6,hb6⟩
  have hk6:=SK.call hk hb6
  rw [Hn hodd] at D6
  have D6':=mo D6
  obtain ⟨nb6,A6,L6,c6,rfl,_⟩:=D6.form
  have hf6:=hk6.lt
  obtain ⟨z0,z1,z2,rw6,k0,k1,k2,kf⟩:=SK.cells hk6
  have b6:=bW.trans (hb6.mono (by omega))
  clear D6 hb6 hk6 hk rz bW
  go_wp2_with fail
  refine bodyPost_ret (Acm rfl (((rw6.set_ 0 _).set_ 1 _).set_ 2 _)) rfl ⟨_,rfl,?_,((b6.setCell (by simp;omega) _).setCell (by simp;omega) _).setCell (by simp;omega) _⟩
  have HE:=((((D6'.out.set_ (b:=w.heap.size+2) (by omega) 0 (.bool nb6)).set_ (b:=w.heap.size+2) (by omega) 1 (.slice A6 L6 c6)).set_ (b:=w.heap.size+2) (by omega) 2 (.int .i64 (dx:Int))).low (show w.heap.size≤W.heap.size by omega))
  have hv:Dx x dx y dy=(x,dx):=by
   unfold Dx
   exact if_neg (by have:=HC.out;omega)
  rw [hv]
  exact HE.more (by simp)
theorem Ui (h2:tmps.getD 4 undef=.pointer (some ⟨b,0,none⟩)) (hB:Ca w b [v0,v1,v2] 43) :
  (results Tryz.f38 tmps).run prog w=.ok (.agg #[v0,v1,v2]) w:=by
 have k0:=hB.cell 0
 have k1:=hB.cell 1
 have k2:=hB.cell 2
 simp at k0 k1 k2
 simp at h2
 simp [results,results38,go_sem,h2,k0,k1,k2]
theorem Zz {x:Int} {d:Nat} {n:Int} (D:DyR w lo m v x d) (hm:m≤w.heap.size) (hl:(Ad x.natAbs).length≤50000) (hd:(d:Int) - max (-65536) (min n 65536)≤65536) :
    Calls prog 38 #[v,.int .i64 n] w fun e w'=>∃ v',e=.returned v'∧DyR w' w.heap.size w'.heap.size v' (Ac x d n).1 (Ac x d n).2∧Below w.heap.size w w':=by
  obtain ⟨nn,hnn⟩:∃ nn:Int,max (-65536) (min n 65536)=nn:=⟨_,rfl⟩
  have hb1 : -65536≤nn:=by omega
  have hb2:nn≤65536:=by omega
  rw [hnn] at hd
  by_cases hneg:nn<0
  · as_aux_lemma =>
    obtain ⟨p,hp⟩:∃ p:Nat,p=d+(-nn).toNat:=⟨_,rfl⟩
    have HV := mo (show Ac x d n = nf x p by unfold Ac; rw [hnn, if_pos hneg, ← hp])
    have hpp:(d:Int) - nn=(p:Int):=by omega
    have hp6:p≤65536:=by omega
    clear hp
    obtain ⟨nb,A,L,c,rfl,HD⟩:=D.form
    have D':=mo D
    clear D
    have b0:Below w.heap.size w ((w.alloc (.cells #[.bool nb,.slice A L c,.int .i64 (d:Int)] 43)).alloc (.cells #[.bool false,.slice none 0 0,.int .i64 0] 43)):=Am (Am (ab _ _) _) _
    have r0:=(Ca.new_ w [.bool nb,.slice A L c,.int .i64 (d:Int)] 43).call ((ab _ _).alloc (aa _) (.cells #[.bool false,.slice none 0 0,.int .i64 0] 43))
    have r1:=(Ca.new_ (w.alloc (.cells #[.bool nb,.slice A L c,.int .i64 (d:Int)] 43)) [.bool false,.slice none 0 0,.int .i64 0] 43)
    rw [show (w.alloc (.cells #[.bool nb,.slice A L c,.int .i64 (d:Int)] 43)).heap.size=w.heap.size+1 by simp] at r1
    go_enter func38,ntmps38
    go_wp2_with fail
    go_at_call 105
    refine (Pv (D'.out.below b0 hm) (by simp;omega) (by omega)).mono ?_
    rintro e w1 ⟨rfl,hb⟩
    have s0:=r0.below hb (by simp;omega)
    have s1:=r1.below hb (by simp)
    have b1:=b0.trans (hb.mono (by simp;omega))
    have D1:=mo (D'.out.below b1 hm)
    have hz1:w.heap.size+2≤w1.heap.size:=by simpa using hb.size
    clear hb r0 r1 b0
    have k0:w1.cell? ⟨w.heap.size,0,none⟩=some (.bool nb):=s0.cell 0
    have k1:w1.cell? ⟨w.heap.size,1,none⟩=some (.slice A L c):=s0.cell 1
    have k2:w1.cell? ⟨w.heap.size,2,none⟩=some (.int .i64 (d:Int)):=s0.cell 2
    have kf:=s0.free
    go_wp2_with fail
    go_at_call 107
    obtain ⟨W,hW⟩:∃ W,W=((w1.setCell ⟨w.heap.size,0,none⟩ (.bool nb)).setCell ⟨w.heap.size,1,none⟩ (.slice A L c)).setCell ⟨w.heap.size,2,none⟩ (.int .i64 (d:Int)):=⟨_,rfl⟩
    have hWs:w.heap.size+2≤W.heap.size:=by rw [hW];simpa using hz1
    have b2:Below w.heap.size w W:=by rw [hW];exact ((b1.setCell (by simp) _).setCell (by simp) _).setCell (by simp) _
    have t0:Ca W w.heap.size [.bool nb,.slice A L c,.int .i64 (d:Int)] 43:=by
      rw [hW]
      exact ((s0.set_ 0 _).set_ 1 _).set_ 2 _
    have t1:Ca W (w.heap.size+1) [.bool false,.slice none 0 0,.int .i64 0] 43:=by
      rw [hW]
      exact ((s1.other_ (by omega) _ _).other_ (by omega) _ _).other_ (by omega) _ _
    have X:WdR W m (.slice A L c) x.natAbs:=(D'.out.below b2 hm).words
    rw [←hW]
    clear hW s0 s1 b1 k0 k1 k2 kf hz1 D1
    have k0:W.cell? ⟨w.heap.size,0,none⟩=some (.bool nb):=t0.cell 0
    have k1:W.cell? ⟨w.heap.size,1,none⟩=some (.slice A L c):=t0.cell 1
    have k2:W.cell? ⟨w.heap.size,2,none⟩=some (.int .i64 (d:Int)):=t0.cell 2
    refine (LW X (by omega) (by omega) hp6).mono ?_
    rintro e w3 ⟨v',rfl,D3,hb3⟩
    rw [HD.out.1,Vs,←HV.out] at D3
    have b3:=b2.trans (hb3.mono (by omega))
    have u1:=t1.call hb3
    have hu1:=u1.lt
    obtain ⟨nb3,A3,L3,c3,rfl,_⟩:=D3.form
    have D3':=mo D3
    have q0:w3.cell? ⟨w.heap.size+1,0,none⟩=some (.bool false):=u1.cell 0
    have q1:w3.cell? ⟨w.heap.size+1,1,none⟩=some (.slice none 0 0):=u1.cell 1
    have q2:w3.cell? ⟨w.heap.size+1,2,none⟩=some (.int .i64 0):=u1.cell 2
    have qf:=u1.free
    clear D3 hb3 t0 t1 b2 X
    go_wp2_with fail
    refine bodyPost_ret (Ui rfl (((u1.set_ 0 _).set_ 1 _).set_ 2 _)) rfl ⟨_,rfl,?_,((b3.setCell (by simp) _).setCell (by simp) _).setCell (by simp) _⟩
    exact AkF
  · as_aux_lemma =>
    obtain ⟨p,hp⟩:∃ p:Nat,nn=(p:Int):=⟨nn.toNat,by omega⟩
    subst hp
    have HV := mo (show Ac x d n = nf (x * 2 ^ p) d by unfold Ac; rw [hnn, if_neg hneg]; rfl)
    have hneg':¬ (p:Int)<0:=by omega
    have hn2:decide ((p:Int)<0)=false:=decide_eq_false hneg'
    have hp6:p≤1000000:=by omega
    clear hneg
    obtain ⟨nb,A,L,c,rfl,HD⟩:=D.form
    have D':=mo D
    clear D
    have b0:Below w.heap.size w ((w.alloc (.cells #[.bool nb,.slice A L c,.int .i64 (d:Int)] 43)).alloc (.cells #[.bool false,.slice none 0 0,.int .i64 0] 43)):=Am (Am (ab _ _) _) _
    have r0:=(Ca.new_ w [.bool nb,.slice A L c,.int .i64 (d:Int)] 43).call ((ab _ _).alloc (aa _) (.cells #[.bool false,.slice none 0 0,.int .i64 0] 43))
    have r1:=(Ca.new_ (w.alloc (.cells #[.bool nb,.slice A L c,.int .i64 (d:Int)] 43)) [.bool false,.slice none 0 0,.int .i64 0] 43)
    rw [show (w.alloc (.cells #[.bool nb,.slice A L c,.int .i64 (d:Int)] 43)).heap.size=w.heap.size+1 by simp] at r1
    go_enter func38,ntmps38
    go_wp2_with fail
    go_at_call 105
    refine (Pv (D'.out.below b0 hm) (by simp;omega) (by omega)).mono ?_
    rintro e w1 ⟨rfl,hb⟩
    have s0:=r0.below hb (by simp;omega)
    have s1:=r1.below hb (by simp)
    have b1:=b0.trans (hb.mono (by simp;omega))
    have D1:=mo (D'.out.below b1 hm)
    have hz1:w.heap.size+2≤w1.heap.size:=by simpa using hb.size
    clear hb r0 r1 b0
    have k0:w1.cell? ⟨w.heap.size,0,none⟩=some (.bool nb):=s0.cell 0
    have k1:w1.cell? ⟨w.heap.size,1,none⟩=some (.slice A L c):=s0.cell 1
    have k2:w1.cell? ⟨w.heap.size,2,none⟩=some (.int .i64 (d:Int)):=s0.cell 2
    have kf:=s0.free
    have hd6:=HD.out.2.2.2.2.2.1
    have hval:nf (sg nb (x.natAbs*2 ^ p)) d=Ac x d n:=by rw [HD.out.1,Xi,HV.out]
    have HVAL:=mo hval
    have hlen:(Ad (x.natAbs*2 ^ p)).length≤100000:=by
      have:=Bs x.natAbs p
      omega
    clear hval
    go_wp2_with fail
    obtain ⟨W,hW⟩:∃ W,W=((w1.setCell ⟨w.heap.size,0,none⟩ (.bool nb)).setCell ⟨w.heap.size,1,none⟩ (.slice A L c)).setCell ⟨w.heap.size,2,none⟩ (.int .i64 (d:Int)):=⟨_,rfl⟩
    have hWs:w.heap.size+2≤W.heap.size:=by rw [hW];simpa using hz1
    have b2:Below w.heap.size w W:=by rw [hW];exact ((b1.setCell (by simp) _).setCell (by simp) _).setCell (by simp) _
    have t0:Ca W w.heap.size [.bool nb,.slice A L c,.int .i64 (d:Int)] 43:=by
      rw [hW]
      exact ((s0.set_ 0 _).set_ 1 _).set_ 2 _
    have t1:Ca W (w.heap.size+1) [.bool false,.slice none 0 0,.int .i64 0] 43:=by
      rw [hW]
      exact ((s1.other_ (by omega) _ _).other_ (by omega) _ _).other_ (by omega) _ _
    have X:WdR W m (.slice A L c) x.natAbs:=(D'.out.below b2 hm).words
    rw [←hW]
    clear hW s0 s1 b1 k0 k1 k2 kf hz1 D1
    have k0:W.cell? ⟨w.heap.size,0,none⟩=some (.bool nb):=t0.cell 0
    have k1:W.cell? ⟨w.heap.size,1,none⟩=some (.slice A L c):=t0.cell 1
    have k2:W.cell? ⟨w.heap.size,2,none⟩=some (.int .i64 (d:Int)):=t0.cell 2
    have hle:m≤w.heap.size+1:=by omega
    have hk:SK W (w.heap.size+1) (w.heap.size+1) W:=SK.refl (by omega) ⟨_,_,_,t1⟩
    go_region_held3 (fun w'=>(∀ b o,b<w.heap.size+1→w'.cell? ⟨b,o,none⟩=W.cell? ⟨b,o,none⟩)∧SK W (w.heap.size+1) (w.heap.size+1) w')
      (first
      | (refine SK.all ?_
         first
           | assumption
           | exact hk
           | exact hk.drew
           | exact ((SK.set (by assumption) (by omega) _ _).set (by omega) _ _).set (by omega) _ _))
      (first
        | (go_at_call 106;refine (Aci (X.below (ab m W).drew (aa _)) (by simp;omega) (by omega) hp6).mono ?_;(rintro e w5 ⟨v5,rfl,D5,hb5⟩;have hk5:=SK.call hk.drew hb5;have hf5:=hk5.lt;obtain ⟨A5,L5,c5,rfl⟩:=D5.form))
        | (go_at_call 107;refine (LW D5 (aa _) hlen hd6).mono ?_;(rintro e w6 ⟨v6,rfl,D6,hb6⟩;have hk6:=SK.call hk5 hb6;have hf6:=hk6.lt;rw [HVAL.out] at D6;obtain ⟨nb6,A9,L9,c9,rfl,_⟩:=D6.form;obtain ⟨z0,z1,z2,rz,k0,k1,k2,kf⟩:=SK.cells hk6)))
    go_wp2_with fail
    refine bodyPost_ret (Ui rfl (((rz.set_ 0 _).set_ 1 _).set_ 2 _)) rfl ⟨_,rfl,?_,(((b2.trans (hk6.is.mono (by omega))).setCell (by simp) _).setCell (by simp) _).setCell (by simp) _⟩
    exact ((((D6.set_ (by omega) 0 _).set_ (by omega) 1 _).set_ (by omega) 2 _).low (by omega)).more (by simp)
def Aig (vs:List Value):Prop:=∀ u∈vs,∀ z,u≠.int .u32 z
theorem Ca.notwd {t:Nat} {A:Option Addr} {ws:List Nat} (h:Ca w g vs t) (hn:Aig vs) (hc:Al w m A (w32 ws)) (j:Nat) (u:Value):Al (w.setCell ⟨g,j,none⟩ u) m A (w32 ws):=fun hx=>by
 obtain ⟨b,off,hA,hbm,hbs,hcc⟩:=hc hx
 have hne:b≠g:=fun he=>by
  have hp:0<ws.length:=by
   have:=OB ws
   rcases cn ws.length with h0|h0
   ·exact absurd (bw (this.trans h0)) hx
   ·exact h0
  have h1:=hcc 0 (.int .u32 (ws[0]:Int)) (by simp [w32,hp])
  rw [he,h.cell] at h1
  exact hn _ (gM h1) _ rfl
 refine ⟨b,off,hA,hbm,by simpa using hbs,fun i v hv=>?_⟩
 rw [World.cell?_setCell_other _ _ _ _ (fun e=>hne (by cases e;rfl))]
 exact hcc i v hv
theorem DyR.setH {hi d t:Nat} {x:Int} (h:DyR w lo hi v x d) (hg:Ca w g vs t) (hn:Aig vs) (j:Nat) (u:Value):DyR (w.setCell ⟨g,j,none⟩ u) lo hi v x d:=by
 obtain ⟨A,c,e,h1,h2,h3,h4,h5,h6⟩:=h
 exact ⟨A,c,e,h1,h2,hg.notwd hn h3 j u,h4,h5,h6⟩
theorem Aig.set (h:Aig vs) (j:Nat) {u:Value} (hu:∀ z,u≠.int .u32 z):Aig (vs.set j u):=fun v hv z=>by
 rcases kj hv with h1|rfl
 ·exact h v h1 z
 ·exact hu z
theorem AoH {b1:Bool} {A1:Option Addr} {L1 c1:Nat} {d1:Int}:Aig [.bool b1,.slice A1 L1 c1,.int .i64 d1]:=by
 intro u hu z
 simp only [bo,bp,or_false] at hu
 rcases hu with rfl|rfl|rfl <;> simp
theorem DyR.set3H {hi d t:Nat} {x:Int} {a0 a1 a2:Value} (h:DyR w lo hi v x d) (hg:Ca w g [v0,v1,v2] t) (hn:Aig [v0,v1,v2]) (ha:Aig [a0,a1,a2]) :
  DyR (((w.setCell ⟨g,0,none⟩ a0).setCell ⟨g,1,none⟩ a1).setCell ⟨g,2,none⟩ a2) lo hi v x d:=by
 have k0:=hn.set 0 (ha a0 (by simp))
 have k1:=k0.set 1 (ha a1 (by simp))
 exact ((h.setH hg hn 0 a0).setH (hg.set_ 0 a0) k0 1 a1).setH ((hg.set_ 0 a0).set_ 1 a1) k1 2 a2
theorem AoI (w:World) (g:Nat) (a0 a1 a2:Value):(((w.setCell ⟨g,0,none⟩ a0).setCell ⟨g,1,none⟩ a1).setCell ⟨g,2,none⟩ a2).heap.size=w.heap.size:=by simp
theorem VR {W:World} (h:Below m W w) (hg:m≤g) (a0 a1 a2:Value):Below m W (((w.setCell ⟨g,0,none⟩ a0).setCell ⟨g,1,none⟩ a1).setCell ⟨g,2,none⟩ a2) :=
 ((h.setCell hg a0).setCell hg a1).setCell hg a2
def shE (x k:Int):Int:=if k<0 then x / 2 ^ (-k).toNat else x*2 ^ k.toNat
theorem Agi (x:Int) (p:Nat):(nf x p).1 / 2 ^ (nf x p).2=x / 2 ^ p:=by
 induction p generalizing x with
 | zero=>rfl
 | succ p ih =>
  unfold nf
  split
  ·rename_i h
   rw [ih]
   have e:x=2*(x / 2):=by omega
   rw [Int.pow_succ,bz (2 ^ p) 2,←Int.ediv_ediv_of_nonneg (by omega)]
  ·rfl
theorem Uj (x:Int) (d:Nat):IZ x d 0=(x / 2 ^ d,0):=by
 unfold IZ
 by_cases h:d≤0
 ·have:d=0:=by omega
  subst this
  simp
 ·rw [if_neg h]
  rfl
theorem AoJ {x k:Int} (h1 : -65536≤k) (h2:k≤65536):IZ (Ac x 0 k).1 (Ac x 0 k).2 0=(shE x k,0):=by
 rw [Uj]
 congr 1
 unfold Ac shE
 rw [show max (-65536) (min k 65536)=k by omega]
 by_cases h:k<0
 ·rw [if_pos h,if_pos h,bc]
  exact Agi _ _
 ·rw [if_neg h,if_neg h]
  show x*2 ^ k.toNat / 2 ^ 0=_
  simp
def GS (n e f:Int):Prop := -2147483648<n∧n<2147483648 ∧ -62≤e∧e≤30∧0≤f∧f≤30
instance (n e f:Int):Decidable (GS n e f):=by unfold GS;infer_instance
def BJ (n e f:Int):Int:=if GS n e f then (if -2147483648≤shE n (e+f)∧shE n (e+f)<2147483648 then 0 else 13) else 3
def Dq (n e f:Int):Int:=if BJ n e f=0 then shE n (e+f) else 0
theorem Aih {n f:Int} (h:¬ GS n e f):BJ n e f=3∧Dq n e f=0:=by
 have h1:BJ n e f=3:=if_neg h
 exact ⟨h1,by unfold Dq;rw [h1];rfl⟩
theorem Sl {n f:Int} (h:GS n e f) (h2:¬ (-2147483648≤shE n (e+f)∧shE n (e+f)<2147483648)):BJ n e f=13∧Dq n e f=0:=by
 have h1:BJ n e f=13:=by unfold BJ;rw [if_pos h,if_neg h2]
 exact ⟨h1,by unfold Dq;rw [h1];rfl⟩
theorem Acn {n f:Int} (h:GS n e f) (h2 : -2147483648≤shE n (e+f)∧shE n (e+f)<2147483648):BJ n e f=0∧Dq n e f=shE n (e+f):=by
 have h1:BJ n e f=0:=by unfold BJ;rw [if_pos h,if_pos h2]
 exact ⟨h1,by unfold Dq;rw [h1];rfl⟩
theorem Rc {x:Int} {k:Nat} (hx:x.natAbs≤2147483648) (hk:k≤100):(x*2 ^ k).natAbs≤2147483648*2 ^ 100:=by
 rw [ff,fx]
 exact dw hx (ax (by decide) hk)
theorem Rd {x:Int} (k:Nat):(x / 2 ^ k).natAbs≤x.natAbs:=by
 have hp:(0:Int)<2 ^ k:=gg (by decide)
 have h1:=Int.mul_ediv_add_emod x (2 ^ k)
 have h2:=Int.emod_nonneg x (fm hp)
 have h3:=Int.emod_lt_of_pos x hp
 have hle:(0:Int)≤x→0≤x / 2 ^ k:=fun h=>Int.ediv_nonneg h (bl hp)
 by_cases h:0≤x
 ·have h4:=hle h
  have h5:=Int.ediv_le_self (2 ^ k) h
  omega
 ·have h4:x≤x / 2 ^ k:=by
   rw [Int.le_ediv_iff_mul_le hp]
   have h6:(1:Int)≤2 ^ k:=hp
   have h7:=jd (a := -x) (b:=2 ^ k - 1) (by omega) (by omega)
   rw [ct,Int.mul_sub,je] at h7
   omega
  have h5:x / 2 ^ k<0:=Int.ediv_neg_of_neg_of_pos (by omega) hp
  omega
theorem AoK {x k:Int} (hx:x.natAbs≤2147483648) (h1 : -100≤k) (h2:k≤100):(Ad (Ac x 0 k).1.natAbs).length≤5:=by
 refine AY (io (m:=2147483648*2 ^ 100) ?_ (by decide))
 unfold Ac
 rw [show max (-65536) (min k 65536)=k by omega]
 by_cases h:k<0
 ·rw [if_pos h]
  exact lT (LD _ _) (lT hx (by decide))
 ·rw [if_neg h]
  exact lT (LD _ _) (Rc hx (by omega))
theorem AkM {x k:Int} (hx:x.natAbs≤2147483648) (h2:k≤100):(Ad (shE x k).natAbs).length≤5:=by
 refine AY (io (m:=2147483648*2 ^ 100) ?_ (by decide))
 unfold shE
 by_cases h:k<0
 ·rw [if_pos h]
  exact lT (Rd _) (lT hx (by decide))
 ·rw [if_neg h]
  exact Rc hx (by omega)
theorem VS {n f:Int} (h:GS n e f):¬ n ≤ -2147483648∧¬ 2147483648≤n∧¬ e < -62∧¬ 30<e∧¬ f<0∧¬ 30<f:=by
 unfold GS at h
 omega
theorem Aco {n f:Int} (h:¬ GS n e f):n ≤ -2147483648∨(¬ n ≤ -2147483648∧2147483648≤n)∨(¬ n ≤ -2147483648∧¬ 2147483648≤n∧e < -62)∨(¬ n ≤ -2147483648∧¬ 2147483648≤n∧¬ e < -62∧30<e) ∨
  (¬ n ≤ -2147483648∧¬ 2147483648≤n∧¬ e < -62∧¬ 30<e∧f<0)∨(¬ n ≤ -2147483648∧¬ 2147483648≤n∧¬ e < -62∧¬ 30<e∧¬ f<0∧30<f):=by
 unfold GS at h
 omega
theorem ZA (h:p:=by
 go_enter func117,ntmps117
 go_wp2_with fail
 exact bodyPost_ret (v:=.tuple #[.int .i64 0,.iface 109 (.int .i64 3)]) (by simp [results,results117,go_sem]) rfl ⟨by rw [HV.out.1,HV.out.2];rfl,b0⟩):p:=h
theorem AkN (n e f:Int) (w:World) (h:¬ GS n e f) :
  Calls prog 117 #[.agg #[.int .i64 n,.int .i64 e],.int .i64 f] w fun r w'=>r=.returned (.tuple #[.int .i64 (Dq n e f),IV (BJ n e f)])∧Below w.heap.size w w':=by
 have HV:=mo (Aih h)
 have b0:=al_ w (.cells #[.int .i64 n,.int .i64 e] 61)
 have r0:=Ca.new_ w [.int .i64 n,.int .i64 e] 61
 have h':=Aco h
 clear h
 rcases h' with g0|⟨g0,g1⟩|⟨g0,g1,g2⟩|⟨g0,g1,g2,g3⟩|⟨g0,g1,g2,g3,g4⟩|⟨g0,g1,g2,g3,g4,g5⟩
 ·have d0:decide (n ≤ -2147483648)=true:=decide_eq_true g0
  clear g0
  exact ZA
 ·have d0:decide (n ≤ -2147483648)=false:=decide_eq_false g0
  have d1:decide (2147483648≤n)=true:=decide_eq_true g1
  clear g0 g1
  exact ZA
 ·have d0:decide (n ≤ -2147483648)=false:=decide_eq_false g0
  have d1:decide (2147483648≤n)=false:=decide_eq_false g1
  have d2:decide (e < -62)=true:=decide_eq_true g2
  clear g0 g1 g2
  exact ZA
 ·have d0:decide (n ≤ -2147483648)=false:=decide_eq_false g0
  have d1:decide (2147483648≤n)=false:=decide_eq_false g1
  have d2:decide (e < -62)=false:=decide_eq_false g2
  have d3:decide (30<e)=true:=decide_eq_true g3
  clear g0 g1 g2 g3
  exact ZA
 ·have d0:decide (n ≤ -2147483648)=false:=decide_eq_false g0
  have d1:decide (2147483648≤n)=false:=decide_eq_false g1
  have d2:decide (e < -62)=false:=decide_eq_false g2
  have d3:decide (30<e)=false:=decide_eq_false g3
  have d4:decide (f<0)=true:=decide_eq_true g4
  clear g0 g1 g2 g3 g4
  exact ZA
 ·have d0:decide (n ≤ -2147483648)=false:=decide_eq_false g0
  have d1:decide (2147483648≤n)=false:=decide_eq_false g1
  have d2:decide (e < -62)=false:=decide_eq_false g2
  have d3:decide (30<e)=false:=decide_eq_false g3
  have d4:decide (f<0)=false:=decide_eq_false g4
  have d5:decide (30<f)=true:=decide_eq_true g5
  clear g0 g1 g2 g3 g4 g5
  exact ZA
theorem AkO (h:p:=by
 clear h32
 go_wp2_with fail
 exact bodyPost_ret (v:=.tuple #[.int .i64 0,.iface 109 (.int .i64 13)]) (by simp [results,results117,go_sem]) rfl ⟨by rw [HV.out.1,HV.out.2];rfl,HF.out⟩):p:=h
theorem AkP (n e f:Int) (w:World) (h:GS n e f) (ht:An w) :
  Calls prog 117 #[.agg #[.int .i64 n,.int .i64 e],.int .i64 f] w fun r w'=>r=.returned (.tuple #[.int .i64 (Dq n e f),IV (BJ n e f)])∧Below w.heap.size w w':=by
 have hp:=VS h
 have hn:n.natAbs≤2147483648:=by have:=hp.1;have:=hp.2.1;omega
 have hk : -62≤e+f∧e+f≤60:=by obtain ⟨_,_,_,_,_,_⟩:=hp;omega
 have HOK:=mo h
 have HT:=mo ht
 obtain ⟨g0,g1,g2,g3,g4,g5⟩:=hp
 have d0:decide (n ≤ -2147483648)=false:=decide_eq_false g0
 have d1:decide (2147483648≤n)=false:=decide_eq_false g1
 have d2:decide (e < -62)=false:=decide_eq_false g2
 have d3:decide (30<e)=false:=decide_eq_false g3
 have d4:decide (f<0)=false:=decide_eq_false g4
 have d5:decide (30<f)=false:=decide_eq_false g5
 have hi1 : -9223372036854775808≤n:=by omega
 have hi2:n<9223372036854775808:=by omega
 have l5:(Ad n.natAbs).length≤50000:=lT (AY (k:=1) (by omega)) (by decide)
 have l6:(Ad (Ac n 0 (e+f)).1.natAbs).length≤50000:=lT (AoK hn (by omega) (by omega)) (by decide)
 have l7:(Ad (shE n (e+f)).natAbs).length≤50000:=lT (AkM hn (by omega)) (by decide)
 have hsv:=mo (AoJ (x:=n) (k:=e+f) (by omega) (by omega))
 obtain ⟨k,hkk⟩:∃ k,k=e+f:=⟨_,rfl⟩
 have hw1:IntKind.i64.wrap (e+f)=k:=by rw [hkk];exact jv _ (by omega)
 rw [←hkk] at l6 l7 hsv hk
 have HKK:=mo hkk
 obtain ⟨x,hx⟩:∃ x,x=shE n k:=⟨_,rfl⟩
 rw [←hx] at l7 hsv
 have HX:=mo hx
 clear h ht g0 g1 g2 g3 g4 g5 hkk hx
 go_enter func117,ntmps117
 go_wp2_with fail
 obtain ⟨W,hW⟩:∃ q,q=w.alloc (.cells #[.int .i64 n,.int .i64 e] 61):=⟨_,rfl⟩
 have rX:Ca W w.heap.size [.int .i64 n,.int .i64 e] 61:=by rw [hW];exact Ca.new_ _ _ _
 have bW:Below w.heap.size w W:=by rw [hW];exact al_ _ _
 rw [←hW]
 clear hW
 have hA:=rX.lt
 have a0:W.cell? ⟨w.heap.size,0,none⟩=some (.int .i64 n):=rX.cell 0
 have a1:W.cell? ⟨w.heap.size,1,none⟩=some (.int .i64 e):=rX.cell 1
 have HTW:=mo (HT.out.below bW HT.out.1)
 have hWs:=bW.size
 refine TI 13 13 11 (by kernel_rfl) (by kernel_rfl) (by kernel_rfl) (by decide) ?_
 dsimp only [List.take,List.drop]
 obtain ⟨u0,hu0⟩:∃ q,q=W.drew:=⟨_,rfl⟩
 have hS:Below W.heap.size W u0:=by rw [hu0];exact (ab _ _).drew
 rw [←hu0]
 clear hu0
 refine RX 0 ?v0 rfl (by kernel_rfl) (by intro _ _ _ h;exact h) (by rfl) ?h0 ?r0
 case h0 =>
  intro w2 hx
  go_simp
  try rfl
 case' r0=>try simp only [Act.put,ed,df,di]
 refine RX 1 ?v1 rfl (by kernel_rfl) (by intro _ _ _ h;exact h) (by rfl) ?h1 ?r1
 case h1 =>
  intro w2 hx
  have e0:w2.cell? ⟨w.heap.size,0,none⟩=some (.int .i64 n):=((hS.trans (hx.more0.mono hS.size)).cell (p:=⟨w.heap.size,0,none⟩) hA).trans a0
  go_simp
  try rfl
 case' r1=>try simp only [Act.put,ed,df,di]
 refine RX 3 ?v3 rfl (by kernel_rfl) (by intro _ _ _ h;exact h) (by rfl) ?h3 ?r3
 case h3 =>
  intro w2 hx
  go_simp
  try rfl
 case' r3=>try simp only [Act.put,ed,df,di]
 refine RX 4 ?v4 rfl (by kernel_rfl) (by intro _ _ _ h;exact h) (by rfl) ?h4 ?r4
 case h4 =>
  intro w2 hx
  have e1:w2.cell? ⟨w.heap.size,1,none⟩=some (.int .i64 e):=((hS.trans (hx.more0.mono hS.size)).cell (p:=⟨w.heap.size,1,none⟩) hA).trans a1
  go_simp
  try rfl
 case' r4=>try simp only [Act.put,ed,df,di]
 refine RX 5 ?v5 rfl (by kernel_rfl) (by intro _ _ _ h;exact h) (by rfl) ?h5 ?r5
 case h5 =>
  intro w2 hx
  go_simp
  try rfl
 case' r5=>try simp only [Act.put,ed,df,di]
 refine RX 6 ?v6 rfl (by kernel_rfl) (by intro _ _ _ h;exact h) (by rfl) ?h6 ?r6
 case h6 =>
  intro w2 hx
  have hw2:=hw1
  go_simp
  try rfl
 case' r6=>try simp only [Act.put,ed,df,di]
 refine ArD 12 (fun g=>.pointer (some ⟨g,0,none⟩)) (.cells #[.bool false,.slice none 0 0,.int .i64 0] 43) W.heap.size rfl (by kernel_rfl) (by intro _ _ _ _ h;exact h) (by rfl) (by intro w2;go_simp;try rfl) hS.size (by intro b h;exact h.elim) ?_
 refine Akf 2 rfl (by kernel_rfl) (by rfl) ?_
 intro x1 hx K hK
 have hS1:=hS.trans (hx.mono hS.size)
 clear hS
 go_simp
 refine (Abm n hi1 hi2 x1 (HTW.out.below hS1 HTW.out.1)).mono ?_
 rintro e u1 ⟨v5,rfl,D5,hb⟩
 have hS:=hS1.trans (hb.mono hS1.size)
 obtain ⟨nb5,A5,L5,c5,rfl,_⟩:=D5.form
 refine hK.out _ _ (DI.growU hb) ?_
 clear hK K hx hS1 hb
 try simp only [Act.put,ed,df,di]
 refine Akf 7 rfl (by kernel_rfl) (by rfl) ?_
 intro x2 hx K hK
 have hS1:=hS.trans (hx.mono hS.size)
 clear hS
 replace D5:=(D5.below hx (aa _)).more hx.size
 go_simp
 refine (QL (n:=k) D5 (aa _) l5 (by omega) (HTW.out.below hS1 HTW.out.1)).mono ?_
 rintro e u2 ⟨v6,rfl,D6,hb⟩
 have hS:=hS1.trans (hb.mono hS1.size)
 replace D5:=(D5.below hb (aa _)).more hb.size
 obtain ⟨nb6,A6,L6,c6,rfl,_⟩:=D6.form
 clear D5
 refine hK.out _ _ (DI.growU hb) ?_
 clear hK K hx hS1 hb
 try simp only [Act.put,ed,df,di]
 refine Akf 8 rfl (by kernel_rfl) (by rfl) ?_
 intro x3 hx K hK
 have hS1:=hS.trans (hx.mono hS.size)
 clear hS
 replace D6:=(D6.below hx (aa _)).more hx.size
 go_simp
 refine (Zk (den:=0) D6 (aa _) l6 (by omega) (HTW.out.below hS1 HTW.out.1)).mono ?_
 rintro e u3 ⟨v7,rfl,D7,hb⟩
 have hS:=hS1.trans (hb.mono hS1.size)
 replace D6:=(D6.below hb (aa _)).more hb.size
 rw [hsv.out] at D7
 obtain ⟨nb7,A7,L7,c7,rfl,_⟩:=D7.form
 clear D6
 refine hK.out _ _ (DI.growU hb) ?_
 clear hK K hx hS1 hb
 try simp only [Act.put,ed,df,di]
 refine RX 9 ?v9 rfl (by kernel_rfl) (by intro _ _ _ h;exact h) (by rfl) ?h9 ?r9
 case h9 =>
  intro w2 hx
  go_simp
  try rfl
 case' r9=>try simp only [Act.put,ed,df,di]
 refine RX 10 ?v10 rfl (by kernel_rfl) (by intro _ _ _ h;exact h) (by rfl) ?h10 ?r10
 case h10 =>
  intro w2 hx
  go_simp
  try rfl
 case' r10=>try simp only [Act.put,ed,df,di]
 refine RX 11 ?v11 rfl (by kernel_rfl) (by intro _ _ _ h;exact h) (by rfl) ?h11 ?r11
 case h11 =>
  intro w2 hx
  go_simp
  try rfl
 case' r11=>try simp only [Act.put,ed,df,di]
 refine endE (by kernel_rfl) ?_
 intro u4 hx g hg hU hgo
 dsimp only [NN]
 have rg:Ca u4 g [.bool false,.slice none 0 0,.int .i64 0] 43:=hgo
 have hS4:=hS.trans (hx.mono hS.size)
 replace D7:=(D7.below hx (aa _)).more hx.size
 clear hx hS hU hgo
 have RG:=mo rg
 have HD7:=mo D7
 have HS4:=mo hS4
 have c0:u4.cell? ⟨g,0,none⟩=some (.bool false):=rg.cell 0
 have c1:u4.cell? ⟨g,1,none⟩=some (.slice none 0 0):=rg.cell 1
 have c2:u4.cell? ⟨g,2,none⟩=some (.int .i64 0):=rg.cell 2
 have cf:=rg.free
 have cg:=rg.lt
 clear rg D7 hS4 a0 a1
 go_wp2_with fail
 refine NoPanic.normal ?_
 go_wp2_with fail
 go_at_call 210
 obtain ⟨y,hy⟩:∃ q,q=(((u4.setCell ⟨g,0,none⟩ (.bool nb7)).setCell ⟨g,1,none⟩ (.slice A7 L7 c7)).setCell ⟨g,2,none⟩ (.int .i64 0)):=⟨_,rfl⟩
 have Dy:DyR y x3.heap.size y.heap.size (.agg #[.bool nb7,.slice A7 L7 c7,.int .i64 ((0:Nat):Int)]) x 0:=by rw [hy,AoI];exact HD7.out.set3H RG.out AoH AoH
 have hSy:Below W.heap.size W y:=by rw [hy];exact VR HS4.out hg _ _ _
 try rw [←hy]
 clear hy
 refine (Afz (m:=y.heap.size) Dy rfl (aa _) l7).mono ?_
 rintro e8 u8 ⟨rfl,hb8⟩
 have HF:=mo (bW.trans ((hSy.trans (hb8.mono hSy.size)).mono hWs))
 clear hb8 hSy Dy HS4 RG HD7 cf cg c0 c1 c2 hg
 by_cases h32 : -2147483648≤x∧x<2147483648
 ·have HV:=mo (Acn HOK.out (by rw [←HKK.out,←HX.out];exact h32))
  have h64:=OI (x:=x) (by omega)
  rw [h64.1,h64.2]
  have f1:decide (x < -2147483648)=false:=decide_eq_false (by omega)
  have f2:decide (2147483648≤x)=false:=decide_eq_false (by omega)
  clear h64
  clear h32
  go_wp2_with fail
  exact bodyPost_ret (v:=.tuple #[.int .i64 x,.nilIface]) (by simp [results,results117,go_sem]) rfl ⟨by rw [HV.out.1,HV.out.2,←HKK.out,←HX.out];rfl,HF.out⟩
 ·by_cases h64 : -9223372036854775808≤x∧x<9223372036854775808
  ·by_cases h7:x < -2147483648
   ·have HV:=mo (Sl HOK.out (by rw [←HKK.out,←HX.out];exact h32))
    have h6:=OI h64
    rw [h6.1,h6.2]
    have f1:decide (x < -2147483648)=true:=decide_eq_true h7
    clear h6 h64 h7
    exact AkO
   ·have HV:=mo (Sl HOK.out (by rw [←HKK.out,←HX.out];exact h32))
    have h6:=OI h64
    rw [h6.1,h6.2]
    have f1:decide (x < -2147483648)=false:=decide_eq_false h7
    have f2:decide (2147483648≤x)=true:=decide_eq_true (by omega)
    clear h6 h64 h7
    exact AkO
  ·have HV:=mo (Sl HOK.out (by rw [←HKK.out,←HX.out];exact h32))
   have h6:=Xl h64
   rw [h6.1,h6.2]
   clear h6 h64
   exact AkO
theorem Agj (n e f:Int) (w:World) (ht:An w) :
  Calls prog 117 #[.agg #[.int .i64 n,.int .i64 e],.int .i64 f] w fun r w'=>r=.returned (.tuple #[.int .i64 (Dq n e f),IV (BJ n e f)])∧Below w.heap.size w w':=by
 by_cases h:GS n e f
 ·exact AkP n e f w h ht
 ·exact AkN n e f w h
end Go.Proofs.YtmdfjbpggbhgnaaGreatDoor
