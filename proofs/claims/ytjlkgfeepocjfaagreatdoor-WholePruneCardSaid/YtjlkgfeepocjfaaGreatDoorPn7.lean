/- What the proofs of this claim share, part 7. No conditions. -/
import Derived.Test.YtjlkgfeepocjfaaGreatDoorPn6
import Derived.Maps.AppendAt
import Derived.Laws.AppendOwnNone
import Derived.Laws.MakeOwn
import Derived.Great.BuildSlice
import Derived.Deep.MidRow
set_option linter.all false
namespace Go.Proofs.YtjlkgfeepocjfaaGreatDoor
open Go.RowKit
variable {w w' w0:World} {v:Value} {N b0 id:Nat} {P:Program} {o:Oper} {l:List Oper} {a:Act} {c y:Code} {t:Bool} {fn:Func}
inductive D where
 | val (v:Value)
 | row (t:Bool) (s n:Nat) (cs:List D)
 | ptr (t:Bool) (cs:List D)
abbrev Dm:=Bool→Nat→Prop
def AP {α β:Type} (R:α→β→Prop) (aS:List α) (bs:List β):Prop:=aS.length=bs.length∧∀ (j:Nat) (a:α) (b:β),aS[j]?=some a→bs[j]?=some b→R a b
inductive Ba (w:World) (S:Dm):D→Value→Prop
 | val {v:Value} (h:v.oneCell'=true):Ba w S (.val v) v
 | row {t:Bool} {s n c:Nat} {cs:List D} {A:Option Addr} (xs:List Value) (hc:n≤c) (hA:A=none→c=0) (hl:cs.length=n*s) (hx:cs.length=xs.length)
   (hm:cs≠[]→∃ b off,A=some ⟨b,off,none⟩∧S t b∧∀ (j:Nat) (x:Value),xs[j]?=some x→w.cell? ⟨b,off+j,none⟩=some x)
   (hr:∀ (j:Nat) (u:D) (x:Value),cs[j]?=some u→xs[j]?=some x→Ba w S u x):Ba w S (.row t s n cs) (.slice A n c)
 | ptr {t:Bool} {cs:List D} {b off:Nat} (xs:List Value) (hx:cs.length=xs.length) (hb:S t b) (hm:∀ (j:Nat) (x:Value),xs[j]?=some x→w.cell? ⟨b,off+j,none⟩=some x)
   (hr:∀ (j:Nat) (u:D) (x:Value),cs[j]?=some u→xs[j]?=some x→Ba w S u x):Ba w S (.ptr t cs) (.pointer (some ⟨b,off,none⟩))
theorem Ba.one {S:Dm} {d:D} (h:Ba w S d v):v.oneCell'=true:=by
 cases h with
 | val h=>exact h
 | row=>rfl
 | ptr=>rfl
theorem VE {b o:Nat} (h:w'.heap[b]?=w.heap[b]?):w'.cell? ⟨b,o,none⟩=w.cell? ⟨b,o,none⟩:=World.cell?_of_block (a:=⟨b,o,none⟩) h
theorem Ba.mono {S S':Dm} (hS:∀ t b,S t b→S' t b) (hw:∀ t b,S t b→w'.heap[b]?=w.heap[b]?) {d:D} {v:Value} (h:Ba w S d v):Ba w' S' d v:=by
 induction h with
 | val h=>exact .val h
 | row xs hc hA hl hx hm _ ih =>
  refine .row xs hc hA hl hx (fun hne=>?_) ih
  obtain ⟨b,off,h1,h2,h3⟩:=hm hne
  exact ⟨b,off,h1,hS _ _ h2,fun j x hj=>(VE (hw _ _ h2)).trans (h3 j x hj)⟩
 | ptr xs hx hb hm _ ih=>exact .ptr xs hx (hS _ _ hb) (fun j x hj=>(VE (hw _ _ hb)).trans (hm j x hj)) ih
inductive Dn:D→Prop
 | val (v:Value):Dn (.val v)
 | row {s n:Nat} {cs:List D} (h:∀ d∈cs,Dn d):Dn (.row false s n cs)
theorem Ba.free {S S':Dm} (hS:∀ b,S false b→S' false b) {d:D} {v:Value} (h:Ba w S d v) (hf:Dn d):Ba w S' d v:=by
 induction h with
 | val h=>exact .val h
 | row xs hc hA hl hx hm _ ih =>
  cases hf with
  | row hf =>
   refine .row xs hc hA hl hx (fun hne=>?_) fun j u x hu hj=>ih j u x hu hj (hf u (gM hu))
   obtain ⟨b,off,h1,h2,h3⟩:=hm hne
   exact ⟨b,off,h1,hS _ h2,h3⟩
 | ptr=>cases hf
inductive C where
 | d (x:D)
 | own (id n:Nat)
 | ref (id off:Nat) (k:Option Nat)
 | clo (fn:Fn) (caps:List (Nat × Nat × Option Nat))
 | emp
inductive Ob where
 | box (t:TypeId) (cs:List C)
 | row (t:TypeId) (s n:Nat) (cs:List C)
 | dead
def Ob.k:Ob→Option (Option Nat)
 | .box _ _=>some none
 | .row _ _ n _=>some (some n)
 | .dead=>none
inductive Et where
 | box (g:Nat) (vs:List Value) (t:TypeId)
 | row (v:Value) (t:TypeId) (s n:Nat) (xs:List Value)
def Et.hv:Et→Value
 | .box g _ _=>.pointer (some ⟨g,0,none⟩)
 | .row v _ _ _ _=>v
def Et.own:Et→Option Nat
 | .box g _ _=>some g
 | .row v _ _ _ _=>v.ownBlock
def Et.at_ (w:World) (base:Nat):Et→Prop
 | .box g vs t=>base≤g∧w.heap[g]?=some (.cells vs.toArray t (0,0))
 | .row v t s n xs=>w.ownsRow base t s v n xs
def Nn:Value→Option Nat
 | .pointer (some a)=>some a.block
 | .slice (some a) _ _=>some a.block
 | _=>none
theorem Et.at_form {b:Nat} {e:Et} (h:e.at_ w b):e.own=Nn e.hv:=by
 cases e with
 | box g vs t=>rfl
 | row v t s n xs =>
  rcases h.2 with ⟨rfl,_⟩|⟨g,cap,cur,rfl,_⟩ <;> rfl
theorem Et.lt {base:Nat} {e:Et} (h:e.at_ w base) {g:Nat} (hg:e.own=some g):base≤g∧g<w.heap.size:=by
 cases e with
 | box b vs t =>
  have hb:b=g:=by simpa [Et.own] using hg
  subst hb
  exact ⟨h.1,(Array.getElem?_eq_some_iff.1 h.2).1⟩
 | row v t s n xs=>exact World.ownsRow.lt h g hg
theorem Et.same {base:Nat} {e:Et} (h:e.at_ w base) (hw:∀ g,e.own=some g→w'.heap[g]?=w.heap[g]?):e.at_ w' base:=by
 cases e with
 | box b vs t=>exact ⟨h.1,(hw b rfl).trans h.2⟩
 | row v t s n xs =>
  refine ⟨h.1,?_⟩
  rcases h.2 with hn|⟨g,cap,cur,rfl,hb,hg,rest⟩
  ·exact .inl hn
  ·exact .inr ⟨g,cap,cur,rfl,hb,(hw g rfl).trans hg,rest⟩
structure Mm where
 w:World
 S:Dm
 H:List Ob
 E:Nat→Option Et
def okK (k:Option Nat) (ob:Ob):Prop:=∀ n n',k=some n→ob.k=some (some n')→n≤n'
def VF (m:Mm) (id off:Nat) (k:Option Nat) (v:Value):Prop :=
 v.oneCell'=true∧∃ ob,m.H[id]?=some ob∧okK k ob∧(ob.k=some k→∃ e g,m.E id=some e∧Nn e.hv=some g∧v=.pointer (some ⟨g,off,none⟩))
def DP (m:Mm):C→Value→Prop
 | .d x,v=>Ba m.w m.S x v
 | .own id n,v=>v.oneCell'=true∧∃ ob,m.H[id]?=some ob∧okK (some n) ob∧(ob.k=some (some n)→∃ e,m.E id=some e∧v=e.hv)
 | .ref id off k,v=>VF m id off k v
 | .clo fn caps,v=>∃ vs:List Value,v=.func fn #[] vs.toArray∧AP (fun (p:Nat × Nat × Option Nat) v=>VF m p.1 p.2.1 p.2.2 v) caps vs
 | .emp,v=>∃ A:Option Addr,v=.slice A 0 0
theorem DP.one {m:Mm} {c:C} (h:DP m c v):v.oneCell'=true:=by
 cases c with
 | d x=>exact Ba.one h
 | own id n=>exact h.1
 | ref id off k=>exact h.1
 | clo fn caps=>obtain ⟨vs,rfl,_⟩:=h;rfl
 | emp=>obtain ⟨A,rfl⟩:=h;rfl
def Adp (m:Mm):Ob→Et→Prop
 | .box t cs,.box _ vs t'=>t'=t∧AP (DP m) cs vs
 | .row t s n cs,.row _ t' s' n' xs=>t'=t∧s'=s∧n'=n∧AP (DP m) cs xs
 | _,_=>False
def Adq (a b:Et):Prop:=∀ g,a.own=some g→b.own≠some g
structure Cx (b0:Nat) (m:Mm):Prop where
 each:∀ id e,m.E id=some e→e.at_ m.w b0∧∃ ob,m.H[id]?=some ob∧Adp m ob e
 apart:∀ i j e e',i≠j→m.E i=some e→m.E j=some e'→Adq e e'
 far:∀ id e g t,m.E id=some e→e.own=some g→¬ m.S t g
 lt:∀ t b,m.S t b→b<m.w.heap.size
def Np (m m':Mm) (id:Nat) (ob ob':Ob):Prop:=∀ k,ob'.k=some k→(ob.k=some k∧∀ e,m.E id=some e→∃ e',m'.E id=some e'∧e'.hv=e.hv)∨(∃ n n',k=some n'∧ob.k=some (some n)∧n<n')
structure Le (m m':Mm):Prop where
 S:∀ t b,m.S t b→m'.S t b
 T:m'.S true=m.S true
 heap:∀ t b,m.S t b→m'.w.heap[b]?=m.w.heap[b]?
 H:∀ (id:Nat) (ob:Ob),m.H[id]?=some ob→∃ ob',m'.H[id]?=some ob'∧Np m m' id ob ob'
theorem Np.same {m m':Mm} {ob:Ob} (h:∀ e,m.E id=some e→m'.E id=some e):Np m m' id ob ob:=fun k hk=>.inl ⟨hk,fun e he=>⟨e,h e he,rfl⟩⟩
theorem Le.refl (m:Mm):Le m m:=⟨fun _ _ h=>h,rfl,fun _ _ _=>rfl,fun _ ob h=>⟨ob,h,Np.same fun _ he=>he⟩⟩
theorem Le.trans {a b c:Mm} (h:Le a b) (k:Le b c):Le a c :=
 ⟨fun t x hx=>k.S t x (h.S t x hx),k.T.trans h.T,fun t x hx=>(k.heap t x (h.S t x hx)).trans (h.heap t x hx),fun id ob hob=>by
  obtain ⟨o1,h1,h2⟩:=h.H id ob hob
  obtain ⟨o2,h3,h4⟩:=k.H id o1 h1
  refine ⟨o2,h3,fun q hq=>?_⟩
  rcases h4 q hq with ⟨h5,h6⟩|⟨n,n',rfl,h5,h6⟩
  ·rcases h2 q h5 with ⟨h7,h8⟩|⟨n,n',rfl,h7,h8⟩
   ·refine .inl ⟨h7,fun e he=>?_⟩
    obtain ⟨e1,h9,h10⟩:=h8 e he
    obtain ⟨e2,h11,h12⟩:=h6 e1 h9
    exact ⟨e2,h11,h12.trans h10⟩
   ·exact .inr ⟨n,n',rfl,h7,h8⟩
  ·rcases h2 _ h5 with ⟨h7,_⟩|⟨p,p',h7,h8,h9⟩
   ·exact .inr ⟨n,n',rfl,h7,h6⟩
   ·cases h7
    exact .inr ⟨p,n',rfl,h8,by omega⟩⟩
theorem okK.newer {m m':Mm} {ob ob':Ob} (h:Np m m' id ob ob') {k:Option Nat} (hk:okK k ob):okK k ob':=fun n n' h1 h2=>by
 rcases h _ h2 with ⟨h3,_⟩|⟨p,p',h3,h4,h5⟩
 ·exact hk n n' h1 h3
 ·cases h3
  have:=hk n p h1 h4
  omega
theorem Np.old {m m':Mm} {ob ob':Ob} (h:Np m m' id ob ob') {k:Option Nat} (hk:okK k ob) (hv:ob'.k=some k):ob.k=some k∧∀ e,m.E id=some e→∃ e',m'.E id=some e'∧e'.hv=e.hv:=by
 rcases h _ hv with h3|⟨p,p',h3,h4,h5⟩
 ·exact h3
 ·subst h3
  have:=hk p' p rfl h4
  omega
theorem Ba.le {m m':Mm} (h:Le m m') {d:D} {v:Value} (hd:Ba m.w m.S d v):Ba m'.w m'.S d v:=hd.mono h.S h.heap
theorem VF.le {m m':Mm} (h:Le m m') {id off:Nat} {k:Option Nat} {v:Value} (hp:VF m id off k v):VF m' id off k v:=by
 obtain ⟨h0,ob,h1,hok,h2⟩:=hp
 obtain ⟨ob',h3,h4⟩:=h.H id ob h1
 refine ⟨h0,ob',h3,hok.newer h4,fun hk=>?_⟩
 obtain ⟨h5,h6⟩:=h4.old hok hk
 obtain ⟨e,g,h7,h8,h9⟩:=h2 h5
 obtain ⟨e',h10,h11⟩:=h6 e h7
 exact ⟨e',g,h10,by rw [h11];exact h8,h9⟩
theorem DP.le {m m':Mm} (h:Le m m') {c:C} {v:Value} (hc:DP m c v):DP m' c v:=by
 cases c with
 | d x=>exact Ba.le h hc
 | own id n =>
  obtain ⟨h0,ob,h1,hok,h2⟩:=hc
  obtain ⟨ob',h3,h4⟩:=h.H id ob h1
  refine ⟨h0,ob',h3,hok.newer h4,fun hk=>?_⟩
  obtain ⟨h5,h6⟩:=h4.old hok hk
  obtain ⟨e,h7,h8⟩:=h2 h5
  obtain ⟨e',h10,h11⟩:=h6 e h7
  exact ⟨e',h10,by rw [h11];exact h8⟩
 | ref id off k=>exact VF.le h hc
 | clo fn caps =>
  obtain ⟨vs,h1,h2,h3⟩:=hc
  exact ⟨vs,h1,h2,fun j p v hp hv=>VF.le h (h3 j p v hp hv)⟩
 | emp=>exact hc
theorem AP.imp {α β:Type} {R R':α→β→Prop} (h:∀ a b,R a b→R' a b) {aS:List α} {bs:List β} (hl:AP R aS bs):AP R' aS bs:=⟨hl.1,fun j a b ha hb=>h a b (hl.2 j a b ha hb)⟩
theorem AP.nil_ {α β:Type} {R:α→β→Prop}:AP R [] []:=⟨rfl,fun j a b h=>by simp at h⟩
theorem AP.cons_ {α β:Type} {R:α→β→Prop} {a:α} {b:β} {aS:List α} {bs:List β} (h:R a b) (hl:AP R aS bs):AP R (a::aS) (b::bs) :=
 ⟨by simp [hl.1],fun j x y hx hy=>by
  rcases j with _|j
  ·simp at hx hy;subst hx;subst hy;exact h
  ·exact hl.2 j x y (by simpa using hx) (by simpa using hy)⟩
theorem AP.uncons {α β:Type} {R:α→β→Prop} {a:α} {aS:List α} {bs:List β} (h:AP R (a::aS) bs):∃ b bs',bs=b::bs'∧R a b∧AP R aS bs':=by
 rcases bs with _|⟨b,bs⟩
 ·have:=h.1;simp at this
 ·exact ⟨b,bs,rfl,h.2 0 a b rfl rfl,by have:=h.1;simpa using this,fun j x y hx hy=>h.2 (j+1) x y (by simpa using hx) (by simpa using hy)⟩
theorem AP.unnil {α β:Type} {R:α→β→Prop} {bs:List β} (h:AP R ([]:List α) bs):bs=[]:=by
 have:=h.1
 exact bj (by simpa using this.symm)
theorem AP.app {α β:Type} {R:α→β→Prop} {aS aS':List α} {bs bs':List β} (h:AP R aS bs) (h':AP R aS' bs'):AP R (aS++aS') (bs++bs'):=by
 induction aS generalizing bs with
 | nil=>rw [h.unnil];exact h'
 | cons a aS ih =>
  obtain ⟨b,bs',rfl,h1,h2⟩:=h.uncons
  exact AP.cons_ h1 (ih h2)
theorem AP.take_ {α β:Type} {R:α→β→Prop} {aS:List α} {bs:List β} (h:AP R aS bs) (n:Nat):AP R (aS.take n) (bs.take n) :=
 ⟨by simp [h.1],fun j a b ha hb=>by
  rw [bq] at ha hb
  split at ha
  ·rw [if_pos (by assumption)] at hb;exact h.2 j a b ha hb
  ·cases ha⟩
theorem AP.drop_ {α β:Type} {R:α→β→Prop} {aS:List α} {bs:List β} (h:AP R aS bs) (n:Nat):AP R (aS.drop n) (bs.drop n) :=
 ⟨by simp [h.1],fun j a b ha hb=>by
  rw [cn] at ha hb
  exact h.2 _ a b ha hb⟩
theorem AP.set_ {α β:Type} {R:α→β→Prop} {aS:List α} {bs:List β} (h:AP R aS bs) (i:Nat) {a:α} {b:β} (hab:R a b):AP R (aS.set i a) (bs.set i b) :=
 ⟨by simp [h.1],fun j x y hx hy=>by
  rw [bu] at hx hy
  by_cases hij:i=j
  ·rw [if_pos hij] at hx hy
   split at hx
   ·rw [if_pos (by have:=h.1;omega)] at hy
    cases hx;cases hy;exact hab
   ·cases hx
  ·rw [if_neg hij] at hx hy
   exact h.2 j x y hx hy⟩
theorem AP.at_ {α β:Type} {R:α→β→Prop} {aS:List α} {bs:List β} (h:AP R aS bs) {j:Nat} {a:α} (ha:aS[j]?=some a):∃ b,bs[j]?=some b∧R a b:=by
 have hj:=(gS.1 ha).1
 have hb:bs[j]?=some (bs[j]'(by rw [←h.1];exact hj)):=gE _
 exact ⟨_,hb,h.2 j a _ ha hb⟩
theorem AP.map_l {α β γ:Type} {R:α→β→Prop} {f:γ→α} {cs:List γ} {bs:List β}:AP R (cs.map f) bs ↔ AP (fun c b=>R (f c) b) cs bs:=by
 unfold AP
 simp only [ad,ag,dg]
 refine and_congr_right fun _=>⟨fun h j a b ha hb=>h j _ b ⟨a,ha,rfl⟩ hb,fun h j a b ha hb=>?_⟩
 obtain ⟨c,hc,rfl⟩:=ha
 exact h j c b hc hb
theorem Adp.le {m m':Mm} (h:Le m m') {ob:Ob} {e:Et} (he:Adp m ob e):Adp m' ob e:=by
 cases ob <;> cases e <;> simp only [Adp] at he ⊢
 ·exact ⟨he.1,he.2.imp fun _ _=>DP.le h⟩
 ·exact ⟨he.1,he.2.1,he.2.2.1,he.2.2.2.imp fun _ _=>DP.le h⟩
inductive A where
 | one (d:D)
 | agg (ds:List D)
def EA (w:World) (S:Dm):A→Value→Prop
 | .one d,v=>Ba w S d v
 | .agg ds,v=>∃ xs:List Value,v=.agg xs.toArray∧AP (Ba w S) ds xs
inductive TC where
 | one (c:C)
 | agg (cs:List C)
def Aqm (m:Mm):TC→Value→Prop
 | .one c,v=>DP m c v
 | .agg cs,v=>∃ xs:List Value,v=.agg xs.toArray∧AP (DP m) cs xs
theorem Aqm.le {m m':Mm} (h:Le m m') {x:TC} {v:Value} (hx:Aqm m x v):Aqm m' x v:=by
 cases x with
 | one c=>exact DP.le h hx
 | agg cs =>
  obtain ⟨xs,h1,h2⟩:=hx
  exact ⟨xs,h1,h2.imp fun _ _=>DP.le h⟩
inductive X where
 | one (c:C)
 | agg (cs:List C)
 | tup (l:List A)
 | any
 | pin (l:List (Nat × Nat))
 | tupC (l:List TC)
def Ey (m:Mm):X→Value→Prop
 | .one c,v=>DP m c v
 | .agg cs,v=>∃ xs:List Value,v=.agg xs.toArray∧AP (DP m) cs xs
 | .tup l,v=>∃ vs:List Value,v=.tuple vs.toArray∧AP (EA m.w m.S) l vs
 | .any,_=>True
 | .pin l,_=>∀ p∈l,VF m p.1 0 none (.pointer (some ⟨p.2,0,none⟩))
 | .tupC l,v=>∃ vs:List Value,v=.tuple vs.toArray∧AP (Aqm m) l vs
theorem EA.mono {S S':Dm} (hS:∀ t b,S t b→S' t b) (hw:∀ t b,S t b→w'.heap[b]?=w.heap[b]?) {x:A} {v:Value} (h:EA w S x v):EA w' S' x v:=by
 cases x with
 | one d=>exact Ba.mono hS hw h
 | agg ds =>
  obtain ⟨xs,h1,h2⟩:=h
  exact ⟨xs,h1,h2.imp fun _ _=>Ba.mono hS hw⟩
theorem Ey.le {m m':Mm} (h:Le m m') {x:X} {v:Value} (hx:Ey m x v):Ey m' x v:=by
 cases x with
 | one c=>exact DP.le h hx
 | agg cs =>
  obtain ⟨xs,h1,h2⟩:=hx
  exact ⟨xs,h1,h2.imp fun _ _=>DP.le h⟩
 | tup l =>
  obtain ⟨xs,h1,h2⟩:=hx
  exact ⟨xs,h1,h2.imp fun _ _=>EA.mono h.S h.heap⟩
 | any=>trivial
 | pin l=>exact fun p hp=>VF.le h (hx p hp)
 | tupC l =>
  obtain ⟨xs,h1,h2⟩:=hx
  exact ⟨xs,h1,h2.imp fun _ _=>Aqm.le h⟩
abbrev Frm:=Nat→X
def Frm.put (F:Frm) (dst:Option Tmp) (x:X):Frm:=match dst with
 | some d=>fun t=>match Nat.beq t d with|true=>x|false=>F t
 | none=>F
def Tot (m:Mm):Prop:=∀ (id:Nat) (ob:Ob),m.H[id]?=some ob→ob.k.isSome=true→(m.E id).isSome=true
def Ahe (S:Dm) (w w':World):Dm:=fun t b=>t=false∧(S false b∨(w.heap.size≤b∧b<w'.heap.size))
def Ahf (w:World) (S:Dm):List A→Value→Prop
 | [a],v=>EA w S a v
 | l,v=>∃ vs:List Value,v=.tuple vs.toArray∧AP (EA w S) l vs
def CV (P:Program) (G:World→Prop) (f:FuncId) (args res:List A):Prop :=
 ∀ (w:World) (S:Dm) (vs:List Value),G w→(∀ t b,S t b→b<w.heap.size)→AP (EA w S) args vs →
  Calls P f vs.toArray w fun e w'=>∃ v,e=.returned v∧Ahf w' (Ahe S w w') res v∧Below w.heap.size w w'
def Mm.plus (m:Mm) (w':World) (n:Nat) (es:List Et):Mm :=
 ⟨w',fun t b=>m.S t b∨(t=false∧m.w.heap.size≤b∧b<w'.heap.size∧∀ e∈es,e.own≠some b),m.H,fun id=>if n≤id∧id<n+es.length then es[id - n]? else m.E id⟩
structure Amk (b0:Nat) (m:Mm) (n:Nat) (obs:List Ob) (w':World) (es:List Et):Prop where
 len:es.length=obs.length
 below:Below m.w.heap.size m.w w'
 each:∀ (k:Nat) (e:Et),es[k]?=some e→e.at_ w' b0∧(∀ g,e.own=some g→m.w.heap.size≤g)∧∃ ob,obs[k]?=some ob∧Adp (m.plus w' n es) ob e
 apart:es.Pairwise Adq
theorem GL {m:Mm} {n:Nat} {es:List Et} (hb:Below m.w.heap.size m.w w') (hlt:∀ t b,m.S t b→b<m.w.heap.size) (hE:∀ k,k<es.length→m.E (n+k)=none):Le m (m.plus w' n es):=by
 refine ⟨fun _ _ h=>.inl h,funext fun b=>propext ⟨fun h=>h.elim (fun h=>h) (fun h=>by cases h.1),fun h=>.inl h⟩,fun t b h=>hb.block b (hlt t b h),fun id ob h=>⟨ob,h,Np.same fun e he=>?_⟩⟩
 show (if n≤id∧id<n+es.length then es[id - n]? else m.E id)=some e
 rw [if_neg]
 ·exact he
 ·rintro ⟨h1,h2⟩
  have:=hE (id - n) (by omega)
  rw [show n+(id - n)=id by omega,he] at this
  cases this
theorem Cx.plus {m:Mm} (hx:Cx b0 m) {w':World} {n:Nat} {obs:List Ob} {es:List Et} (hn:Amk b0 m n obs w' es) (hp:∀ (k:Nat) (ob:Ob),obs[k]?=some ob→m.H[n+k]?=some ob) (hE:∀ k,k<es.length→m.E (n+k)=none):Cx b0 (m.plus w' n es):=by
 have hle:=GL hn.below hx.lt hE (n:=n) (es:=es)
 have old:∀ id e,m.E id=some e→e.at_ w' b0:=fun id e he=>Et.same (hx.each id e he).1 fun g hg=>hn.below.block g (Et.lt (hx.each id e he).1 hg).2
 have get:∀ id e,(m.plus w' n es).E id=some e→(∃ k,id=n+k∧es[k]?=some e)∨(m.E id=some e∧¬ (n≤id∧id<n+es.length)):=fun id e he=>by
  have he':(if n≤id∧id<n+es.length then es[id - n]? else m.E id)=some e:=he
  split at he'
  ·rename_i h
   exact .inl ⟨id - n,by omega,he'⟩
  ·rename_i h
   exact .inr ⟨he',h⟩
 refine ⟨fun id e he=>?_,fun i j e e' hij hi hj g h1 h2=>?_,fun id e g t he hg hs=>?_,fun t b h=>?_⟩
 ·rcases get id e he with ⟨k,rfl,hk⟩|⟨h,_⟩
  ·obtain ⟨h1,h2,ob,h3,h4⟩:=hn.each k e hk
   exact ⟨h1,ob,hp k ob h3,h4⟩
  ·obtain ⟨ob,h1,h2⟩:=(hx.each id e h).2
   exact ⟨old id e h,ob,h1,h2.le hle⟩
 ·rcases get i e hi with ⟨k,rfl,hk⟩|⟨h,_⟩
  ·rcases get j e' hj with ⟨k',rfl,hk'⟩|⟨h',_⟩
   ·obtain ⟨q1,rfl⟩:=gS.1 hk
    obtain ⟨q2,rfl⟩:=gS.1 hk'
    have hp:=List.pairwise_iff_getElem.1 hn.apart
    rcases Nat.lt_or_gt_of_ne (show k≠k' by omega) with hlt|hlt
    ·exact hp k k' q1 q2 hlt g h1 h2
    ·exact hp k' k q2 q1 hlt g h2 h1
   ·have a1:=(hn.each k e hk).2.1 g h1
    have a2:=(Et.lt (hx.each j e' h').1 h2).2
    omega
  ·rcases get j e' hj with ⟨k',rfl,hk'⟩|⟨h',_⟩
   ·have a1:=(hn.each k' e' hk').2.1 g h2
    have a2:=(Et.lt (hx.each i e h).1 h1).2
    omega
   ·exact hx.apart i j e e' hij h h' g h1 h2
 ·rcases get id e he with ⟨k,rfl,hk⟩|⟨h,_⟩
  ·rcases hs with hs|⟨_,_,_,h4⟩
   ·have a1:=(hn.each k e hk).2.1 g hg
    have a2:=hx.lt t g hs
    omega
   ·exact h4 e (gM hk) hg
  ·rcases hs with hs|⟨_,h2,_,_⟩
   ·exact hx.far id e g t h hg hs
   ·have:=(Et.lt (hx.each id e h).1 hg).2
    omega
 ·rcases h with h|⟨_,_,h,_⟩
  ·exact au (hx.lt t b h) hn.below.size
  ·exact h
def Aml (m:Mm) (F:Frm) (a:Act) (o:Oper):Prop:=∀ t,Operand.tmp t∈o.op.operands.toList→Ey m (F t) (a.tmps.getD t undef)
def AU (P:Program) (G:World→Prop) (o:Oper) (F:Frm) (H:List Ob) (x:X) (obs:List Ob):Prop :=
 ∀ (b0:Nat) (m:Mm) (a:Act),(H++obs) <+: m.H→Cx b0 m→G m.w→b0≤m.w.heap.size→(∀ k,k<obs.length→m.E (H.length+k)=none)→Aml m F a o →
  ∀ (K:Act→World→Prop) (Q:Exit→Act→World→Prop),(∀ v w' es,Amk b0 m H.length obs w' es→Ey (m.plus w' H.length es) x v→K (a.put o.dst v) w')→o.wp P a m.w K Q
def TOk (P:Program) (G:World→Prop) (o:Oper) (F:Frm) (H:List Ob) (x:X) (H2:List Ob):Prop :=
 ∀ (b0:Nat) (m:Mm) (a:Act),m.H=H→Cx b0 m→Tot m→G m.w→b0≤m.w.heap.size→Aml m F a o →
  ∀ (K:Act→World→Prop) (Q:Exit→Act→World→Prop),(∀ v m',m'.H=H2→Cx b0 m'→Tot m'→Le m m'→Below b0 m.w m'.w→(∀ b,m'.S false b→m.S false b∨b0≤b)→Ey m' x v→K (a.put o.dst v) m'.w)→o.wp P a m.w K Q
theorem getElem?_pre {α:Type} {a b:List α} (h:a <+: b) {i:Nat} {x:α} (hi:a[i]?=some x):b[i]?=some x:=by
 obtain ⟨c,rfl⟩:=h
 rw [dk (gS.1 hi).1]
 exact hi
theorem XS (m:Mm) (obs:List Ob):Le m { m with H:=m.H++obs } :=
 ⟨fun _ _ h=>h,rfl,fun _ _ _=>rfl,fun id ob h=>⟨ob,by rw [dk (gS.1 h).1];exact h,Np.same fun _ he=>he⟩⟩
theorem Cx.more {m:Mm} (hx:Cx b0 m) (obs:List Ob):Cx b0 { m with H:=m.H++obs } :=
 ⟨fun id e he=>by
  obtain ⟨h1,ob,h2,h3⟩:=hx.each id e he
  exact ⟨h1,ob,by rw [dk (gS.1 h2).1];exact h2,h3.le (XS m obs)⟩,hx.apart,hx.far,hx.lt⟩
theorem Adr {m:Mm} (hx:Cx b0 m) {id:Nat} (h:m.H.length≤id):m.E id=none:=by
 cases he:m.E id with
 | none=>rfl
 | some e =>
  obtain ⟨_,ob,h2,_⟩:=hx.each id e he
  have:=(gS.1 h2).1
  omega
theorem AU.tok {G:World→Prop} {F:Frm} {H:List Ob} {x:X} {obs:List Ob} (h:AU P G o F H x obs):TOk P G o F H x (H++obs):=by
 intro b0 m a hH hx ht hg hb hor K Q hK
 subst hH
 have hle:=XS m obs
 refine h b0 { m with H:=m.H++obs } a (iy _) (hx.more obs) hg hb (fun k hk=>Adr hx (by omega)) (fun t hi=>(hor t hi).le hle) K Q fun v w' es hn hv=>?_
 have hE:∀ k,k<es.length→({ m with H:=m.H++obs }:Mm).E (m.H.length+k)=none:=fun k hk=>Adr hx (by omega)
 refine hK v _ rfl ((hx.more obs).plus hn (fun k ob hk=>?_) hE) (fun id ob hob hk=>?_) (hle.trans (GL hn.below hx.lt hE)) (hn.below.mono hb) (fun b hb'=>?_) hv
 ·show (m.H++obs)[m.H.length+k]?=some ob
  rw [dt (by omega),show m.H.length+k - m.H.length=k by omega]
  exact hk
 ·have hob':(m.H++obs)[id]?=some ob:=hob
  show (if m.H.length≤id∧id<m.H.length+es.length then es[id - m.H.length]? else m.E id).isSome=true
  by_cases hlt:id<m.H.length
  ·rw [if_neg (by omega)]
   rw [dk hlt] at hob'
   exact ht id ob hob' hk
  ·have hl:=(gS.1 hob').1
   rw [aq] at hl
   have:=hn.len
   rw [if_pos (by omega),gE (by omega)]
   rfl
 ·rcases hb' with h1|⟨_,h2,_⟩
  ·exact .inl h1
  ·exact .inr (lT hb h2)
def Cu (ops:Array Oper) (o:Oper) (F:Frm) (b:Bool):Prop:=match o.guard with
 | none=>b=true
 | some (j,want)=>∃ oj t,ops[j]?=some oj∧oj.dst=some t∧((∃ bb,F t=.one (.d (.val (.bool bb)))∧b=(bb == want))∨(F t=.tup []∧b=false))
theorem Cu.is {ops:Array Oper} {F:Frm} {b:Bool} (h:Cu ops o F b) {m:Mm} {tmps:Array Value} (hr:∀ t∈o.looksAt ops,Ey m (F t) (tmps.getD t undef)):Region.wanted o (yielded ops tmps)=b:=by
 unfold Cu at h
 unfold Region.wanted
 cases hg:o.guard with
 | none=>rw [hg] at h;exact h.symm
 | some p =>
  obtain ⟨j,want⟩:=p
  rw [hg] at h
  obtain ⟨oj,t,h1,h2,h3⟩:=h
  have ht:t∈o.looksAt ops:=by
   unfold Oper.looksAt
   rw [hg]
   simp [h1,h2]
  have hx:=hr t ht
  rcases h3 with ⟨bb,h3,rfl⟩|⟨h3,rfl⟩
  rotate_left
  ·rw [h3] at hx
   obtain ⟨xs,hv,hl⟩:=hx
   rw [hl.unnil] at hv
   have hy:yielded ops tmps j=none:=by
    unfold yielded
    simp only [h1,h2,Option.bind_some]
    rw [ig] at hv
    cases hc:tmps[t]? with
    | none=>rfl
    | some u=>rw [hc] at hv;simp only [bg] at hv;subst hv;rfl
   show (yielded ops tmps j == some want)=false
   rw [hy]
   rfl
  rw [h3] at hx
  have hv:tmps.getD t undef=.bool bb:=by
   have hx':Ba m.w m.S (.val (.bool bb)) (tmps.getD t undef):=hx
   generalize tmps.getD t undef=u at hx'
   cases hx'
   rfl
  have hy:yielded ops tmps j=some bb:=by
   unfold yielded
   simp only [h1,h2,Option.bind_some]
   rw [ig] at hv
   cases hc:tmps[t]? with
   | none=>rw [hc] at hv;cases hv
   | some u=>rw [hc] at hv;simp only [bg] at hv;subst hv;rfl
  show (yielded ops tmps j == some want)=(bb == want)
  rw [hy]
  cases bb <;> cases want <;> rfl
section
variable (P:Program) (G:World→Prop) (ops:Array Oper)
def Ch:List Oper→Frm→List Ob→(Frm→List Ob→Prop)→Prop
 | [],F,H,K=>K F H
 | o::l,F,H,K=>(Cu ops o F false∧Ch l (F.put o.dst (.tup [])) H K)∨(Cu ops o F true∧∃ x obs,AU P G o F H x obs∧Ch l (F.put o.dst x) (H++obs) K)
def Ti:List Oper→Frm→List Ob→(Frm→List Ob→Prop)→Prop
 | [],F,H,K=>K F H
 | o::l,F,H,K=>(Cu ops o F false∧Ti l (F.put o.dst (.tup [])) H K)∨(Cu ops o F true∧∃ x H2,TOk P G o F H x H2∧Ti l (F.put o.dst x) H2 K)
end
section
variable {P:Program} {G:World→Prop} {ops:Array Oper}
theorem Amm {F:Frm} {H:List Ob} {K:Frm→List Ob→Prop} {x:X} {obs:List Ob} (hg:o.guard=none) (h:AU P G o F H x obs) (k:Ch P G ops l (F.put o.dst x) (H++obs) K):Ch P G ops (o::l) F H K :=
 .inr ⟨by unfold Cu;rw [hg],x,obs,h,k⟩
theorem Ahs {F:Frm} {H:List Ob} {K:Frm→List Ob→Prop} {x:X} (hg:o.guard=none) (h:AU P G o F H x []) (k:Ch P G ops l (F.put o.dst x) H K):Ch P G ops (o::l) F H K :=
 .inr ⟨by unfold Cu;rw [hg],x,[],h,by rw [av];exact k⟩
theorem TD {F:Frm} {H H2:List Ob} {K:Frm→List Ob→Prop} {x:X} (hg:o.guard=none) (h:TOk P G o F H x H2) (k:Ti P G ops l (F.put o.dst x) H2 K):Ti P G ops (o::l) F H K :=
 .inr ⟨by unfold Cu;rw [hg],x,H2,h,k⟩
theorem Aqn {F:Frm} {H:List Ob} {K:Frm→List Ob→Prop} {x:X} {obs:List Ob} (hg:o.guard=none) (h:AU P G o F H x obs) (k:Ti P G ops l (F.put o.dst x) (H++obs) K):Ti P G ops (o::l) F H K :=
 TD hg h.tok k
theorem Aqo {F:Frm} {H:List Ob} {K:Frm→List Ob→Prop} {x:X} (hg:o.guard=none) (h:AU P G o F H x []) (k:Ti P G ops l (F.put o.dst x) H K):Ti P G ops (o::l) F H K:=by
 have:=h.tok
 rw [av] at this
 exact TD hg this k
theorem Ch.seq:∀ {l:List Oper} {F:Frm} {H:List Ob} {K:Frm→List Ob→Prop},Ch P G ops l F H K →
  ∃ (Fs:Nat→Frm) (Hs:Nat→List Ob) (xs:Nat→X) (obs:Nat→List Ob),Fs 0=F∧Hs 0=H∧K (Fs l.length) (Hs l.length)∧∀ (i:Nat) (o:Oper),l[i]?=some o→Hs (i+1)=Hs i++obs i∧Fs (i+1)=(Fs i).put o.dst (xs i) ∧
   ((Cu ops o (Fs i) false∧xs i=.tup []∧obs i=[])∨(Cu ops o (Fs i) true∧AU P G o (Fs i) (Hs i) (xs i) (obs i)))
 | [],F,H,K,h=>⟨fun _=>F,fun _=>H,fun _=>.any,fun _=>[],rfl,rfl,h,fun i o hi=>by simp at hi⟩
 | o::l,F,H,K,h=>by
  have key:∃ x obs,((Cu ops o F false∧x=.tup []∧obs=[])∨(Cu ops o F true∧AU P G o F H x obs))∧Ch P G ops l (F.put o.dst x) (H++obs) K:=by
   rcases h with ⟨h1,h2⟩|⟨h1,x,obs,h2,h3⟩
   ·exact ⟨.tup [],[],.inl ⟨h1,rfl,rfl⟩,by rw [av];exact h2⟩
   ·exact ⟨x,obs,.inr ⟨h1,h2⟩,h3⟩
  obtain ⟨x,ob,hx,hc⟩:=key
  obtain ⟨Fs,Hs,xs,obs,h1,h2,h3,h4⟩:=Ch.seq hc
  refine ⟨fun i=>match i with|0=>F|i+1=>Fs i,fun i=>match i with|0=>H|i+1=>Hs i,fun i=>match i with|0=>x|i+1=>xs i,fun i=>match i with|0=>ob|i+1=>obs i,rfl,rfl,by simpa using h3,fun i o' hi=>?_⟩
  rcases i with _|i
  ·simp only [eb,Option.some.injEq] at hi
   subst hi
   exact ⟨h2,h1,hx⟩
  ·simp only [fi] at hi
   exact h4 i o' hi
structure SD where
 S:Dm
 ds:List Deferred
instance:CoeFun SD fun _=>Bool→Nat→Prop:=⟨SD.S⟩
structure St (b0 N:Nat) (w0:World) (S0:SD) (F:Frm) (a:Act) (m:Mm):Prop where
 cx:Cx b0 m
 tot:Tot m
 frame:∀ t,Ey m (F t) (a.tmps.getD t undef)
 size:a.tmps.size=N
 defers:a.defers=S0.ds
 below:Below b0 w0 m.w
 base:b0≤w0.heap.size
 S:∀ b,m.S false b→S0 false b∨b0≤b
 T:m.S true=S0 true
theorem DB (a:Act) (dst:Option Tmp) (v:Value):(a.put dst v).tmps.size=a.tmps.size:=by cases dst <;> simp [Act.put]
theorem IH {dst:Option Tmp} (hN:a.tmps.size=N) (hd:∀ d,dst=some d→d<N) (t:Nat):(a.put dst v).tmps.getD t undef=if dst=some t then v else a.tmps.getD t undef:=by
 cases dst with
 | none=>simp [Act.put]
 | some d =>
  have hlt:=hd d rfl
  simp only [Act.put,ig,Array.getElem?_setIfInBounds,Option.some.injEq]
  by_cases h:d=t
  ·subst h
   rw [if_pos rfl,if_pos (show d<a.tmps.size by rw [hN];exact hlt),if_pos rfl]
   rfl
  ·rw [if_neg h,if_neg h]
theorem EH (F:Frm) (dst:Option Tmp) (x:X) (t:Nat):F.put dst x t=if dst=some t then x else F t:=by
 cases dst with
 | none=>simp [Frm.put]
 | some d =>
  simp only [Frm.put,Option.some.injEq]
  by_cases h:t=d
  ·subst h
   rw [if_pos rfl,en]
  ·rw [if_neg (fun e=>h e.symm),show Nat.beq t d=false from by
    cases hb:Nat.beq t d with
    | false=>rfl
    | true=>exact absurd (di hb) h]
theorem Hq {m m':Mm} {F:Frm} {dst:Option Tmp} {x:X} (hN:a.tmps.size=N) (hd:∀ d,dst=some d→d<N) (hle:Le m m') (hf:∀ t,Ey m (F t) (a.tmps.getD t undef)) (hx:Ey m' x v) (t:Nat) :
  Ey m' (F.put dst x t) ((a.put dst v).tmps.getD t undef):=by
 rw [EH,IH hN hd]
 split
 ·exact hx
 ·exact (hf t).le hle
def Mk (N:Nat) (l:List Oper):Bool:=l.all fun o=>match o.dst with|none=>true|some d=>decide (d<N)
theorem Nq (h:Mk N l=true) {o:Oper} (ho:o∈l):∀ d,o.dst=some d→d<N:=fun d hd=>by
 have:=List.all_eq_true.1 h o ho
 rw [hd] at this
 simpa using this
theorem Cg (a:Act) (dst:Option Tmp) (v:Value):(a.put dst v).defers=a.defers:=by cases dst <;> rfl
theorem Hr {t:Nat} (h:Operand.tmp t∈o.op.operands.toList):t∈o.looksAt ops:=by
 unfold Oper.looksAt
 refine List.mem_append.2 (.inl (List.mem_filterMap.2 ⟨_,h,rfl⟩))
theorem XT {b0 N:Nat} {w0:World} {S0:SD} (hG:∀ w',Below b0 w0 w'→G w') {Q:Exit→Act→World→Prop} :
  ∀ (l:List Oper) (F:Frm) (a:Act) (m:Mm) (K:Frm→List Ob→Prop),Mk N l=true→St b0 N w0 S0 F a m→Ti P G ops l F m.H K→(∀ F' a' m',St b0 N w0 S0 F' a' m'→K F' m'.H→Q .normal a' m'.w)→wpList P ops Q l a m.w
 | [],F,a,m,K,_,hs,h,hq=>hq F a m hs h
 | o::l,F,a,m,K,hd,hs,h,hq=>by
  have hd0:=Nq hd (o:=o) (by simp)
  have hd1:Mk N l=true:=by
   unfold Mk at hd ⊢
   simp only [ii,aj] at hd
   exact hd.2
  unfold wpList
  rcases h with ⟨hw,h⟩|⟨hw,x,H2,hok,h⟩
  ·rw [if_neg (by rw [hw.is (m:=m) (tmps:=a.tmps) fun t _=>hs.frame t];simp)]
   exact XT hG l _ _ m K hd1 ⟨hs.cx,hs.tot,Hq (x:=.tup []) hs.size hd0 (Le.refl m) hs.frame ⟨[],rfl,.nil_⟩,by rw [DB];exact hs.size,by rw [Cg];exact hs.defers,hs.below,hs.base,hs.S,hs.T⟩ h hq
  ·rw [if_pos (hw.is (m:=m) (tmps:=a.tmps) fun t _=>hs.frame t)]
   refine .inl (hok b0 m a rfl hs.cx hs.tot (hG _ hs.below) (lT hs.base hs.below.size) (fun t _=>hs.frame t) _ _ fun v m' hH hx ht hle hb hS hv=>?_)
   subst hH
   exact XT hG l _ _ m' K hd1 ⟨hx,ht,Hq hs.size hd0 hle hs.frame hv,by rw [DB];exact hs.size,by rw [Cg];exact hs.defers,hs.below.trans hb,hs.base,fun b hb'=>(hS b hb').elim (hs.S b) .inr,hle.T.trans hs.T⟩ h hq
def OO (md:Region.Mode) (ops:Array Oper):Bool:=(List.range ops.size).all fun i=>match ops[i]? with
 | none=>true
 | some oi=>(oi.after.all fun e=>!Region.binds md e || decide (e.on<i)) && (List.range ops.size).all fun j=>match ops[j]? with
  | none=>true
  | some oj=>match oj.dst with
   | none=>true
   | some t=>(!(oi.looksAt ops).contains t || (decide (j<i) && oi.after.any fun e=>Region.binds md e && decide (e.on=j))) && (decide (i=j) || oi.dst != some t)
theorem Cj {md:Region.Mode} (h:OO md ops=true) {i:Nat} {oi:Oper} (hi:ops[i]?=some oi) :
  (∀ e∈oi.after,Region.binds md e=true→e.on<i)∧∀ j oj t,ops[j]?=some oj→oj.dst=some t→(t∈oi.looksAt ops→j<i∧∃ e∈oi.after,Region.binds md e=true∧e.on=j)∧(i≠j→oi.dst≠some t):=by
 have h1:=List.all_eq_true.1 h i (List.mem_range.2 (Array.getElem?_eq_some_iff.1 hi).1)
 simp only [hi,aj] at h1
 refine ⟨fun e he hb=>?_,fun j oj t hj ht=>?_⟩
 ·have:=Array.all_eq_true_iff_forall_mem.1 h1.1 e he
  simpa [hb] using this
 ·have h2:=List.all_eq_true.1 h1.2 j (List.mem_range.2 (Array.getElem?_eq_some_iff.1 hj).1)
  simp only [hj,ht,aj] at h2
  refine ⟨fun hm=>?_,fun hne=>?_⟩
  ·have h3:=h2.1
   simp only [de,lh,List.contains_eq_mem,decide_eq_false_iff_not,hm,not_true_eq_false,false_or,aj,decide_eq_true_eq,jw] at h3
   obtain ⟨h4,e,h5,h6,h7⟩:=h3
   exact ⟨h4,e,h5,h6,h7⟩
  ·have h3:=h2.2
   simp only [de,decide_eq_true_eq,hne,false_or,bne_iff_ne,ne_eq] at h3
   exact h3
def Abs (listed:Array Bool):Nat:=listed.toList.count false
theorem Fz {listed:Array Bool} {i:Nat} (h:listed.getD i true=false):Abs (listed.setIfInBounds i true)+1=Abs listed:=by
 have hi:i<listed.size:=by
  rcases bf i listed.size with h'|h'
  ·exact h'
  ·rw [ig,fb h'] at h
   cases h
 have hv:listed.toList[i]'(by simpa using hi)=false:=by simpa [Array.getD,hi] using h
 unfold Abs
 rw [Array.toList_setIfInBounds,List.count_set (by simpa using hi),hv]
 have:0<listed.toList.count false:=List.count_pos_iff.2 (by rw [←hv];exact ff _)
 show listed.toList.count false - 1+0+1=listed.toList.count false
 omega
structure Aqp (b0 N:Nat) (w0:World) (S0:SD) (ops:Array Oper) (Fs:Nat→Frm) (Hs obs:Nat→List Ob) (listed:Array Bool) (a:Act) (m:Mm):Prop where
 H:m.H=Hs ops.size
 cx:Cx b0 m
 frame:∀ t,(∀ (i:Nat) (o:Oper),ops[i]?=some o→listed.getD i true=false→o.dst≠some t)→Ey m (Fs ops.size t) (a.tmps.getD t undef)
 old:∀ (id:Nat) (ob:Ob),(Hs 0)[id]?=some ob→ob.k.isSome=true→(m.E id).isSome=true
 done:∀ i k,i<ops.size→listed.getD i true=true→k<(obs i).length→(m.E ((Hs i).length+k)).isSome=true
 todo:∀ i k,i<ops.size→listed.getD i true=false→k<(obs i).length→m.E ((Hs i).length+k)=none
 size:a.tmps.size=N
 defers:a.defers=S0.ds
 below:Below b0 w0 m.w
 base:b0≤w0.heap.size
 S:∀ b,m.S false b→S0 false b∨b0≤b
 T:m.S true=S0 true
 ls:listed.size=ops.size
theorem XU {S0:SD} (hG:∀ w',Below b0 w0 w'→G w') {md:Region.Mode} {Q:Exit→Act→World→Prop} (hC:OO md ops=true) (hd:Mk N ops.toList=true)
  {Fs:Nat→Frm} {Hs:Nat→List Ob} {xs:Nat→X} {obs:Nat→List Ob}
  (hs:∀ (i:Nat) (o:Oper),ops[i]?=some o→Hs (i+1)=Hs i++obs i∧Fs (i+1)=(Fs i).put o.dst (xs i)∧((Cu ops o (Fs i) false∧xs i=.tup []∧obs i=[])∨(Cu ops o (Fs i) true∧AU P G o (Fs i) (Hs i) (xs i) (obs i))))
  (hq:∀ a m,m.H=Hs ops.size→St b0 N w0 S0 (Fs ops.size) a m→Q .normal a m.w) :
  ∀ (f:Nat) (listed:Array Bool) (a:Act) (m:Mm),Aqp b0 N w0 S0 ops Fs Hs obs listed a m→Abs listed≤f→wpAny P md ops Q f listed a m.w:=by
 have opAt:∀ i,i<ops.size→∃ o,ops[i]?=some o:=fun i hi=>⟨_,ga hi⟩
 have step:∀ i,i<ops.size→(Hs (i+1)).length=(Hs i).length+(obs i).length:=fun i hi=>by
  obtain ⟨o,ho⟩:=opAt i hi
  rw [(hs i o ho).1,aq]
 have mono:∀ d i,i+d≤ops.size→(Hs i).length≤(Hs (i+d)).length:=fun d=>by
  induction d with
  | zero=>intro i _;exact aa _
  | succ d ih =>
   intro i hi
   have h1:=ih i (by omega)
   have h2:=step (i+d) (by omega)
   rw [show i+(d+1)=i+d+1 by omega]
   omega
 have mono':∀ i j,i≤j→j≤ops.size→(Hs i).length≤(Hs j).length:=fun i j hij hj=>by
  have:=mono (j - i) i (by omega)
  rwa [show i+(j - i)=j by omega] at this
 have pre:∀ d i,i+d≤ops.size→Hs i <+: Hs (i+d):=fun d=>by
  induction d with
  | zero=>intro i _;exact iy _
  | succ d ih =>
   intro i hi
   obtain ⟨o,ho⟩:=opAt (i+d) (by omega)
   rw [show i+(d+1)=i+d+1 by omega,(hs _ o ho).1]
   exact (ih i (by omega)).trans (li _ _)
 have keep:∀ t d i,i+d≤ops.size→(∀ (k:Nat) (o:Oper),i≤k→k<i+d→ops[k]?=some o→o.dst≠some t)→Fs (i+d) t=Fs i t:=fun t d=>by
  induction d with
  | zero=>intro i _ _;rfl
  | succ d ih =>
   intro i hi hk
   obtain ⟨o,ho⟩:=opAt (i+d) (by omega)
   rw [show i+(d+1)=i+d+1 by omega,(hs _ o ho).2.1,EH,if_neg (hk (i+d) o (by omega) (by omega) ho)]
   exact ih i (by omega) fun k o' h1 h2=>hk k o' h1 (by omega)
 have look:∀ i o t,ops[i]?=some o→t∈o.looksAt ops→Fs ops.size t=Fs i t:=fun i o t ho ht=>by
  have hi:=(Array.getElem?_eq_some_iff.1 ho).1
  have:=keep t (ops.size - i) i (by omega) fun k o' h1 _ hk hdst=>by
   have:=((Cj hC ho).2 k o' t hk hdst).1 ht
   omega
  rwa [show i+(ops.size - i)=ops.size by omega] at this
 have out:∀ i o t,ops[i]?=some o→o.dst=some t→Fs ops.size t=xs i:=fun i o t ho ht=>by
  have hi:=(Array.getElem?_eq_some_iff.1 ho).1
  have:=keep t (ops.size - (i+1)) (i+1) (by omega) fun k o' h1 _ hk hdst=>((Cj hC ho).2 k o' t hk hdst).2 (by omega) ht
  rw [show i+1+(ops.size - (i+1))=ops.size by omega,(hs i o ho).2.1,EH,if_pos ht] at this
  exact this
 have fin:∀ (listed:Array Bool) (a:Act) (m:Mm),Aqp b0 N w0 S0 ops Fs Hs obs listed a m→Region.ready md ops listed=[]→Q .normal a m.w:=fun listed a m inv hr=>by
  have all:∀ i,i<ops.size→listed.getD i true=true:=by
   intro i
   induction i using Nat.strongRecOn with
   | _ i ih =>
    intro hi
    cases hl:listed.getD i true with
    | true=>rfl
    | false =>
     exfalso
     obtain ⟨o,ho⟩:=opAt i hi
     have:i∈Region.ready md ops listed:=mem_ready.2 ⟨hl,o,ho,fun e he hb=>by
      have hlt:=(Cj hC ho).1 e he hb
      have:=ih e.on hlt (by omega)
      have hsz:=inv.ls
      rw [←CO (by omega)]
      exact this⟩
     rw [hr] at this
     cases this
  refine hq a m inv.H ⟨inv.cx,fun id ob hob hk=>?_,fun t=>inv.frame t fun i o ho hl=>?_,inv.size,inv.defers,inv.below,inv.base,inv.S,inv.T⟩
  ·rw [inv.H] at hob
   by_cases hlt:id<(Hs 0).length
   ·refine inv.old id ob ?_ hk
    have hp:=pre ops.size 0 (by omega)
    rw [ax] at hp
    obtain ⟨c,hc⟩:=hp
    rw [←hc,dk hlt] at hob
    exact hob
   ·have hid:=(gS.1 hob).1
    have find:∀ n,n≤ops.size→id<(Hs n).length→(m.E id).isSome=true:=fun n=>by
     induction n with
     | zero=>intro _ h;exact absurd h hlt
     | succ n ih =>
      intro hn h
      by_cases h':id<(Hs n).length
      ·exact ih (by omega) h'
      ·have hst:=step n (by omega)
       have:=inv.done n (id - (Hs n).length) (by omega) (all n (by omega)) (by omega)
       rwa [show (Hs n).length+(id - (Hs n).length)=id by omega] at this
    exact find ops.size (aa _) hid
  ·have:=all i (Array.getElem?_eq_some_iff.1 ho).1
   rw [hl] at this
   cases this
 have next:∀ (listed:Array Bool) (i:Nat) (a:Act) (m:Mm),Aqp b0 N w0 S0 ops Fs Hs obs listed a m→i∈Region.ready md ops listed→∀ K:Act→World→Prop,
   (∀ a' m',Aqp b0 N w0 S0 ops Fs Hs obs (listed.setIfInBounds i true) a' m'→K a' m'.w)→wpOp P ops Q i K a m.w:=fun listed i a m inv hr K hK=>by
  obtain ⟨hun,o,ho,hall⟩:=mem_ready.1 hr
  have hi:=(Array.getElem?_eq_some_iff.1 ho).1
  have hd0:∀ d,o.dst=some d→d<N:=Nq hd (by simpa using jx ho)
  have getSet:∀ j,j≠i→(listed.setIfInBounds i true).getD j true=listed.getD j true:=fun j hj=>getD_set_ne true (Ne.symm hj)
  have getSame:(listed.setIfInBounds i true).getD i true=true:=by simp [Array.getD,inv.ls,hi]
  have hlook:∀ t∈o.looksAt ops,Ey m (Fs i t) (a.tmps.getD t undef):=fun t ht=>by
   rw [←look i o t ho ht]
   refine inv.frame t fun k ok hok hkl hdst=>?_
   obtain ⟨h1,e,he,hb,hon⟩:=((Cj hC ho).2 k ok t hok hdst).1 ht
   have h2:=hall e he hb
   rw [hon] at h2
   have hsz:=inv.ls
   rw [←CO (by have:=(Array.getElem?_eq_some_iff.1 hok).1;omega),hkl] at h2
   cases h2
  have reFrame:∀ (m':Mm) (v:Value),Le m m'→Ey m' (xs i) v→∀ t,(∀ (k:Nat) (ok:Oper),ops[k]?=some ok→(listed.setIfInBounds i true).getD k true=false→ok.dst≠some t)→Ey m' (Fs ops.size t) ((a.put o.dst v).tmps.getD t undef):=fun m' v hle hv t ht=>by
   rw [IH inv.size hd0]
   split
   ·rename_i hdst
    rw [out i o t ho hdst]
    exact hv
   ·rename_i hdst
    refine (inv.frame t fun k ok hok hkl=>?_).le hle
    by_cases hki:k=i
    ·subst hki
     rw [ho] at hok
     cases hok
     exact hdst
    ·exact ht k ok hok (by rw [getSet k hki];exact hkl)
  obtain ⟨hH,hF,hcase⟩:=hs i o ho
  unfold wpOp
  simp only [ho]
  rcases hcase with ⟨hw,hx,hob⟩|⟨hw,hok⟩
  ·rw [if_neg (by rw [hw.is (m:=m) (tmps:=a.tmps) hlook];simp)]
   refine hK _ m ⟨inv.H,inv.cx,reFrame m undef (Le.refl m) (by rw [hx];exact ⟨[],rfl,.nil_⟩),inv.old,fun j k hj hl hk=>?_,fun j k hj hl hk=>?_,by rw [DB];exact inv.size,by rw [Cg];exact inv.defers,inv.below,inv.base,inv.S,inv.T,by simp [inv.ls]⟩
   ·by_cases hji:j=i
    ·subst hji;rw [hob] at hk;simp at hk
    ·exact inv.done j k hj (by rw [←getSet j hji];exact hl) hk
   ·by_cases hji:j=i
    ·subst hji;rw [hob] at hk;simp at hk
    ·exact inv.todo j k hj (by rw [←getSet j hji];exact hl) hk
  ·rw [if_pos (hw.is (m:=m) (tmps:=a.tmps) hlook)]
   have hpre:(Hs i++obs i) <+: m.H:=by
    rw [inv.H,←hH]
    have:=pre (ops.size - (i+1)) (i+1) (by omega)
    rwa [show i+1+(ops.size - (i+1))=ops.size by omega] at this
   refine .inl (hok b0 m a hpre inv.cx (hG _ inv.below) (lT inv.base inv.below.size) (fun k hk=>inv.todo i k hi hun hk) (fun t ht=>hlook t (Hr ht)) _ _ fun v w' es hn hv=>?_)
   have hE:∀ k,k<es.length→m.E ((Hs i).length+k)=none:=fun k hk=>inv.todo i k hi hun (by rw [←hn.len];exact hk)
   have hle:=GL hn.below inv.cx.lt hE
   have far:∀ j k,j<ops.size→j≠i→k<(obs j).length→(m.plus w' (Hs i).length es).E ((Hs j).length+k)=m.E ((Hs j).length+k):=fun j k hj hji hk=>by
    show (if (Hs i).length≤(Hs j).length+k∧(Hs j).length+k<(Hs i).length+es.length then _ else _)=_
    rw [if_neg]
    rintro ⟨h1,h2⟩
    rcases Nat.lt_or_gt_of_ne hji with hlt|hlt
    ·have h3:=mono' (j+1) i (by omega) (by omega)
     have h4:=step j hj
     omega
    ·have h3:=mono' (i+1) j (by omega) (by omega)
     have h4:=step i hi
     have h5:=hn.len
     omega
   refine hK _ (m.plus w' (Hs i).length es) ⟨inv.H,inv.cx.plus hn (fun k ob hk=>?_) hE,reFrame _ v hle hv,fun id ob hob hk=>?_,fun j k hj hl hk=>?_,fun j k hj hl hk=>?_,by rw [DB];exact inv.size,by rw [Cg];exact inv.defers,
    inv.below.trans (hn.below.mono (lT inv.base inv.below.size)),inv.base,fun b hb=>?_,hle.T.trans inv.T,by simp [inv.ls]⟩
   ·refine getElem?_pre hpre ?_
    rw [dt (by omega),show (Hs i).length+k - (Hs i).length=k by omega]
    exact hk
   ·have h1:=(gS.1 hob).1
    have h2:=mono' 0 i (by omega) (by omega)
    show (if (Hs i).length≤id∧id<(Hs i).length+es.length then es[id - (Hs i).length]? else m.E id).isSome=true
    rw [if_neg (by omega)]
    exact inv.old id ob hob hk
   ·by_cases hji:j=i
    ·subst hji
     have h5:=hn.len
     show (if (Hs j).length≤(Hs j).length+k∧(Hs j).length+k<(Hs j).length+es.length then es[(Hs j).length+k - (Hs j).length]? else _).isSome=true
     rw [if_pos (by omega),gE (by omega)]
     rfl
    ·rw [far j k hj hji hk]
     exact inv.done j k hj (by rw [←getSet j hji];exact hl) hk
   ·by_cases hji:j=i
    ·subst hji;rw [getSame] at hl;cases hl
    ·rw [far j k hj hji hk]
     exact inv.todo j k hj (by rw [←getSet j hji];exact hl) hk
   ·rcases hb with hb|⟨_,hb,_⟩
    ·exact inv.S b hb
    ·exact .inr (lT (lT inv.base inv.below.size) hb)
 intro f
 induction f with
 | zero =>
  intro listed a m inv hc
  have hr:Region.ready md ops listed=[]:=by
   cases hr:Region.ready md ops listed with
   | nil=>rfl
   | cons i r =>
    have h1:=(mem_ready.1 (show i∈Region.ready md ops listed by rw [hr];simp)).1
    have:=Fz h1
    omega
  exact ⟨hr,fin listed a m inv hr⟩
 | succ f ih =>
  intro listed a m inv hc
  refine ⟨fun hr=>fin listed a m inv hr,fun i hi=>next listed i a m inv hi _ fun a' m' inv'=>ih _ a' m' inv' ?_⟩
  have:=Fz (mem_ready.1 hi).1
  omega
end
theorem Aht {Q:Exit→Act→World→Prop} (I:Nat→Act→World→Prop) {n0:Nat} (h₀:I n0 a w)
  (round:∀ n a w,I n a w→c.wp P (Exit.then (fun a' w'=>∃ n',n'<n∧I n' a' w') Q) a w):(Code.loop c).wp P Q a w:=by
 intro b k cs
 have key:∀ n a w,I n a w→∃ e a' w',Q e a' w'∧Arrives P (lone (b.at a (.code c::.inLoop c::k)) cs w) b k cs e a' w':=by
  intro n
  induction n using Nat.strongRecOn with
  | _ n ih =>
   intro a w hI
   obtain ⟨e,a₁,w₁,hq,harr⟩:=round n a w hI b (.inLoop c::k) cs
   cases e with
   | normal =>
    obtain ⟨n',hlt,hI₁⟩:=hq
    obtain ⟨e₂,a₂,w₂,hq₂,harr₂⟩:=ih n' hlt a₁ w₁ hI₁
    exact ⟨e₂,a₂,w₂,hq₂,.of_steps (Steps.trans harr (.one step_inLoop)) harr₂⟩
   | exit id=>exact ⟨_,a₁,w₁,hq,.pass (x:=.inLoop c) rfl (fun _ _=>.inl (by simp)) harr⟩
   | goto l=>exact ⟨_,a₁,w₁,hq,.pass (x:=.inLoop c) rfl (fun _ _=>.inl (by simp)) harr⟩
   | ret=>exact ⟨_,a₁,w₁,hq,.pass (x:=.inLoop c) rfl (fun _ _=>.inl (by simp)) harr⟩
   | panic ch=>exact ⟨_,a₁,w₁,hq,.pass (x:=.inLoop c) rfl (fun _ _=>.inl (by simp)) harr⟩
   | outgrown=>exact ⟨_,a₁,w₁,hq,.pass (x:=.inLoop c) rfl (fun _ _=>.inl (by simp)) harr⟩
 obtain ⟨e,a',w',hq,harr⟩:=key _ a w h₀
 exact ⟨e,a',w',hq,.of_steps (.one step_loop) harr⟩
abbrev Sg:=Exit→Frm→List Ob→Prop
def CW (P:Program) (G:World→Prop) (N:Nat) (c:Code) (F:Frm) (H:List Ob) (Q:Sg):Prop :=
 ∀ (b0:Nat) (w0:World) (S0:SD) (a:Act) (m:Mm),(∀ w',Below b0 w0 w'→G w')→m.H=H→St b0 N w0 S0 F a m→c.wp P (fun e a w=>∃ F' m',m'.w=w∧St b0 N w0 S0 F' a m'∧Q e F' m'.H) a m.w
def TE (K:Frm→List Ob→Prop) (Q:Sg):Sg
 | .normal,F,H=>K F H
 | e,F,H=>Q e F H
def Ot (id:Nat) (Q:Sg):Sg
 | .exit id',F,H=>(match Nat.beq id' id with|true=>Q .normal F H|false=>Q (.exit id') F H)
 | e,F,H=>Q e F H
section
variable {P:Program} {G:World→Prop} {N:Nat} {F:Frm} {H:List Ob} {Q:Sg}
theorem Amn {Q':Sg} (h:CW P G N c F H Q) (hq:∀ e F H,Q e F H→Q' e F H):CW P G N c F H Q':=fun b0 w0 S0 a m hG hH hs =>
 wp_mono (h b0 w0 S0 a m hG hH hs) fun e a w ⟨F',m',h1,h2,h3⟩=>⟨F',m',h1,h2,hq _ _ _ h3⟩
theorem Amo (h:Q .normal F H):CW P G N .skip F H Q:=fun b0 w0 S0 a m hG hH hs=>wp_skip ⟨F,m,rfl,hs,by rw [hH];exact h⟩
theorem Amp (h:Q (.exit id) F H):CW P G N (.exit id) F H Q:=fun b0 w0 S0 a m hG hH hs=>wp_exit ⟨F,m,rfl,hs,by rw [hH];exact h⟩
theorem Aqq (h:Q .ret F H):CW P G N .ret F H Q:=fun b0 w0 S0 a m hG hH hs=>wp_ret ⟨F,m,rfl,hs,by rw [hH];exact h⟩
theorem Aqr {x:Code} (h:CW P G N x F H (TE (fun F' H'=>CW P G N y F' H' Q) Q)):CW P G N (.seq x y) F H Q:=fun b0 w0 S0 a m hG hH hs =>
 wp_seq (wp_mono (h b0 w0 S0 a m hG hH hs) fun e a w ⟨F',m',h1,h2,h3⟩=>by
  cases e with
  | normal=>subst h1;exact h3 b0 w0 S0 a m' hG rfl h2
  | exit id=>exact ⟨F',m',h1,h2,h3⟩
  | goto l=>exact ⟨F',m',h1,h2,h3⟩
  | ret=>exact ⟨F',m',h1,h2,h3⟩
  | panic ch=>exact ⟨F',m',h1,h2,h3⟩
  | outgrown=>exact ⟨F',m',h1,h2,h3⟩)
theorem Ahu (h:CW P G N c F H (Ot id Q)):CW P G N (.block id c) F H Q:=fun b0 w0 S0 a m hG hH hs =>
 wp_block (wp_mono (h b0 w0 S0 a m hG hH hs) fun e a w ⟨F',m',h1,h2,h3⟩=>by
  cases e with
  | normal=>exact ⟨F',m',h1,h2,h3⟩
  | exit id' =>
   show (if id'=id then _ else _)
   by_cases hid:id'=id
   ·subst hid
    rw [if_pos rfl]
    simp only [Ot,en] at h3
    exact ⟨F',m',h1,h2,h3⟩
   ·rw [if_neg hid]
    have hb:Nat.beq id' id=false:=by
     cases hb:Nat.beq id' id with
     | false=>rfl
     | true=>exact absurd (di hb) hid
    simp only [Ot,hb] at h3
    exact ⟨F',m',h1,h2,h3⟩
  | goto l=>exact ⟨F',m',h1,h2,h3⟩
  | ret=>exact ⟨F',m',h1,h2,h3⟩
  | panic ch=>exact ⟨F',m',h1,h2,h3⟩
  | outgrown=>exact ⟨F',m',h1,h2,h3⟩)
def Ads (cs:Array Value):X:=if cs.all (·.oneCell') then .agg (cs.toList.map fun v=>.d (.val v)) else .any
def Akd:Value→X
 | .agg cs=>Ads cs
 | .tuple _=>.any
 | v=>.one (.d (.val v))
def Frm.ev (F:Frm):Operand→X
 | .tmp t=>F t
 | .const v=>Akd v
 | .global _=>.any
 | .func f=>.one (.d (.val (.func (.func f) #[] #[])))
theorem Sh (m:Mm) (v:Value):Ey m (Akd v) v:=by
  cases v <;> first
    | exact Ba.val rfl
    | trivial
    | (rename_i cs
       show Ey m (Ads cs) (.agg cs)
       unfold Ads
       split
       · rename_i h
         refine ⟨cs.toList,by simp,?_⟩
         refine ⟨by simp,fun j c u hc hu=>?_⟩
         simp only [ag,hu,bp,Option.some.injEq] at hc
         subst hc
         exact Ba.val (Array.all_eq_true_iff_forall_mem.1 h u (Array.mem_toList_iff.1 (gM hu)))
       · trivial)
theorem AV {m:Mm} (h:Aml m F a o) {x:Operand} (hx:x∈o.op.operands.toList):Ey m (F.ev x) (a.eval x):=by
 cases x with
 | tmp t=>exact h t hx
 | const v=>exact Sh m v
 | global g=>trivial
 | func f=>exact Ba.val rfl
theorem Aqs {m:Mm} (h:∀ t,Ey m (F t) (a.tmps.getD t undef)) (x:Operand):Ey m (F.ev x) (a.eval x):=by
 cases x with
 | tmp t=>exact h t
 | const v=>exact Sh m v
 | global g=>trivial
 | func f=>exact Ba.val rfl
theorem Amq {m:Mm} {b:Bool} (h:Ey m (.one (.d (.val (.bool b)))) v):v=.bool b:=by
 have h':Ba m.w m.S (.val (.bool b)) v:=h
 cases h'
 rfl
theorem Adt {x:Code} {c:Operand} (hc:F.ev c=.one (.d (.val (.bool t)))) (ht:t=true→CW P G N x F H Q) (hf:t=false→CW P G N y F H Q):CW P G N (.cond c x y) F H Q:=fun b0 w0 S0 a m hG hH hs=>by
 have hv:a.eval c=.bool t:=Amq (m:=m) (by rw [←hc];exact Aqs hs.frame c)
 exact wp_cond_split hv (fun h=>ht h b0 w0 S0 a m hG hH hs) (fun h=>hf h b0 w0 S0 a m hG hH hs)
theorem Amr {x:Code} {c:Operand} (hc:F.ev c=.one (.d (.val (.bool true)))) (h:CW P G N x F H Q):CW P G N (.cond c x y) F H Q:=Adt hc (fun _=>h) (fun h=>by cases h)
theorem Ahv {x:Code} {c:Operand} (hc:F.ev c=.one (.d (.val (.bool false)))) (h:CW P G N y F H Q):CW P G N (.cond c x y) F H Q:=Adt hc (fun h=>by cases h) (fun _=>h)
theorem St.drew {S0:SD} {m:Mm} (h:St b0 N w0 S0 F a m):St b0 N w0 S0 F a { m with w:=m.w.drew }:=by
 have hle:Le m { m with w:=m.w.drew }:=⟨fun _ _ h=>h,rfl,fun _ _ _=>rfl,fun id ob h=>⟨ob,h,Np.same fun _ he=>he⟩⟩
 refine ⟨⟨fun id e he=>?_,h.cx.apart,h.cx.far,h.cx.lt⟩,h.tot,fun t=>(h.frame t).le hle,h.size,h.defers,h.below.drew,h.base,h.S,h.T⟩
 obtain ⟨h1,ob,h2,h3⟩:=h.cx.each id e he
 exact ⟨Et.same h1 fun _ _=>rfl,ob,h2,h3.le hle⟩
theorem Ams (hd:Mk N l=true) (h:Ti P G l.toArray l F H (Q .normal)):CW P G N (.region id l.toArray false) F H Q:=fun b0 w0 S0 a m hG hH hs=>by
 subst hH
 exact wp_region_lit (XT hG l F a m (Q .normal) hd hs h fun F' a' m' h1 h2=>⟨F',m',rfl,h1,h2⟩)
theorem Lz {ops:Array Oper} {Fs:Nat→Frm} {Hs:Nat→List Ob} {xs:Nat→X} {obs:Nat→List Ob} {S0:SD} {m:Mm}
  (hs:∀ (i:Nat) (o:Oper),ops[i]?=some o→Hs (i+1)=Hs i++obs i∧Fs (i+1)=(Fs i).put o.dst (xs i)∧((Cu ops o (Fs i) false∧xs i=.tup []∧obs i=[])∨(Cu ops o (Fs i) true∧AU P G o (Fs i) (Hs i) (xs i) (obs i))))
  (h:St b0 N w0 S0 (Fs 0) a m) (hH:m.H=Hs 0):Aqp b0 N w0 S0 ops Fs Hs obs (Array.replicate ops.size false) a { m with H:=Hs ops.size }:=by
 have preH:∀ k,k≤ops.size→Hs 0 <+: Hs k:=fun k hk=>by
  induction k with
  | zero=>exact iy _
  | succ k ih =>
   rw [(hs k _ (ga (by omega))).1]
   exact (ih (by omega)).trans (li _ _)
 have keep:∀ t k,k≤ops.size→(∀ (i:Nat) (o:Oper),ops[i]?=some o→o.dst≠some t)→Fs k t=Fs 0 t:=fun t k hk hno=>by
  induction k with
  | zero=>rfl
  | succ k ih =>
   have ho:ops[k]?=some (ops[k]'(by omega)):=ga (by omega)
   rw [(hs k _ ho).2.1,EH,if_neg (hno k _ ho)]
   exact ih (by omega)
 obtain ⟨c,hc⟩:=preH ops.size (aa _)
 have hm:({ m with H:=Hs ops.size }:Mm)={ m with H:=m.H++c }:=by rw [hH,hc]
 rw [hm]
 have hle:=XS m c
 refine ⟨by rw [hH,hc],h.cx.more c,fun t ht=>?_,fun id ob hob hk=>h.tot id ob (by rw [hH];exact hob) hk,fun i k hi hl=>?_,fun i k hi _ hk=>?_,h.size,h.defers,h.below,h.base,h.S,h.T,by simp⟩
 ·rw [keep t ops.size (aa _) fun i o ho=>ht i o ho (by have:=(Array.getElem?_eq_some_iff.1 ho).1;simp [Array.getD,this])]
  exact (h.frame t).le hle
 ·exfalso
  simp [Array.getD,hi] at hl
 ·refine Adr h.cx ?_
  rw [hH]
  have:=(preH i (by omega)).length_le
  omega
theorem AE (n:Nat) (hm:P.follows .mixedOrders=true) (hB:(Mk N l && OO .any (l.take n).toArray && Ly .any l.toArray n)=true)
  (h:Ch P G (l.take n).toArray (l.take n) F H fun F' H'=>Ti P G l.toArray (l.drop n) F' H' (Q .normal)):CW P G N (.region id l.toArray true) F H Q:=fun b0 w0 S0 a m hG hH hs=>by
 subst hH
 simp only [aj] at hB
 obtain ⟨⟨hd,hC⟩,hp⟩:=hB
 have hd1:Mk N (l.take n)=true:=List.all_eq_true.2 fun o ho=>List.all_eq_true.1 hd o (eh ho)
 have hd2:Mk N (l.drop n)=true:=List.all_eq_true.2 fun o ho=>List.all_eq_true.1 hd o (jv ho)
 have hn:n<l.length:=by
  have:=hp
  simp only [Ly,aj,decide_eq_true_eq,jy] at this
  exact this.1.1.1.1
 have hlen:(l.take n).length=n:=by simp;omega
 have hsz:(l.take n).toArray.size=n:=by simp;omega
 refine FX n hm hp ?_
 obtain ⟨Fs,Hs,xs,obs,h1,h2,h3,h4⟩:=h.seq
 have hs':=hs.drew
 refine XU (G:=G) (w0:=w0) (S0:=S0) (b0:=b0) hG hC (N:=N) (by simpa using hd1) (Fs:=Fs) (Hs:=Hs) (xs:=xs) (obs:=obs) (fun i o hi=>h4 i o (by simpa using hi)) (fun a' m' hH' hst=>?_) n (Array.replicate n false) a { m with w:=m.w.drew,H:=Hs n } ?_ (by simp [Abs])
 ·rw [hsz] at hst hH'
  rw [hlen] at h3
  rw [←hH'] at h3
  exact XT hG (l.drop n) (Fs n) a' m' (Q .normal) hd2 hst h3 fun F'' a'' m'' k1 k2=>⟨F'',m'',rfl,k1,k2⟩
 ·have:=Lz (P:=P) (G:=G) (ops:=(l.take n).toArray) (Fs:=Fs) (Hs:=Hs) (xs:=xs) (obs:=obs) (fun i o hi=>h4 i o (by simpa using hi)) (by rw [h1];exact hs') (m:={ m with w:=m.w.drew }) h2.symm
  rw [hsz] at this
  exact this
theorem BB (hm:P.follows .mixedOrders=true) (hB:(Mk N l && OO .any l.toArray)=true) (h:Ch P G l.toArray l F H (Q .normal)):CW P G N (.region id l.toArray true) F H Q:=fun b0 w0 S0 a m hG hH hs=>by
 subst hH
 simp only [aj] at hB
 obtain ⟨hd,hC⟩:=hB
 refine wp_region_any hm ?_
 obtain ⟨Fs,Hs,xs,obs,h1,h2,h3,h4⟩:=h.seq
 have hs':=hs.drew
 refine XU (G:=G) (w0:=w0) (S0:=S0) (b0:=b0) hG hC (N:=N) (by simpa using hd) (Fs:=Fs) (Hs:=Hs) (xs:=xs) (obs:=obs) (fun i o hi=>h4 i o (by simpa using hi)) (fun a' m' hH' hst=>?_) l.toArray.size (Array.replicate l.toArray.size false) a { m with w:=m.w.drew,H:=Hs l.toArray.size } ?_ (by simp [Abs])
 ·rw [jy] at hst hH'
  exact ⟨_,m',rfl,hst,by rw [hH'];exact h3⟩
 ·exact Lz (P:=P) (G:=G) (ops:=l.toArray) (Fs:=Fs) (Hs:=Hs) (xs:=xs) (obs:=obs) (fun i o hi=>h4 i o (by simpa using hi)) (by rw [h1];exact hs') (m:={ m with w:=m.w.drew }) h2.symm
end
inductive FA (t:Bool) (H:List Ob):C→D→Prop
 | d {x:D} (h:t=false→Dn x):FA t H (.d x) x
 | nil {t':Bool} {s:Nat}:FA t H (.d (.val (.slice none 0 0))) (.row t' s 0 [])
 | emp {t':Bool} {s:Nat}:FA t H .emp (.row t' s 0 [])
 | own {id ty s n:Nat} {cs:List C} {ds:List D} (hH:H[id]?=some (.row ty s n cs)) (hl:cs.length=ds.length) (hr:∀ (j:Nat) (c:C) (d:D),cs[j]?=some c→ds[j]?=some d→FA t H c d):FA t H (.own id n) (.row t s n ds)
 | ref {id ty off:Nat} {cs:List C} {ds:List D} (ht:t=true) (hH:H[id]?=some (.box ty cs)) (hl:(cs.drop off).length=ds.length) (hr:∀ (j:Nat) (c:C) (d:D),(cs.drop off)[j]?=some c→ds[j]?=some d→FA t H c d):FA t H (.ref id off none) (.ptr t ds)
theorem FA.pre {H H':List Ob} (hp:H <+: H') {c:C} {d:D} (h:FA t H c d):FA t H' c d:=by
 induction h with
 | d h=>exact .d h
 | nil=>exact .nil
 | emp=>exact .emp
 | own hH hl _ ih=>exact .own (getElem?_pre hp hH) hl ih
 | ref ht hH hl _ ih=>exact .ref ht (getElem?_pre hp hH) hl ih
theorem Aur (g j:Nat):(⟨g,0+j,none⟩:Addr)=⟨g,j,none⟩:=by rw [ax]
theorem Aqt {p:Prop} (h:p:=by
 exact .row [] (aa _) (fun _=>rfl) (by simp) rfl (fun h=>absurd rfl h) (fun j u x h=>by simp at h)):p:=h
theorem FA.rel {m:Mm} (hx:Cx b0 m) {Sx:Dm} {t:Bool} (h1:∀ b,m.S false b→Sx false b) (h2:t=true→∀ b,m.S true b→Sx true b) (h3:∀ id e g,m.E id=some e→e.own=some g→Sx t g) {c:C} {d:D} (h:FA t m.H c d) :
  ∀ v,DP m c v→Ba m.w Sx d v:=by
 induction h with
 | d h =>
  intro v hv
  cases t with
  | false=>exact Ba.free h1 hv (h rfl)
  | true=>exact Ba.mono (S:=m.S) (fun t b hb=>by cases t;exact h1 b hb;exact h2 rfl b hb) (fun _ _ _=>rfl) hv
 | nil =>
  intro v hv
  have hv':Ba m.w m.S (.val (.slice none 0 0)) v:=hv
  cases hv'
  exact Aqt
 | emp =>
  intro v hv
  obtain ⟨A,rfl⟩:=hv
  exact Aqt
 | @own id ty s n cs ds hH hl _ ih =>
  intro v hv
  obtain ⟨_,ob,hob,_,hk⟩:=hv
  rw [hH] at hob
  cases hob
  obtain ⟨e,he,rfl⟩:=hk rfl
  obtain ⟨hat,ob,hob,hE⟩:=hx.each id e he
  rw [hH] at hob
  cases hob
  cases e with
  | box g vs ty'=>exact hE.elim
  | row v' ty' s' n' xs =>
   obtain ⟨rfl,rfl,rfl,hl2,hr2⟩:=hE
   have hlen:=hat.1
   show Ba m.w Sx (.row t s' n' ds) v'
   rcases hat.2 with ⟨rfl,rfl⟩|⟨g,cap,cur,rfl,hb,hg,hnc,hcm,hcs,htk⟩
   ·refine .row xs (aa _) (fun _=>rfl) (by omega) (by omega) (fun hne=>?_) (fun j u x hu hx'=>?_)
    ·exact absurd (bj (by omega)) hne
    ·obtain ⟨c,hc⟩:∃ c,cs[j]?=some c:=⟨_,gE (by have:=(gS.1 hu).1;omega)⟩
     exact ih j c u hc hu x (hr2 j c x hc hx')
   ·refine .row xs hnc (by simp) (by omega) (by omega) (fun _=>⟨g,0,rfl,h3 id _ g he rfl,fun j x hx'=>?_⟩) (fun j u x hu hx'=>?_)
    ·rw [Aur,cell_of_row m.w g j cur ty' (0,0) hg]
     rw [←htk,bq] at hx'
     split at hx'
     ·simpa using hx'
     ·cases hx'
    ·obtain ⟨c,hc⟩:∃ c,cs[j]?=some c:=⟨_,gE (by have:=(gS.1 hu).1;omega)⟩
     exact ih j c u hc hu x (hr2 j c x hc hx')
 | @ref id ty off cs ds ht hH hl _ ih =>
  intro v hv
  obtain ⟨_,ob,hob,_,hk⟩:=hv
  rw [hH] at hob
  cases hob
  obtain ⟨e,g,he,hg,rfl⟩:=hk rfl
  obtain ⟨hat,ob,hob,hE⟩:=hx.each id e he
  rw [hH] at hob
  cases hob
  cases e with
  | row v' ty' s' n' xs=>exact hE.elim
  | box g' vs ty' =>
   obtain ⟨rfl,hl2,hr2⟩:=hE
   have hgg:g'=g:=by simpa [Et.hv,Nn] using hg
   subst hgg
   refine .ptr (vs.drop off) (by rw [iz] at hl ⊢;omega) (h3 id _ g' he rfl) (fun j x hx'=>?_) (fun j u x hu hx'=>?_)
   ·rw [cell_of_row m.w g' (off+j) vs.toArray ty' (0,0) hat.2]
    rw [cn] at hx'
    simpa using hx'
   ·obtain ⟨c,hc⟩:∃ c,(cs.drop off)[j]?=some c:=⟨_,gE (by have:=(gS.1 hu).1;omega)⟩
    refine ih j c u hc hu x (hr2 (off+j) c x (by rw [cn] at hc;exact hc) (by rw [cn] at hx';exact hx'))
inductive LA (t:Bool) (H:List Ob):X→A→Prop
 | one {c:C} {d:D} (h:FA t H c d):LA t H (.one c) (.one d)
 | agg {cs:List C} {ds:List D} (h:AP (FA t H) cs ds):LA t H (.agg cs) (.agg ds)
theorem LA.pre {H H':List Ob} (hp:H <+: H') {x:X} {y:A} (h:LA t H x y):LA t H' x y:=by
 cases h with
 | one h=>exact .one (h.pre hp)
 | agg h=>exact .agg (h.imp fun _ _=>FA.pre hp)
theorem Zv {m:Mm} (hx:Cx b0 m) {Sx:Dm} {t:Bool} (h1:∀ b,m.S false b→Sx false b) (h2:t=true→∀ b,m.S true b→Sx true b) (h3:∀ id e g,m.E id=some e→e.own=some g→Sx t g) {cs:List C} {ds:List D} (h:AP (FA t m.H) cs ds) {xs:List Value} (hc:AP (DP m) cs xs):AP (Ba m.w Sx) ds xs :=
 ⟨h.1.symm.trans hc.1,fun j d v hd hv=>by
  obtain ⟨c,hcj⟩:∃ c,cs[j]?=some c:=⟨_,gE (by have:=(gS.1 hd).1;have:=h.1;omega)⟩
  exact FA.rel hx h1 h2 h3 (h.2 j c d hcj hd) v (hc.2 j c v hcj hv)⟩
theorem LA.rel {m:Mm} (hx:Cx b0 m) {Sx:Dm} {t:Bool} (h1:∀ b,m.S false b→Sx false b) (h2:t=true→∀ b,m.S true b→Sx true b) (h3:∀ id e g,m.E id=some e→e.own=some g→Sx t g) {x:X} {y:A} (h:LA t m.H x y) {v:Value} (hv:Ey m x v):EA m.w Sx y v:=by
 cases h with
 | one h=>exact FA.rel hx h1 h2 h3 h v hv
 | agg h =>
  obtain ⟨xs,rfl,hc⟩:=hv
  exact ⟨xs,rfl,Zv hx h1 h2 h3 h hc⟩
def A.x:A→X
 | .one d=>.one (.d d)
 | .agg ds=>.agg (ds.map .d)
def Amt:List A→X
 | [a]=>a.x
 | l=>.tup l
theorem A.x_rel {m:Mm} {y:A} (h:EA m.w m.S y v):Ey m y.x v:=by
 cases y with
 | one d=>exact h
 | agg ds =>
  obtain ⟨xs,rfl,h2⟩:=h
  exact ⟨xs,rfl,AP.map_l.2 h2⟩
theorem TF {m:Mm} {res:List A} (h:Ahf m.w m.S res v):Ey m (Amt res) v:=by
 match res,h with
 | [],h=>exact h
 | [a],h=>exact A.x_rel h
 | a::b::l,h=>exact h
theorem DD {f : FuncId} (hf : P.funcs[f]? = some fn) (hname : (fn.name == "runtime.NumGoroutine") = false) (hb : fn.body = some c) (args : Array Value) (w : World) :
  (callFunc f args).run P w=.ok (.enter f args) w:=by
 have h1 : fn.name ≠ "runtime.NumGoroutine" := by simpa using hname
 simp [callFunc,hf,h1,hb]
section
variable {P:Program} {G:World→Prop} {o:Oper} {F:Frm} {H:List Ob}
theorem Amu {f:FuncId} {xs:Array Operand} {ts:Array TypeId} (ho:o.op=.call { callee:=.value (.func f),args:=xs,argTypes:=ts })
  (hf : P.funcs[f]? = some fn) (hn : (fn.name == "runtime.NumGoroutine") = false) (hb : fn.body = some c) {args res : List A} (h : CV P G f args res) (ha : AP (fun x y => LA true H (F.ev x) y) xs.toList args) :
  AU P G o F H (Amt res) []:=by
 intro b0 m a hp hx hg hb0 _ hor K Q hK
 rw [av] at hp
 have hxs:∀ x∈xs.toList,Ey m (F.ev x) (a.eval x):=fun x hm=>AV hor (by
  rw [ho]
  simp only [Op.operands,Call.operands,ij,eo]
  exact .inr hm)
 let Sx:Dm:=fun t b=>m.S t b∨(t=true∧∃ id e,m.E id=some e∧e.own=some b)
 have hcalls:=h m.w Sx (xs.toList.map a.eval) hg (fun t b hb=>by
  rcases hb with hb|⟨_,id,e,he,hown⟩
  ·exact hx.lt t b hb
  ·exact (Et.lt (hx.each id e he).1 hown).2) ⟨by rw [ad];exact ha.1.symm,fun j y v hy hv=>by
   simp only [ag,dg] at hv
   obtain ⟨x,hxj,rfl⟩:=hv
   exact LA.rel hx (fun b hb=>.inl hb) (fun _ b hb=>.inl hb) (fun id e g he hg=>.inr ⟨rfl,id,e,he,hg⟩) ((ha.2 j x y hxj hy).pre hp) (hxs x (gM hxj))⟩
 unfold Oper.wp execOp
 simp only [ho,resolve,Act.eval,Deferred.ofValue,ai,bk,bd,invoke]
 rw [DD hf hn hb]
 rw [gl]
 have he:((#[]:Array Value)++xs.map a.eval++#[])=(xs.toList.map a.eval).toArray:=gb (by simp)
 simp only [he]
 refine hcalls.mono fun e w' ⟨v,hev,hres,hbel⟩=>?_
 subst hev
 refine hK v w' [] ⟨rfl,hbel,fun k e hk=>by simp at hk,List.Pairwise.nil⟩ (TF ?_)
 have hmono:∀ t b,Ahe Sx m.w w' t b→(m.plus w' H.length []).S t b:=fun t b hb=>by
  obtain ⟨rfl,h1|⟨h1,h2⟩⟩:=hb
  ·rcases h1 with h1|⟨h1,_⟩
   ·exact .inl h1
   ·cases h1
  ·exact .inr ⟨rfl,h1,h2,fun e he=>by simp at he⟩
 match res,hres with
 | [],hres=>obtain ⟨vs,h1,h2⟩:=hres;exact ⟨vs,h1,h2.imp fun _ _=>EA.mono hmono fun _ _ _=>rfl⟩
 | [x],hres=>exact EA.mono hmono (fun _ _ _=>rfl) hres
 | x::y::l,hres=>obtain ⟨vs,h1,h2⟩:=hres;exact ⟨vs,h1,h2.imp fun _ _=>EA.mono hmono fun _ _ _=>rfl⟩
end
inductive RV (P:Program) (F:Frm) (H:List Ob):ResultVar→A→Prop
 | tmp {t:Tmp} {y:A} (h:LA false H (F t) y):RV P F H (.tmp t) y
 | cellA {t:Tmp} {ty ty' id:Nat} {d:TypeDesc} {cs:List C} {ds:List D} (hF:F t=.one (.ref id 0 none)) (hH:H[id]?=some (.box ty' cs)) (hu:P.underlying ty=some d) (hd:d.isRow=true) (hi:(P.info? ty).map (·.size)=some cs.length) (h:AP (FA false H) cs ds):RV P F H (.cell t ty) (.agg ds)
 | cell1 {t:Tmp} {ty ty' id:Nat} {d:TypeDesc} {c:C} {cs:List C} {x:D} (hF:F t=.one (.ref id 0 none)) (hH:H[id]?=some (.box ty' (c::cs))) (hu:P.underlying ty=some d) (hd:d.isRow=false) (h:FA false H c x):RV P F H (.cell t ty) (.one x)
theorem EX {a:Addr} {ty:TypeId} {d:TypeDesc} (hu:P.underlying ty=some d) (hd:d.isRow=false) (hc:w.cell? a=some v):(loadVar ty a).run P w=.ok v w:=by
 have hagg:(isAgg ty).run P w=.ok false w:=by
  unfold isAgg
  rw [ai,run_underlying hu w]
  cases d <;> simp_all
 simp [loadVar,ai,hagg,hc]
theorem Gp {m:Mm} (hx:Cx b0 m) {id ty off:Nat} {cs:List C} {v:Value} (hv:VF m id off none v) (hH:m.H[id]?=some (.box ty cs)):∃ g vs,v=.pointer (some ⟨g,off,none⟩)∧m.E id=some (.box g vs ty)∧b0≤g∧m.w.heap[g]?=some (.cells vs.toArray ty (0,0))∧AP (DP m) cs vs:=by
 obtain ⟨_,ob,hob,_,hk⟩:=hv
 rw [hH] at hob
 cases hob
 obtain ⟨e,g,he,hg,rfl⟩:=hk rfl
 obtain ⟨hat,ob,hob,hE⟩:=hx.each id e he
 rw [hH] at hob
 cases hob
 cases e with
 | row v' ty' s' n' xs=>exact hE.elim
 | box g' vs ty' =>
  obtain ⟨rfl,hl⟩:=hE
  have hgg:g'=g:=by simpa [Et.hv,Nn] using hg
  subst hgg
  exact ⟨g',vs,rfl,he,hat.1,hat.2,hl⟩
def VG (tmps:Array Value):ResultVar→Sem Value
 | .tmp t=>pure (tmps.getD t undef)
 | .cell a t=>do loadVar t (←asAddr (tmps.getD a undef))
theorem II (fn:Func) (tmps:Array Value):results fn tmps=(fn.results.mapM (VG tmps)).bind fun vs=>pure (if h:vs.size=1 then vs[0] else .tuple vs):=by
 unfold results
 have:(fun (r:ResultVar)=>match r with|.tmp t=>(pure (tmps.getD t undef):Sem Value)|.cell a t=>do loadVar t (←asAddr (tmps.getD a undef)))=VG tmps:=funext fun r=>by cases r <;> rfl
 rw [←this]
 rfl
theorem RV.run {m:Mm} (hx:Cx b0 m) {Sx:Dm} (h1:∀ b,m.S false b→Sx false b) (h3:∀ id e g,m.E id=some e→e.own=some g→Sx false g) {F:Frm} {tmps:Array Value} (hf:∀ t,Ey m (F t) (tmps.getD t undef)) {r:ResultVar} {y:A} (h:RV P F m.H r y) :
  ∃ v,(VG tmps r).run P m.w=.ok v m.w∧EA m.w Sx y v:=by
 have h2:false=true→∀ b,m.S true b→Sx true b:=fun h=>by cases h
 cases h with
 | tmp h=>exact ⟨_,rfl,LA.rel hx h1 h2 h3 h (hf _)⟩
 | @cellA t ty ty' id d cs ds hF hH hu hd hi h =>
  have hv:=hf t
  rw [hF] at hv
  obtain ⟨g,vs,hv,he,_,hg,hl⟩:=Gp hx hv hH
  refine ⟨.agg vs.toArray,?_,⟨vs,rfl,Zv hx h1 h2 h3 h hl⟩⟩
  simp only [VG,hv,asAddr,ai,bk,bd]
  exact run_loadVar_mid m.w g 0 ty vs d (fun j v hj=>by rw [Aur,cell_of_row m.w g j vs.toArray ty' (0,0) hg];simpa using hj) hu hd (by rw [hi,hl.1])
 | @cell1 t ty ty' id d c cs x hF hH hu hd h =>
  have hv:=hf t
  rw [hF] at hv
  obtain ⟨g,vs,hv,he,_,hg,hl⟩:=Gp hx hv hH
  obtain ⟨u,us,rfl,hcu,_⟩:=hl.uncons
  refine ⟨u,?_,FA.rel hx h1 h2 h3 h u hcu⟩
  simp only [VG,hv,asAddr,ai,bk,bd]
  exact EX hu hd (by rw [cell_of_row m.w g 0 _ ty' (0,0) hg];rfl)
theorem Zw {P:Program} {w:World} {R:A→Value→Prop} {f:ResultVar→Sem Value}:∀ {rs:List ResultVar} {res:List A},AP (fun r y=>∃ v,(f r).run P w=.ok v w∧R y v) rs res→∃ vs:List Value,(rs.mapM f).run P w=.ok vs w∧AP R res vs
 | [],res,h=>by
  rw [h.unnil]
  exact ⟨[],by simp,AP.nil_⟩
 | r::rs,res,h=>by
  obtain ⟨y,res',rfl,⟨v,h1,h2⟩,h3⟩:=h.uncons
  obtain ⟨vs,h4,h5⟩:=Zw h3
  exact ⟨v::vs,by simp [jz,ai,h1,h4],AP.cons_ h2 h5⟩
def Aqu (P:Program) (fn:Func) (res:List A):Sg:=fun e F H=>(e=.ret∨e=.normal)∧AP (RV P F H) fn.results.toList res
def F0 (args:List A):Frm:=fun t=>match args[t]? with
 | some y=>y.x
 | none=>.any
theorem Ml {S:Dm} {vs:List Value} {args:List A} (hN:fn.ntmps=N) (ha:args.length≤N) (hlt:∀ t b,S t b→b<w.heap.size) (hargs:AP (EA w S) args vs) :
  St w.heap.size N w ⟨S,[]⟩ (F0 args) { tmps:=vs.toArray++Array.replicate (fn.ntmps - vs.toArray.size) undef,defers:=[] } ⟨w,S,[],fun _=>none⟩:=by
 have hsz:(vs.toArray++Array.replicate (fn.ntmps - vs.toArray.size) undef).size=N:=by
  have:=hargs.1
  simp
  omega
 refine ⟨⟨fun id e he=>(by cases he),fun i j e e' _ he=>(by cases he),fun id e g t he=>(by cases he),hlt⟩,fun id ob h=>by simp at h,fun t=>?_,hsz,rfl,ah _ _,aa _,fun b hb=>.inl hb,rfl⟩
 unfold F0
 cases ht:args[t]? with
 | none=>trivial
 | some y =>
  obtain ⟨v,hv,hr⟩:=hargs.at_ ht
  have hlt':=(gS.1 hv).1
  have:(vs.toArray++Array.replicate (fn.ntmps - vs.toArray.size) undef).getD t undef=v:=by
   rw [ig,Array.getElem?_append_left (by simpa using hlt')]
   simp [hv]
  rw [this]
  exact A.x_rel (m:=⟨w,S,[],fun _=>none⟩) hr
theorem Qb {tmps:Array Value} {Sx:Dm} {res:List A} (h:AP (fun r y=>∃ v,(VG tmps r).run P w=.ok v w∧EA w Sx y v) fn.results.toList res) :
  ∃ v,(results fn tmps).run P w=.ok v w∧Ahf w Sx res v:=by
 obtain ⟨vs',h1,h2⟩:=Zw (P:=P) (w:=w) (R:=EA w Sx) h
 have h1':(fn.results.mapM (VG tmps)).run P w=.ok vs'.toArray w:=by
  rw [←kb (xs:=fn.results),kc,map_eq_pure_bind,ai,h1]
  rfl
 have hb':∀ (s:Sem (Array Value)) (k:Array Value→Sem Value),(s.bind k).run P w=(s.run P w).andThen fun a w=>(k a).run P w:=fun s k=>ai (x:=s) (f:=k) ..
 rw [II,hb',h1']
 simp only [bd,bk]
 match res,vs',h2 with
 | [],vs',h2 =>
  rw [h2.unnil]
  exact ⟨_,rfl,[],rfl,AP.nil_⟩
 | [y],vs',h2 =>
  obtain ⟨v,vs2,rfl,h3,h4⟩:=h2.uncons
  rw [h4.unnil]
  exact ⟨_,rfl,h3⟩
 | y::z::l,vs',h2 =>
  obtain ⟨v,vs2,rfl,h3,h4⟩:=h2.uncons
  obtain ⟨u,vs3,rfl,h5,h6⟩:=h4.uncons
  exact ⟨_,rfl,v::u::vs3,by simp,AP.cons_ h3 (AP.cons_ h5 h6)⟩
theorem Nr {S0:SD} {F:Frm} {m:Mm} {res:List A} (hs:St w.heap.size N w S0 F a m) (h:AP (RV P F m.H) fn.results.toList res) :
  ∃ v,(results fn a.tmps).run P m.w=.ok v m.w∧Ahf m.w (Ahe S0.S w m.w) res v:=by
 have hset:∀ b,m.S false b→Ahe S0.S w m.w false b:=fun b hb'=>⟨rfl,(hs.S b hb').elim .inl fun h=>.inr ⟨h,hs.cx.lt _ _ hb'⟩⟩
 have hown:∀ id e g,m.E id=some e→e.own=some g→Ahe S0.S w m.w false g:=fun id e g he' hg'=>⟨rfl,.inr (Et.lt (hs.cx.each id e he').1 hg')⟩
 exact Qb (h.imp fun r y hry=>RV.run hs.cx hset hown hs.frame hry)
theorem Amv {G:World→Prop} (hG:∀ w w',Below w.heap.size w w'→G w→G w') {f:FuncId} {fn:Func} {c:Code} {N:Nat} {args res:List A} (hf:P.funcs[f]?=some fn) (hb:fn.body=some c) (hN:fn.ntmps=N) (ha:args.length≤N)
  (h:CW P G N c (F0 args) [] (Aqu P fn res)):CV P G f args res:=by
 intro w S vs hg hlt hargs
 refine calls_of_wp hf hb ?_
 refine wp_mono (h w.heap.size w ⟨S,[]⟩ _ ⟨w,S,[],fun _=>none⟩ (fun w' hb'=>hG w w' hb' hg) rfl (Ml hN ha hlt hargs)) fun e a' w' ⟨F',m',hw,hs,hret⟩=>?_
 subst hw
 obtain ⟨he,hrv⟩:=hret
 obtain ⟨v,k1,k2⟩:=Nr hs hrv
 rcases he with rfl|rfl
 ·exact ⟨hs.defers,v,k1,v,rfl,k2,hs.below⟩
 ·exact ⟨hs.defers,v,k1,v,rfl,k2,hs.below⟩
end Go.Proofs.YtjlkgfeepocjfaaGreatDoor
