/- What the proofs of this claim share, part 7. No conditions. -/
import Derived.Test.YtjlkgfeepocjfaaGreatDoorMk6
import Derived.Maps.AppendAt
import Derived.Laws.AppendOwnNone
import Derived.Laws.MakeOwn
import Derived.Great.BuildSlice
import Derived.Deep.MidRow
set_option linter.all false
namespace Go.Proofs.YtjlkgfeepocjfaaGreatDoor
open Go.RowKit
variable {w w' w0:World} {v:Value} {N b0 id:Nat} {P:Program} {o:Oper} {l:List Oper} {a:Act} {c y:Code} {t:Bool} {fn:Func}
inductive D where
 | val (v:Value)
 | row (t:Bool) (s n:Nat) (cs:List D)
 | ptr (t:Bool) (cs:List D)
abbrev EN:=Bool→Nat→Prop
def Ba {α β:Type} (R:α→β→Prop) (aS:List α) (bs:List β):Prop:=aS.length=bs.length∧∀ (j:Nat) (a:α) (b:β),aS[j]?=some a→bs[j]?=some b→R a b
inductive Bx (w:World) (S:EN):D→Value→Prop
 | val {v:Value} (h:v.oneCell'=true):Bx w S (.val v) v
 | row {t:Bool} {s n c:Nat} {cs:List D} {A:Option Addr} (xs:List Value) (hc:n≤c) (hA:A=none→c=0) (hl:cs.length=n*s) (hx:cs.length=xs.length)
   (hm:cs≠[]→∃ b off,A=some ⟨b,off,none⟩∧S t b∧∀ (j:Nat) (x:Value),xs[j]?=some x→w.cell? ⟨b,off+j,none⟩=some x)
   (hr:∀ (j:Nat) (u:D) (x:Value),cs[j]?=some u→xs[j]?=some x→Bx w S u x):Bx w S (.row t s n cs) (.slice A n c)
 | ptr {t:Bool} {cs:List D} {b off:Nat} (xs:List Value) (hx:cs.length=xs.length) (hb:S t b) (hm:∀ (j:Nat) (x:Value),xs[j]?=some x→w.cell? ⟨b,off+j,none⟩=some x)
   (hr:∀ (j:Nat) (u:D) (x:Value),cs[j]?=some u→xs[j]?=some x→Bx w S u x):Bx w S (.ptr t cs) (.pointer (some ⟨b,off,none⟩))
theorem Bx.one {S:EN} {d:D} (h:Bx w S d v):v.oneCell'=true:=by
 cases h with
 | val h=>exact h
 | row=>rfl
 | ptr=>rfl
theorem TB {b o:Nat} (h:w'.heap[b]?=w.heap[b]?):w'.cell? ⟨b,o,none⟩=w.cell? ⟨b,o,none⟩:=World.cell?_of_block (a:=⟨b,o,none⟩) h
theorem Bx.mono {S S':EN} (hS:∀ t b,S t b→S' t b) (hw:∀ t b,S t b→w'.heap[b]?=w.heap[b]?) {d:D} {v:Value} (h:Bx w S d v):Bx w' S' d v:=by
 induction h with
 | val h=>exact .val h
 | row xs hc hA hl hx hm _ ih =>
  refine .row xs hc hA hl hx (fun hne=>?_) ih
  obtain ⟨b,off,h1,h2,h3⟩:=hm hne
  exact ⟨b,off,h1,hS _ _ h2,fun j x hj=>(TB (hw _ _ h2)).trans (h3 j x hj)⟩
 | ptr xs hx hb hm _ ih=>exact .ptr xs hx (hS _ _ hb) (fun j x hj=>(TB (hw _ _ hb)).trans (hm j x hj)) ih
inductive DY:D→Prop
 | val (v:Value):DY (.val v)
 | row {s n:Nat} {cs:List D} (h:∀ d∈cs,DY d):DY (.row false s n cs)
theorem Bx.free {S S':EN} (hS:∀ b,S false b→S' false b) {d:D} {v:Value} (h:Bx w S d v) (hf:DY d):Bx w S' d v:=by
 induction h with
 | val h=>exact .val h
 | row xs hc hA hl hx hm _ ih =>
  cases hf with
  | row hf =>
   refine .row xs hc hA hl hx (fun hne=>?_) fun j u x hu hj=>ih j u x hu hj (hf u (gM hu))
   obtain ⟨b,off,h1,h2,h3⟩:=hm hne
   exact ⟨b,off,h1,hS _ h2,h3⟩
 | ptr=>cases hf
inductive C where
 | d (x:D)
 | own (id n:Nat)
 | ref (id off:Nat) (k:Option Nat)
 | clo (fn:Fn) (caps:List (Nat × Nat × Option Nat))
 | emp
inductive Ob where
 | box (t:TypeId) (cs:List C)
 | row (t:TypeId) (s n:Nat) (cs:List C)
 | dead
def Ob.k:Ob→Option (Option Nat)
 | .box _ _=>some none
 | .row _ _ n _=>some (some n)
 | .dead=>none
inductive Et where
 | box (g:Nat) (vs:List Value) (t:TypeId)
 | row (v:Value) (t:TypeId) (s n:Nat) (xs:List Value)
def Et.hv:Et→Value
 | .box g _ _=>.pointer (some ⟨g,0,none⟩)
 | .row v _ _ _ _=>v
def Et.own:Et→Option Nat
 | .box g _ _=>some g
 | .row v _ _ _ _=>v.ownBlock
def Et.at_ (w:World) (base:Nat):Et→Prop
 | .box g vs t=>base≤g∧w.heap[g]?=some (.cells vs.toArray t (0,0))
 | .row v t s n xs=>w.ownsRow base t s v n xs
def MQ:Value→Option Nat
 | .pointer (some a)=>some a.block
 | .slice (some a) _ _=>some a.block
 | _=>none
theorem Et.at_form {b:Nat} {e:Et} (h:e.at_ w b):e.own=MQ e.hv:=by
 cases e with
 | box g vs t=>rfl
 | row v t s n xs =>
  rcases h.2 with ⟨rfl,_⟩|⟨g,cap,cur,rfl,_⟩ <;> rfl
theorem Et.lt {base:Nat} {e:Et} (h:e.at_ w base) {g:Nat} (hg:e.own=some g):base≤g∧g<w.heap.size:=by
 cases e with
 | box b vs t =>
  have hb:b=g:=by simpa [Et.own] using hg
  subst hb
  exact ⟨h.1,(Array.getElem?_eq_some_iff.1 h.2).1⟩
 | row v t s n xs=>exact World.ownsRow.lt h g hg
theorem Et.same {base:Nat} {e:Et} (h:e.at_ w base) (hw:∀ g,e.own=some g→w'.heap[g]?=w.heap[g]?):e.at_ w' base:=by
 cases e with
 | box b vs t=>exact ⟨h.1,(hw b rfl).trans h.2⟩
 | row v t s n xs =>
  refine ⟨h.1,?_⟩
  rcases h.2 with hn|⟨g,cap,cur,rfl,hb,hg,rest⟩
  ·exact .inl hn
  ·exact .inr ⟨g,cap,cur,rfl,hb,(hw g rfl).trans hg,rest⟩
structure Mm where
 w:World
 S:EN
 H:List Ob
 E:Nat→Option Et
def okK (k:Option Nat) (ob:Ob):Prop:=∀ n n',k=some n→ob.k=some (some n')→n≤n'
def Vm (m:Mm) (id off:Nat) (k:Option Nat) (v:Value):Prop :=
 v.oneCell'=true∧∃ ob,m.H[id]?=some ob∧okK k ob∧(ob.k=some k→∃ e g,m.E id=some e∧MQ e.hv=some g∧v=.pointer (some ⟨g,off,none⟩))
def Ep (m:Mm):C→Value→Prop
 | .d x,v=>Bx m.w m.S x v
 | .own id n,v=>v.oneCell'=true∧∃ ob,m.H[id]?=some ob∧okK (some n) ob∧(ob.k=some (some n)→∃ e,m.E id=some e∧v=e.hv)
 | .ref id off k,v=>Vm m id off k v
 | .clo fn caps,v=>∃ vs:List Value,v=.func fn #[] vs.toArray∧Ba (fun (p:Nat × Nat × Option Nat) v=>Vm m p.1 p.2.1 p.2.2 v) caps vs
 | .emp,v=>∃ A:Option Addr,v=.slice A 0 0
theorem Ep.one {m:Mm} {c:C} (h:Ep m c v):v.oneCell'=true:=by
 cases c with
 | d x=>exact Bx.one h
 | own id n=>exact h.1
 | ref id off k=>exact h.1
 | clo fn caps=>obtain ⟨vs,rfl,_⟩:=h;rfl
 | emp=>obtain ⟨A,rfl⟩:=h;rfl
def Abf (m:Mm):Ob→Et→Prop
 | .box t cs,.box _ vs t'=>t'=t∧Ba (Ep m) cs vs
 | .row t s n cs,.row _ t' s' n' xs=>t'=t∧s'=s∧n'=n∧Ba (Ep m) cs xs
 | _,_=>False
def Abg (a b:Et):Prop:=∀ g,a.own=some g→b.own≠some g
structure Cx (b0:Nat) (m:Mm):Prop where
 each:∀ id e,m.E id=some e→e.at_ m.w b0∧∃ ob,m.H[id]?=some ob∧Abf m ob e
 apart:∀ i j e e',i≠j→m.E i=some e→m.E j=some e'→Abg e e'
 far:∀ id e g t,m.E id=some e→e.own=some g→¬ m.S t g
 lt:∀ t b,m.S t b→b<m.w.heap.size
def MR (m m':Mm) (id:Nat) (ob ob':Ob):Prop:=∀ k,ob'.k=some k→(ob.k=some k∧∀ e,m.E id=some e→∃ e',m'.E id=some e'∧e'.hv=e.hv)∨(∃ n n',k=some n'∧ob.k=some (some n)∧n<n')
structure Le (m m':Mm):Prop where
 S:∀ t b,m.S t b→m'.S t b
 T:m'.S true=m.S true
 heap:∀ t b,m.S t b→m'.w.heap[b]?=m.w.heap[b]?
 H:∀ (id:Nat) (ob:Ob),m.H[id]?=some ob→∃ ob',m'.H[id]?=some ob'∧MR m m' id ob ob'
theorem MR.same {m m':Mm} {ob:Ob} (h:∀ e,m.E id=some e→m'.E id=some e):MR m m' id ob ob:=fun k hk=>.inl ⟨hk,fun e he=>⟨e,h e he,rfl⟩⟩
theorem Le.refl (m:Mm):Le m m:=⟨fun _ _ h=>h,rfl,fun _ _ _=>rfl,fun _ ob h=>⟨ob,h,MR.same fun _ he=>he⟩⟩
theorem Le.trans {a b c:Mm} (h:Le a b) (k:Le b c):Le a c :=
 ⟨fun t x hx=>k.S t x (h.S t x hx),k.T.trans h.T,fun t x hx=>(k.heap t x (h.S t x hx)).trans (h.heap t x hx),fun id ob hob=>by
  obtain ⟨o1,h1,h2⟩:=h.H id ob hob
  obtain ⟨o2,h3,h4⟩:=k.H id o1 h1
  refine ⟨o2,h3,fun q hq=>?_⟩
  rcases h4 q hq with ⟨h5,h6⟩|⟨n,n',rfl,h5,h6⟩
  ·rcases h2 q h5 with ⟨h7,h8⟩|⟨n,n',rfl,h7,h8⟩
   ·refine .inl ⟨h7,fun e he=>?_⟩
    obtain ⟨e1,h9,h10⟩:=h8 e he
    obtain ⟨e2,h11,h12⟩:=h6 e1 h9
    exact ⟨e2,h11,h12.trans h10⟩
   ·exact .inr ⟨n,n',rfl,h7,h8⟩
  ·rcases h2 _ h5 with ⟨h7,_⟩|⟨p,p',h7,h8,h9⟩
   ·exact .inr ⟨n,n',rfl,h7,h6⟩
   ·cases h7
    exact .inr ⟨p,n',rfl,h8,by omega⟩⟩
theorem okK.newer {m m':Mm} {ob ob':Ob} (h:MR m m' id ob ob') {k:Option Nat} (hk:okK k ob):okK k ob':=fun n n' h1 h2=>by
 rcases h _ h2 with ⟨h3,_⟩|⟨p,p',h3,h4,h5⟩
 ·exact hk n n' h1 h3
 ·cases h3
  have:=hk n p h1 h4
  omega
theorem MR.old {m m':Mm} {ob ob':Ob} (h:MR m m' id ob ob') {k:Option Nat} (hk:okK k ob) (hv:ob'.k=some k):ob.k=some k∧∀ e,m.E id=some e→∃ e',m'.E id=some e'∧e'.hv=e.hv:=by
 rcases h _ hv with h3|⟨p,p',h3,h4,h5⟩
 ·exact h3
 ·subst h3
  have:=hk p' p rfl h4
  omega
theorem Bx.le {m m':Mm} (h:Le m m') {d:D} {v:Value} (hd:Bx m.w m.S d v):Bx m'.w m'.S d v:=hd.mono h.S h.heap
theorem Vm.le {m m':Mm} (h:Le m m') {id off:Nat} {k:Option Nat} {v:Value} (hp:Vm m id off k v):Vm m' id off k v:=by
 obtain ⟨h0,ob,h1,hok,h2⟩:=hp
 obtain ⟨ob',h3,h4⟩:=h.H id ob h1
 refine ⟨h0,ob',h3,hok.newer h4,fun hk=>?_⟩
 obtain ⟨h5,h6⟩:=h4.old hok hk
 obtain ⟨e,g,h7,h8,h9⟩:=h2 h5
 obtain ⟨e',h10,h11⟩:=h6 e h7
 exact ⟨e',g,h10,by rw [h11];exact h8,h9⟩
theorem Ep.le {m m':Mm} (h:Le m m') {c:C} {v:Value} (hc:Ep m c v):Ep m' c v:=by
 cases c with
 | d x=>exact Bx.le h hc
 | own id n =>
  obtain ⟨h0,ob,h1,hok,h2⟩:=hc
  obtain ⟨ob',h3,h4⟩:=h.H id ob h1
  refine ⟨h0,ob',h3,hok.newer h4,fun hk=>?_⟩
  obtain ⟨h5,h6⟩:=h4.old hok hk
  obtain ⟨e,h7,h8⟩:=h2 h5
  obtain ⟨e',h10,h11⟩:=h6 e h7
  exact ⟨e',h10,by rw [h11];exact h8⟩
 | ref id off k=>exact Vm.le h hc
 | clo fn caps =>
  obtain ⟨vs,h1,h2,h3⟩:=hc
  exact ⟨vs,h1,h2,fun j p v hp hv=>Vm.le h (h3 j p v hp hv)⟩
 | emp=>exact hc
theorem Ba.imp {α β:Type} {R R':α→β→Prop} (h:∀ a b,R a b→R' a b) {aS:List α} {bs:List β} (hl:Ba R aS bs):Ba R' aS bs:=⟨hl.1,fun j a b ha hb=>h a b (hl.2 j a b ha hb)⟩
theorem Ba.nil_ {α β:Type} {R:α→β→Prop}:Ba R [] []:=⟨rfl,fun j a b h=>by simp at h⟩
theorem Ba.cons_ {α β:Type} {R:α→β→Prop} {a:α} {b:β} {aS:List α} {bs:List β} (h:R a b) (hl:Ba R aS bs):Ba R (a::aS) (b::bs) :=
 ⟨by simp [hl.1],fun j x y hx hy=>by
  rcases j with _|j
  ·simp at hx hy;subst hx;subst hy;exact h
  ·exact hl.2 j x y (by simpa using hx) (by simpa using hy)⟩
theorem Ba.uncons {α β:Type} {R:α→β→Prop} {a:α} {aS:List α} {bs:List β} (h:Ba R (a::aS) bs):∃ b bs',bs=b::bs'∧R a b∧Ba R aS bs':=by
 rcases bs with _|⟨b,bs⟩
 ·have:=h.1;simp at this
 ·exact ⟨b,bs,rfl,h.2 0 a b rfl rfl,by have:=h.1;simpa using this,fun j x y hx hy=>h.2 (j+1) x y (by simpa using hx) (by simpa using hy)⟩
theorem Ba.unnil {α β:Type} {R:α→β→Prop} {bs:List β} (h:Ba R ([]:List α) bs):bs=[]:=by
 have:=h.1
 exact bz (by simpa using this.symm)
theorem Ba.app {α β:Type} {R:α→β→Prop} {aS aS':List α} {bs bs':List β} (h:Ba R aS bs) (h':Ba R aS' bs'):Ba R (aS++aS') (bs++bs'):=by
 induction aS generalizing bs with
 | nil=>rw [h.unnil];exact h'
 | cons a aS ih =>
  obtain ⟨b,bs',rfl,h1,h2⟩:=h.uncons
  exact Ba.cons_ h1 (ih h2)
theorem Ba.take_ {α β:Type} {R:α→β→Prop} {aS:List α} {bs:List β} (h:Ba R aS bs) (n:Nat):Ba R (aS.take n) (bs.take n) :=
 ⟨by simp [h.1],fun j a b ha hb=>by
  rw [cq] at ha hb
  split at ha
  ·rw [if_pos (by assumption)] at hb;exact h.2 j a b ha hb
  ·cases ha⟩
theorem Ba.drop_ {α β:Type} {R:α→β→Prop} {aS:List α} {bs:List β} (h:Ba R aS bs) (n:Nat):Ba R (aS.drop n) (bs.drop n) :=
 ⟨by simp [h.1],fun j a b ha hb=>by
  rw [bt] at ha hb
  exact h.2 _ a b ha hb⟩
theorem Ba.at_ {α β:Type} {R:α→β→Prop} {aS:List α} {bs:List β} (h:Ba R aS bs) {j:Nat} {a:α} (ha:aS[j]?=some a):∃ b,bs[j]?=some b∧R a b:=by
 have hj:=(gS.1 ha).1
 have hb:bs[j]?=some (bs[j]'(by rw [←h.1];exact hj)):=gE _
 exact ⟨_,hb,h.2 j a _ ha hb⟩
theorem Ba.map_l {α β γ:Type} {R:α→β→Prop} {f:γ→α} {cs:List γ} {bs:List β}:Ba R (cs.map f) bs ↔ Ba (fun c b=>R (f c) b) cs bs:=by
 unfold Ba
 simp only [af,ag,dj]
 refine and_congr_right fun _=>⟨fun h j a b ha hb=>h j _ b ⟨a,ha,rfl⟩ hb,fun h j a b ha hb=>?_⟩
 obtain ⟨c,hc,rfl⟩:=ha
 exact h j c b hc hb
theorem Abf.le {m m':Mm} (h:Le m m') {ob:Ob} {e:Et} (he:Abf m ob e):Abf m' ob e:=by
 cases ob <;> cases e <;> simp only [Abf] at he ⊢
 ·exact ⟨he.1,he.2.imp fun _ _=>Ep.le h⟩
 ·exact ⟨he.1,he.2.1,he.2.2.1,he.2.2.2.imp fun _ _=>Ep.le h⟩
inductive A where
 | one (d:D)
 | agg (ds:List D)
def Ft (w:World) (S:EN):A→Value→Prop
 | .one d,v=>Bx w S d v
 | .agg ds,v=>∃ xs:List Value,v=.agg xs.toArray∧Ba (Bx w S) ds xs
inductive TC where
 | one (c:C)
 | agg (cs:List C)
def Ank (m:Mm):TC→Value→Prop
 | .one c,v=>Ep m c v
 | .agg cs,v=>∃ xs:List Value,v=.agg xs.toArray∧Ba (Ep m) cs xs
theorem Ank.le {m m':Mm} (h:Le m m') {x:TC} {v:Value} (hx:Ank m x v):Ank m' x v:=by
 cases x with
 | one c=>exact Ep.le h hx
 | agg cs =>
  obtain ⟨xs,h1,h2⟩:=hx
  exact ⟨xs,h1,h2.imp fun _ _=>Ep.le h⟩
inductive X where
 | one (c:C)
 | agg (cs:List C)
 | tup (l:List A)
 | any
 | pin (l:List (Nat × Nat))
 | tupC (l:List TC)
def FU (m:Mm):X→Value→Prop
 | .one c,v=>Ep m c v
 | .agg cs,v=>∃ xs:List Value,v=.agg xs.toArray∧Ba (Ep m) cs xs
 | .tup l,v=>∃ vs:List Value,v=.tuple vs.toArray∧Ba (Ft m.w m.S) l vs
 | .any,_=>True
 | .pin l,_=>∀ p∈l,Vm m p.1 0 none (.pointer (some ⟨p.2,0,none⟩))
 | .tupC l,v=>∃ vs:List Value,v=.tuple vs.toArray∧Ba (Ank m) l vs
theorem Ft.mono {S S':EN} (hS:∀ t b,S t b→S' t b) (hw:∀ t b,S t b→w'.heap[b]?=w.heap[b]?) {x:A} {v:Value} (h:Ft w S x v):Ft w' S' x v:=by
 cases x with
 | one d=>exact Bx.mono hS hw h
 | agg ds =>
  obtain ⟨xs,h1,h2⟩:=h
  exact ⟨xs,h1,h2.imp fun _ _=>Bx.mono hS hw⟩
theorem FU.le {m m':Mm} (h:Le m m') {x:X} {v:Value} (hx:FU m x v):FU m' x v:=by
 cases x with
 | one c=>exact Ep.le h hx
 | agg cs =>
  obtain ⟨xs,h1,h2⟩:=hx
  exact ⟨xs,h1,h2.imp fun _ _=>Ep.le h⟩
 | tup l =>
  obtain ⟨xs,h1,h2⟩:=hx
  exact ⟨xs,h1,h2.imp fun _ _=>Ft.mono h.S h.heap⟩
 | any=>trivial
 | pin l=>exact fun p hp=>Vm.le h (hx p hp)
 | tupC l =>
  obtain ⟨xs,h1,h2⟩:=hx
  exact ⟨xs,h1,h2.imp fun _ _=>Ank.le h⟩
abbrev Frm:=Nat→X
def Frm.put (F:Frm) (dst:Option Tmp) (x:X):Frm:=match dst with
 | some d=>fun t=>match Nat.beq t d with|true=>x|false=>F t
 | none=>F
def Tot (m:Mm):Prop:=∀ (id:Nat) (ob:Ob),m.H[id]?=some ob→ob.k.isSome=true→(m.E id).isSome=true
def Akj (S:EN) (w w':World):EN:=fun t b=>t=false∧(S false b∨(w.heap.size≤b∧b<w'.heap.size))
def Afc (w:World) (S:EN):List A→Value→Prop
 | [a],v=>Ft w S a v
 | l,v=>∃ vs:List Value,v=.tuple vs.toArray∧Ba (Ft w S) l vs
def CV (P:Program) (G:World→Prop) (f:FuncId) (args res:List A):Prop :=
 ∀ (w:World) (S:EN) (vs:List Value),G w→(∀ t b,S t b→b<w.heap.size)→Ba (Ft w S) args vs →
  Calls P f vs.toArray w fun e w'=>∃ v,e=.returned v∧Afc w' (Akj S w w') res v∧Below w.heap.size w w'
def Mm.plus (m:Mm) (w':World) (n:Nat) (es:List Et):Mm :=
 ⟨w',fun t b=>m.S t b∨(t=false∧m.w.heap.size≤b∧b<w'.heap.size∧∀ e∈es,e.own≠some b),m.H,fun id=>if n≤id∧id<n+es.length then es[id - n]? else m.E id⟩
structure Anl (b0:Nat) (m:Mm) (n:Nat) (obs:List Ob) (w':World) (es:List Et):Prop where
 len:es.length=obs.length
 below:Below m.w.heap.size m.w w'
 each:∀ (k:Nat) (e:Et),es[k]?=some e→e.at_ w' b0∧(∀ g,e.own=some g→m.w.heap.size≤g)∧∃ ob,obs[k]?=some ob∧Abf (m.plus w' n es) ob e
 apart:es.Pairwise Abg
theorem MS {m:Mm} {n:Nat} {es:List Et} (hb:Below m.w.heap.size m.w w') (hlt:∀ t b,m.S t b→b<m.w.heap.size) (hE:∀ k,k<es.length→m.E (n+k)=none):Le m (m.plus w' n es):=by
 refine ⟨fun _ _ h=>.inl h,funext fun b=>propext ⟨fun h=>h.elim (fun h=>h) (fun h=>by cases h.1),fun h=>.inl h⟩,fun t b h=>hb.block b (hlt t b h),fun id ob h=>⟨ob,h,MR.same fun e he=>?_⟩⟩
 show (if n≤id∧id<n+es.length then es[id - n]? else m.E id)=some e
 rw [if_neg]
 ·exact he
 ·rintro ⟨h1,h2⟩
  have:=hE (id - n) (by omega)
  rw [show n+(id - n)=id by omega,he] at this
  cases this
theorem Cx.plus {m:Mm} (hx:Cx b0 m) {w':World} {n:Nat} {obs:List Ob} {es:List Et} (hn:Anl b0 m n obs w' es) (hp:∀ (k:Nat) (ob:Ob),obs[k]?=some ob→m.H[n+k]?=some ob) (hE:∀ k,k<es.length→m.E (n+k)=none):Cx b0 (m.plus w' n es):=by
 have hle:=MS hn.below hx.lt hE (n:=n) (es:=es)
 have old:∀ id e,m.E id=some e→e.at_ w' b0:=fun id e he=>Et.same (hx.each id e he).1 fun g hg=>hn.below.block g (Et.lt (hx.each id e he).1 hg).2
 have get:∀ id e,(m.plus w' n es).E id=some e→(∃ k,id=n+k∧es[k]?=some e)∨(m.E id=some e∧¬ (n≤id∧id<n+es.length)):=fun id e he=>by
  have he':(if n≤id∧id<n+es.length then es[id - n]? else m.E id)=some e:=he
  split at he'
  ·rename_i h
   exact .inl ⟨id - n,by omega,he'⟩
  ·rename_i h
   exact .inr ⟨he',h⟩
 refine ⟨fun id e he=>?_,fun i j e e' hij hi hj g h1 h2=>?_,fun id e g t he hg hs=>?_,fun t b h=>?_⟩
 ·rcases get id e he with ⟨k,rfl,hk⟩|⟨h,_⟩
  ·obtain ⟨h1,h2,ob,h3,h4⟩:=hn.each k e hk
   exact ⟨h1,ob,hp k ob h3,h4⟩
  ·obtain ⟨ob,h1,h2⟩:=(hx.each id e h).2
   exact ⟨old id e h,ob,h1,h2.le hle⟩
 ·rcases get i e hi with ⟨k,rfl,hk⟩|⟨h,_⟩
  ·rcases get j e' hj with ⟨k',rfl,hk'⟩|⟨h',_⟩
   ·obtain ⟨q1,rfl⟩:=gS.1 hk
    obtain ⟨q2,rfl⟩:=gS.1 hk'
    have hp:=List.pairwise_iff_getElem.1 hn.apart
    rcases Nat.lt_or_gt_of_ne (show k≠k' by omega) with hlt|hlt
    ·exact hp k k' q1 q2 hlt g h1 h2
    ·exact hp k' k q2 q1 hlt g h2 h1
   ·have a1:=(hn.each k e hk).2.1 g h1
    have a2:=(Et.lt (hx.each j e' h').1 h2).2
    omega
  ·rcases get j e' hj with ⟨k',rfl,hk'⟩|⟨h',_⟩
   ·have a1:=(hn.each k' e' hk').2.1 g h2
    have a2:=(Et.lt (hx.each i e h).1 h1).2
    omega
   ·exact hx.apart i j e e' hij h h' g h1 h2
 ·rcases get id e he with ⟨k,rfl,hk⟩|⟨h,_⟩
  ·rcases hs with hs|⟨_,_,_,h4⟩
   ·have a1:=(hn.each k e hk).2.1 g hg
    have a2:=hx.lt t g hs
    omega
   ·exact h4 e (gM hk) hg
  ·rcases hs with hs|⟨_,h2,_,_⟩
   ·exact hx.far id e g t h hg hs
   ·have:=(Et.lt (hx.each id e h).1 hg).2
    omega
 ·rcases h with h|⟨_,_,h,_⟩
  ·exact al (hx.lt t b h) hn.below.size
  ·exact h
def AmG (m:Mm) (F:Frm) (a:Act) (o:Oper):Prop:=∀ t,Operand.tmp t∈o.op.operands.toList→FU m (F t) (a.tmps.getD t undef)
def AZ (P:Program) (G:World→Prop) (o:Oper) (F:Frm) (H:List Ob) (x:X) (obs:List Ob):Prop :=
 ∀ (b0:Nat) (m:Mm) (a:Act),(H++obs) <+: m.H→Cx b0 m→G m.w→b0≤m.w.heap.size→(∀ k,k<obs.length→m.E (H.length+k)=none)→AmG m F a o →
  ∀ (K:Act→World→Prop) (Q:Exit→Act→World→Prop),(∀ v w' es,Anl b0 m H.length obs w' es→FU (m.plus w' H.length es) x v→K (a.put o.dst v) w')→o.wp P a m.w K Q
def TOk (P:Program) (G:World→Prop) (o:Oper) (F:Frm) (H:List Ob) (x:X) (H2:List Ob):Prop :=
 ∀ (b0:Nat) (m:Mm) (a:Act),m.H=H→Cx b0 m→Tot m→G m.w→b0≤m.w.heap.size→AmG m F a o →
  ∀ (K:Act→World→Prop) (Q:Exit→Act→World→Prop),(∀ v m',m'.H=H2→Cx b0 m'→Tot m'→Le m m'→Below b0 m.w m'.w→(∀ b,m'.S false b→m.S false b∨b0≤b)→FU m' x v→K (a.put o.dst v) m'.w)→o.wp P a m.w K Q
theorem getElem?_pre {α:Type} {a b:List α} (h:a <+: b) {i:Nat} {x:α} (hi:a[i]?=some x):b[i]?=some x:=by
 obtain ⟨c,rfl⟩:=h
 rw [ek (gS.1 hi).1]
 exact hi
theorem VB (m:Mm) (obs:List Ob):Le m { m with H:=m.H++obs } :=
 ⟨fun _ _ h=>h,rfl,fun _ _ _=>rfl,fun id ob h=>⟨ob,by rw [ek (gS.1 h).1];exact h,MR.same fun _ he=>he⟩⟩
theorem Cx.more {m:Mm} (hx:Cx b0 m) (obs:List Ob):Cx b0 { m with H:=m.H++obs } :=
 ⟨fun id e he=>by
  obtain ⟨h1,ob,h2,h3⟩:=hx.each id e he
  exact ⟨h1,ob,by rw [ek (gS.1 h2).1];exact h2,h3.le (VB m obs)⟩,hx.apart,hx.far,hx.lt⟩
theorem Abh {m:Mm} (hx:Cx b0 m) {id:Nat} (h:m.H.length≤id):m.E id=none:=by
 cases he:m.E id with
 | none=>rfl
 | some e =>
  obtain ⟨_,ob,h2,_⟩:=hx.each id e he
  have:=(gS.1 h2).1
  omega
theorem AZ.tok {G:World→Prop} {F:Frm} {H:List Ob} {x:X} {obs:List Ob} (h:AZ P G o F H x obs):TOk P G o F H x (H++obs):=by
 intro b0 m a hH hx ht hg hb hor K Q hK
 subst hH
 have hle:=VB m obs
 refine h b0 { m with H:=m.H++obs } a (ks _) (hx.more obs) hg hb (fun k hk=>Abh hx (by omega)) (fun t hi=>(hor t hi).le hle) K Q fun v w' es hn hv=>?_
 have hE:∀ k,k<es.length→({ m with H:=m.H++obs }:Mm).E (m.H.length+k)=none:=fun k hk=>Abh hx (by omega)
 refine hK v _ rfl ((hx.more obs).plus hn (fun k ob hk=>?_) hE) (fun id ob hob hk=>?_) (hle.trans (MS hn.below hx.lt hE)) (hn.below.mono hb) (fun b hb'=>?_) hv
 ·show (m.H++obs)[m.H.length+k]?=some ob
  rw [dw (by omega),show m.H.length+k - m.H.length=k by omega]
  exact hk
 ·have hob':(m.H++obs)[id]?=some ob:=hob
  show (if m.H.length≤id∧id<m.H.length+es.length then es[id - m.H.length]? else m.E id).isSome=true
  by_cases hlt:id<m.H.length
  ·rw [if_neg (by omega)]
   rw [ek hlt] at hob'
   exact ht id ob hob' hk
  ·have hl:=(gS.1 hob').1
   rw [ao] at hl
   have:=hn.len
   rw [if_pos (by omega),gE (by omega)]
   rfl
 ·rcases hb' with h1|⟨_,h2,_⟩
  ·exact .inl h1
  ·exact .inr (lT hb h2)
def CS (ops:Array Oper) (o:Oper) (F:Frm) (b:Bool):Prop:=match o.guard with
 | none=>b=true
 | some (j,want)=>∃ oj t,ops[j]?=some oj∧oj.dst=some t∧((∃ bb,F t=.one (.d (.val (.bool bb)))∧b=(bb == want))∨(F t=.tup []∧b=false))
theorem CS.is {ops:Array Oper} {F:Frm} {b:Bool} (h:CS ops o F b) {m:Mm} {tmps:Array Value} (hr:∀ t∈o.looksAt ops,FU m (F t) (tmps.getD t undef)):Region.wanted o (yielded ops tmps)=b:=by
 unfold CS at h
 unfold Region.wanted
 cases hg:o.guard with
 | none=>rw [hg] at h;exact h.symm
 | some p =>
  obtain ⟨j,want⟩:=p
  rw [hg] at h
  obtain ⟨oj,t,h1,h2,h3⟩:=h
  have ht:t∈o.looksAt ops:=by
   unfold Oper.looksAt
   rw [hg]
   simp [h1,h2]
  have hx:=hr t ht
  rcases h3 with ⟨bb,h3,rfl⟩|⟨h3,rfl⟩
  rotate_left
  ·rw [h3] at hx
   obtain ⟨xs,hv,hl⟩:=hx
   rw [hl.unnil] at hv
   have hy:yielded ops tmps j=none:=by
    unfold yielded
    simp only [h1,h2,Option.bind_some]
    rw [gr] at hv
    cases hc:tmps[t]? with
    | none=>rfl
    | some u=>rw [hc] at hv;simp only [bf] at hv;subst hv;rfl
   show (yielded ops tmps j == some want)=false
   rw [hy]
   rfl
  rw [h3] at hx
  have hv:tmps.getD t undef=.bool bb:=by
   have hx':Bx m.w m.S (.val (.bool bb)) (tmps.getD t undef):=hx
   generalize tmps.getD t undef=u at hx'
   cases hx'
   rfl
  have hy:yielded ops tmps j=some bb:=by
   unfold yielded
   simp only [h1,h2,Option.bind_some]
   rw [gr] at hv
   cases hc:tmps[t]? with
   | none=>rw [hc] at hv;cases hv
   | some u=>rw [hc] at hv;simp only [bf] at hv;subst hv;rfl
  show (yielded ops tmps j == some want)=(bb == want)
  rw [hy]
  cases bb <;> cases want <;> rfl
section
variable (P:Program) (G:World→Prop) (ops:Array Oper)
def Ch:List Oper→Frm→List Ob→(Frm→List Ob→Prop)→Prop
 | [],F,H,K=>K F H
 | o::l,F,H,K=>(CS ops o F false∧Ch l (F.put o.dst (.tup [])) H K)∨(CS ops o F true∧∃ x obs,AZ P G o F H x obs∧Ch l (F.put o.dst x) (H++obs) K)
def Ti:List Oper→Frm→List Ob→(Frm→List Ob→Prop)→Prop
 | [],F,H,K=>K F H
 | o::l,F,H,K=>(CS ops o F false∧Ti l (F.put o.dst (.tup [])) H K)∨(CS ops o F true∧∃ x H2,TOk P G o F H x H2∧Ti l (F.put o.dst x) H2 K)
end
section
variable {P:Program} {G:World→Prop} {ops:Array Oper}
theorem Akk {F:Frm} {H:List Ob} {K:Frm→List Ob→Prop} {x:X} {obs:List Ob} (hg:o.guard=none) (h:AZ P G o F H x obs) (k:Ch P G ops l (F.put o.dst x) (H++obs) K):Ch P G ops (o::l) F H K :=
 .inr ⟨by unfold CS;rw [hg],x,obs,h,k⟩
theorem Afd {F:Frm} {H:List Ob} {K:Frm→List Ob→Prop} {x:X} (hg:o.guard=none) (h:AZ P G o F H x []) (k:Ch P G ops l (F.put o.dst x) H K):Ch P G ops (o::l) F H K :=
 .inr ⟨by unfold CS;rw [hg],x,[],h,by rw [bc];exact k⟩
theorem RC {F:Frm} {H H2:List Ob} {K:Frm→List Ob→Prop} {x:X} (hg:o.guard=none) (h:TOk P G o F H x H2) (k:Ti P G ops l (F.put o.dst x) H2 K):Ti P G ops (o::l) F H K :=
 .inr ⟨by unfold CS;rw [hg],x,H2,h,k⟩
theorem Anm {F:Frm} {H:List Ob} {K:Frm→List Ob→Prop} {x:X} {obs:List Ob} (hg:o.guard=none) (h:AZ P G o F H x obs) (k:Ti P G ops l (F.put o.dst x) (H++obs) K):Ti P G ops (o::l) F H K :=
 RC hg h.tok k
theorem Ann {F:Frm} {H:List Ob} {K:Frm→List Ob→Prop} {x:X} (hg:o.guard=none) (h:AZ P G o F H x []) (k:Ti P G ops l (F.put o.dst x) H K):Ti P G ops (o::l) F H K:=by
 have:=h.tok
 rw [bc] at this
 exact RC hg this k
theorem Ch.seq:∀ {l:List Oper} {F:Frm} {H:List Ob} {K:Frm→List Ob→Prop},Ch P G ops l F H K →
  ∃ (Fs:Nat→Frm) (Hs:Nat→List Ob) (xs:Nat→X) (obs:Nat→List Ob),Fs 0=F∧Hs 0=H∧K (Fs l.length) (Hs l.length)∧∀ (i:Nat) (o:Oper),l[i]?=some o→Hs (i+1)=Hs i++obs i∧Fs (i+1)=(Fs i).put o.dst (xs i) ∧
   ((CS ops o (Fs i) false∧xs i=.tup []∧obs i=[])∨(CS ops o (Fs i) true∧AZ P G o (Fs i) (Hs i) (xs i) (obs i)))
 | [],F,H,K,h=>⟨fun _=>F,fun _=>H,fun _=>.any,fun _=>[],rfl,rfl,h,fun i o hi=>by simp at hi⟩
 | o::l,F,H,K,h=>by
  have key:∃ x obs,((CS ops o F false∧x=.tup []∧obs=[])∨(CS ops o F true∧AZ P G o F H x obs))∧Ch P G ops l (F.put o.dst x) (H++obs) K:=by
   rcases h with ⟨h1,h2⟩|⟨h1,x,obs,h2,h3⟩
   ·exact ⟨.tup [],[],.inl ⟨h1,rfl,rfl⟩,by rw [bc];exact h2⟩
   ·exact ⟨x,obs,.inr ⟨h1,h2⟩,h3⟩
  obtain ⟨x,ob,hx,hc⟩:=key
  obtain ⟨Fs,Hs,xs,obs,h1,h2,h3,h4⟩:=Ch.seq hc
  refine ⟨fun i=>match i with|0=>F|i+1=>Fs i,fun i=>match i with|0=>H|i+1=>Hs i,fun i=>match i with|0=>x|i+1=>xs i,fun i=>match i with|0=>ob|i+1=>obs i,rfl,rfl,by simpa using h3,fun i o' hi=>?_⟩
  rcases i with _|i
  ·simp only [gu,Option.some.injEq] at hi
   subst hi
   exact ⟨h2,h1,hx⟩
  ·simp only [fi] at hi
   exact h4 i o' hi
structure SD where
 S:EN
 ds:List Deferred
instance:CoeFun SD fun _=>Bool→Nat→Prop:=⟨SD.S⟩
structure St (b0 N:Nat) (w0:World) (S0:SD) (F:Frm) (a:Act) (m:Mm):Prop where
 cx:Cx b0 m
 tot:Tot m
 frame:∀ t,FU m (F t) (a.tmps.getD t undef)
 size:a.tmps.size=N
 defers:a.defers=S0.ds
 below:Below b0 w0 m.w
 base:b0≤w0.heap.size
 S:∀ b,m.S false b→S0 false b∨b0≤b
 T:m.S true=S0 true
theorem Ij (a:Act) (dst:Option Tmp) (v:Value):(a.put dst v).tmps.size=a.tmps.size:=by cases dst <;> simp [Act.put]
theorem RD {dst:Option Tmp} (hN:a.tmps.size=N) (hd:∀ d,dst=some d→d<N) (t:Nat):(a.put dst v).tmps.getD t undef=if dst=some t then v else a.tmps.getD t undef:=by
 cases dst with
 | none=>simp [Act.put]
 | some d =>
  have hlt:=hd d rfl
  simp only [Act.put,gr,Array.getElem?_setIfInBounds,Option.some.injEq]
  by_cases h:d=t
  ·subst h
   rw [if_pos rfl,if_pos (show d<a.tmps.size by rw [hN];exact hlt),if_pos rfl]
   rfl
  ·rw [if_neg h,if_neg h]
theorem IQ (F:Frm) (dst:Option Tmp) (x:X) (t:Nat):F.put dst x t=if dst=some t then x else F t:=by
 cases dst with
 | none=>simp [Frm.put]
 | some d =>
  simp only [Frm.put,Option.some.injEq]
  by_cases h:t=d
  ·subst h
   rw [if_pos rfl,fk]
  ·rw [if_neg (fun e=>h e.symm),show Nat.beq t d=false from by
    cases hb:Nat.beq t d with
    | false=>rfl
    | true=>exact absurd (fa hb) h]
theorem TD {m m':Mm} {F:Frm} {dst:Option Tmp} {x:X} (hN:a.tmps.size=N) (hd:∀ d,dst=some d→d<N) (hle:Le m m') (hf:∀ t,FU m (F t) (a.tmps.getD t undef)) (hx:FU m' x v) (t:Nat) :
  FU m' (F.put dst x t) ((a.put dst v).tmps.getD t undef):=by
 rw [IQ,RD hN hd]
 split
 ·exact hx
 ·exact (hf t).le hle
def Th (N:Nat) (l:List Oper):Bool:=l.all fun o=>match o.dst with|none=>true|some d=>decide (d<N)
theorem VE (h:Th N l=true) {o:Oper} (ho:o∈l):∀ d,o.dst=some d→d<N:=fun d hd=>by
 have:=List.all_eq_true.1 h o ho
 rw [hd] at this
 simpa using this
theorem Eq (a:Act) (dst:Option Tmp) (v:Value):(a.put dst v).defers=a.defers:=by cases dst <;> rfl
theorem TE {t:Nat} (h:Operand.tmp t∈o.op.operands.toList):t∈o.looksAt ops:=by
 unfold Oper.looksAt
 refine List.mem_append.2 (.inl (List.mem_filterMap.2 ⟨_,h,rfl⟩))
theorem Zm {b0 N:Nat} {w0:World} {S0:SD} (hG:∀ w',Below b0 w0 w'→G w') {Q:Exit→Act→World→Prop} :
  ∀ (l:List Oper) (F:Frm) (a:Act) (m:Mm) (K:Frm→List Ob→Prop),Th N l=true→St b0 N w0 S0 F a m→Ti P G ops l F m.H K→(∀ F' a' m',St b0 N w0 S0 F' a' m'→K F' m'.H→Q .normal a' m'.w)→wpList P ops Q l a m.w
 | [],F,a,m,K,_,hs,h,hq=>hq F a m hs h
 | o::l,F,a,m,K,hd,hs,h,hq=>by
  have hd0:=VE hd (o:=o) (by simp)
  have hd1:Th N l=true:=by
   unfold Th at hd ⊢
   simp only [List.all_cons,ai] at hd
   exact hd.2
  unfold wpList
  rcases h with ⟨hw,h⟩|⟨hw,x,H2,hok,h⟩
  ·rw [if_neg (by rw [hw.is (m:=m) (tmps:=a.tmps) fun t _=>hs.frame t];simp)]
   exact Zm hG l _ _ m K hd1 ⟨hs.cx,hs.tot,TD (x:=.tup []) hs.size hd0 (Le.refl m) hs.frame ⟨[],rfl,.nil_⟩,by rw [Ij];exact hs.size,by rw [Eq];exact hs.defers,hs.below,hs.base,hs.S,hs.T⟩ h hq
  ·rw [if_pos (hw.is (m:=m) (tmps:=a.tmps) fun t _=>hs.frame t)]
   refine .inl (hok b0 m a rfl hs.cx hs.tot (hG _ hs.below) (lT hs.base hs.below.size) (fun t _=>hs.frame t) _ _ fun v m' hH hx ht hle hb hS hv=>?_)
   subst hH
   exact Zm hG l _ _ m' K hd1 ⟨hx,ht,TD hs.size hd0 hle hs.frame hv,by rw [Ij];exact hs.size,by rw [Eq];exact hs.defers,hs.below.trans hb,hs.base,fun b hb'=>(hS b hb').elim (hs.S b) .inr,hle.T.trans hs.T⟩ h hq
def VF (md:Region.Mode) (ops:Array Oper):Bool:=(List.range ops.size).all fun i=>match ops[i]? with
 | none=>true
 | some oi=>(oi.after.all fun e=>!Region.binds md e || decide (e.on<i)) && (List.range ops.size).all fun j=>match ops[j]? with
  | none=>true
  | some oj=>match oj.dst with
   | none=>true
   | some t=>(!(oi.looksAt ops).contains t || (decide (j<i) && oi.after.any fun e=>Region.binds md e && decide (e.on=j))) && (decide (i=j) || oi.dst != some t)
theorem FA {md:Region.Mode} (h:VF md ops=true) {i:Nat} {oi:Oper} (hi:ops[i]?=some oi) :
  (∀ e∈oi.after,Region.binds md e=true→e.on<i)∧∀ j oj t,ops[j]?=some oj→oj.dst=some t→(t∈oi.looksAt ops→j<i∧∃ e∈oi.after,Region.binds md e=true∧e.on=j)∧(i≠j→oi.dst≠some t):=by
 have h1:=List.all_eq_true.1 h i (List.mem_range.2 (Array.getElem?_eq_some_iff.1 hi).1)
 simp only [hi,ai] at h1
 refine ⟨fun e he hb=>?_,fun j oj t hj ht=>?_⟩
 ·have:=Array.all_eq_true_iff_forall_mem.1 h1.1 e he
  simpa [hb] using this
 ·have h2:=List.all_eq_true.1 h1.2 j (List.mem_range.2 (Array.getElem?_eq_some_iff.1 hj).1)
  simp only [hj,ht,ai] at h2
  refine ⟨fun hm=>?_,fun hne=>?_⟩
  ·have h3:=h2.1
   simp only [fj,Bool.not_eq_true',List.contains_eq_mem,decide_eq_false_iff_not,hm,not_true_eq_false,false_or,ai,decide_eq_true_eq,Array.any_eq_true'] at h3
   obtain ⟨h4,e,h5,h6,h7⟩:=h3
   exact ⟨h4,e,h5,h6,h7⟩
  ·have h3:=h2.2
   simp only [fj,decide_eq_true_eq,hne,false_or,bne_iff_ne,ne_eq] at h3
   exact h3
def Afe (listed:Array Bool):Nat:=listed.toList.count false
theorem NZ {listed:Array Bool} {i:Nat} (h:listed.getD i true=false):Afe (listed.setIfInBounds i true)+1=Afe listed:=by
 have hi:i<listed.size:=by
  rcases cw i listed.size with h'|h'
  ·exact h'
  ·rw [gr,fq h'] at h
   cases h
 have hv:listed.toList[i]'(by simpa using hi)=false:=by simpa [Array.getD,hi] using h
 unfold Afe
 rw [Array.toList_setIfInBounds,List.count_set (by simpa using hi),hv]
 have:0<listed.toList.count false:=List.count_pos_iff.2 (by rw [←hv];exact fu _)
 show listed.toList.count false - 1+0+1=listed.toList.count false
 omega
structure Ano (b0 N:Nat) (w0:World) (S0:SD) (ops:Array Oper) (Fs:Nat→Frm) (Hs obs:Nat→List Ob) (listed:Array Bool) (a:Act) (m:Mm):Prop where
 H:m.H=Hs ops.size
 cx:Cx b0 m
 frame:∀ t,(∀ (i:Nat) (o:Oper),ops[i]?=some o→listed.getD i true=false→o.dst≠some t)→FU m (Fs ops.size t) (a.tmps.getD t undef)
 old:∀ (id:Nat) (ob:Ob),(Hs 0)[id]?=some ob→ob.k.isSome=true→(m.E id).isSome=true
 done:∀ i k,i<ops.size→listed.getD i true=true→k<(obs i).length→(m.E ((Hs i).length+k)).isSome=true
 todo:∀ i k,i<ops.size→listed.getD i true=false→k<(obs i).length→m.E ((Hs i).length+k)=none
 size:a.tmps.size=N
 defers:a.defers=S0.ds
 below:Below b0 w0 m.w
 base:b0≤w0.heap.size
 S:∀ b,m.S false b→S0 false b∨b0≤b
 T:m.S true=S0 true
 ls:listed.size=ops.size
theorem VG {S0:SD} (hG:∀ w',Below b0 w0 w'→G w') {md:Region.Mode} {Q:Exit→Act→World→Prop} (hC:VF md ops=true) (hd:Th N ops.toList=true)
  {Fs:Nat→Frm} {Hs:Nat→List Ob} {xs:Nat→X} {obs:Nat→List Ob}
  (hs:∀ (i:Nat) (o:Oper),ops[i]?=some o→Hs (i+1)=Hs i++obs i∧Fs (i+1)=(Fs i).put o.dst (xs i)∧((CS ops o (Fs i) false∧xs i=.tup []∧obs i=[])∨(CS ops o (Fs i) true∧AZ P G o (Fs i) (Hs i) (xs i) (obs i))))
  (hq:∀ a m,m.H=Hs ops.size→St b0 N w0 S0 (Fs ops.size) a m→Q .normal a m.w) :
  ∀ (f:Nat) (listed:Array Bool) (a:Act) (m:Mm),Ano b0 N w0 S0 ops Fs Hs obs listed a m→Afe listed≤f→wpAny P md ops Q f listed a m.w:=by
 have opAt:∀ i,i<ops.size→∃ o,ops[i]?=some o:=fun i hi=>⟨_,ir hi⟩
 have step:∀ i,i<ops.size→(Hs (i+1)).length=(Hs i).length+(obs i).length:=fun i hi=>by
  obtain ⟨o,ho⟩:=opAt i hi
  rw [(hs i o ho).1,ao]
 have mono:∀ d i,i+d≤ops.size→(Hs i).length≤(Hs (i+d)).length:=fun d=>by
  induction d with
  | zero=>intro i _;exact aa _
  | succ d ih =>
   intro i hi
   have h1:=ih i (by omega)
   have h2:=step (i+d) (by omega)
   rw [show i+(d+1)=i+d+1 by omega]
   omega
 have mono':∀ i j,i≤j→j≤ops.size→(Hs i).length≤(Hs j).length:=fun i j hij hj=>by
  have:=mono (j - i) i (by omega)
  rwa [show i+(j - i)=j by omega] at this
 have pre:∀ d i,i+d≤ops.size→Hs i <+: Hs (i+d):=fun d=>by
  induction d with
  | zero=>intro i _;exact ks _
  | succ d ih =>
   intro i hi
   obtain ⟨o,ho⟩:=opAt (i+d) (by omega)
   rw [show i+(d+1)=i+d+1 by omega,(hs _ o ho).1]
   exact (ih i (by omega)).trans (jo _ _)
 have keep:∀ t d i,i+d≤ops.size→(∀ (k:Nat) (o:Oper),i≤k→k<i+d→ops[k]?=some o→o.dst≠some t)→Fs (i+d) t=Fs i t:=fun t d=>by
  induction d with
  | zero=>intro i _ _;rfl
  | succ d ih =>
   intro i hi hk
   obtain ⟨o,ho⟩:=opAt (i+d) (by omega)
   rw [show i+(d+1)=i+d+1 by omega,(hs _ o ho).2.1,IQ,if_neg (hk (i+d) o (by omega) (by omega) ho)]
   exact ih i (by omega) fun k o' h1 h2=>hk k o' h1 (by omega)
 have look:∀ i o t,ops[i]?=some o→t∈o.looksAt ops→Fs ops.size t=Fs i t:=fun i o t ho ht=>by
  have hi:=(Array.getElem?_eq_some_iff.1 ho).1
  have:=keep t (ops.size - i) i (by omega) fun k o' h1 _ hk hdst=>by
   have:=((FA hC ho).2 k o' t hk hdst).1 ht
   omega
  rwa [show i+(ops.size - i)=ops.size by omega] at this
 have out:∀ i o t,ops[i]?=some o→o.dst=some t→Fs ops.size t=xs i:=fun i o t ho ht=>by
  have hi:=(Array.getElem?_eq_some_iff.1 ho).1
  have:=keep t (ops.size - (i+1)) (i+1) (by omega) fun k o' h1 _ hk hdst=>((FA hC ho).2 k o' t hk hdst).2 (by omega) ht
  rw [show i+1+(ops.size - (i+1))=ops.size by omega,(hs i o ho).2.1,IQ,if_pos ht] at this
  exact this
 have fin:∀ (listed:Array Bool) (a:Act) (m:Mm),Ano b0 N w0 S0 ops Fs Hs obs listed a m→Region.ready md ops listed=[]→Q .normal a m.w:=fun listed a m inv hr=>by
  have all:∀ i,i<ops.size→listed.getD i true=true:=by
   intro i
   induction i using Nat.strongRecOn with
   | _ i ih =>
    intro hi
    cases hl:listed.getD i true with
    | true=>rfl
    | false =>
     exfalso
     obtain ⟨o,ho⟩:=opAt i hi
     have:i∈Region.ready md ops listed:=mem_ready.2 ⟨hl,o,ho,fun e he hb=>by
      have hlt:=(FA hC ho).1 e he hb
      have:=ih e.on hlt (by omega)
      have hsz:=inv.ls
      rw [←Fz (by omega)]
      exact this⟩
     rw [hr] at this
     cases this
  refine hq a m inv.H ⟨inv.cx,fun id ob hob hk=>?_,fun t=>inv.frame t fun i o ho hl=>?_,inv.size,inv.defers,inv.below,inv.base,inv.S,inv.T⟩
  ·rw [inv.H] at hob
   by_cases hlt:id<(Hs 0).length
   ·refine inv.old id ob ?_ hk
    have hp:=pre ops.size 0 (by omega)
    rw [av] at hp
    obtain ⟨c,hc⟩:=hp
    rw [←hc,ek hlt] at hob
    exact hob
   ·have hid:=(gS.1 hob).1
    have find:∀ n,n≤ops.size→id<(Hs n).length→(m.E id).isSome=true:=fun n=>by
     induction n with
     | zero=>intro _ h;exact absurd h hlt
     | succ n ih =>
      intro hn h
      by_cases h':id<(Hs n).length
      ·exact ih (by omega) h'
      ·have hst:=step n (by omega)
       have:=inv.done n (id - (Hs n).length) (by omega) (all n (by omega)) (by omega)
       rwa [show (Hs n).length+(id - (Hs n).length)=id by omega] at this
    exact find ops.size (aa _) hid
  ·have:=all i (Array.getElem?_eq_some_iff.1 ho).1
   rw [hl] at this
   cases this
 have next:∀ (listed:Array Bool) (i:Nat) (a:Act) (m:Mm),Ano b0 N w0 S0 ops Fs Hs obs listed a m→i∈Region.ready md ops listed→∀ K:Act→World→Prop,
   (∀ a' m',Ano b0 N w0 S0 ops Fs Hs obs (listed.setIfInBounds i true) a' m'→K a' m'.w)→wpOp P ops Q i K a m.w:=fun listed i a m inv hr K hK=>by
  obtain ⟨hun,o,ho,hall⟩:=mem_ready.1 hr
  have hi:=(Array.getElem?_eq_some_iff.1 ho).1
  have hd0:∀ d,o.dst=some d→d<N:=VE hd (by simpa using Array.mem_of_getElem? ho)
  have getSet:∀ j,j≠i→(listed.setIfInBounds i true).getD j true=listed.getD j true:=fun j hj=>getD_set_ne true (Ne.symm hj)
  have getSame:(listed.setIfInBounds i true).getD i true=true:=by simp [Array.getD,inv.ls,hi]
  have hlook:∀ t∈o.looksAt ops,FU m (Fs i t) (a.tmps.getD t undef):=fun t ht=>by
   rw [←look i o t ho ht]
   refine inv.frame t fun k ok hok hkl hdst=>?_
   obtain ⟨h1,e,he,hb,hon⟩:=((FA hC ho).2 k ok t hok hdst).1 ht
   have h2:=hall e he hb
   rw [hon] at h2
   have hsz:=inv.ls
   rw [←Fz (by have:=(Array.getElem?_eq_some_iff.1 hok).1;omega),hkl] at h2
   cases h2
  have reFrame:∀ (m':Mm) (v:Value),Le m m'→FU m' (xs i) v→∀ t,(∀ (k:Nat) (ok:Oper),ops[k]?=some ok→(listed.setIfInBounds i true).getD k true=false→ok.dst≠some t)→FU m' (Fs ops.size t) ((a.put o.dst v).tmps.getD t undef):=fun m' v hle hv t ht=>by
   rw [RD inv.size hd0]
   split
   ·rename_i hdst
    rw [out i o t ho hdst]
    exact hv
   ·rename_i hdst
    refine (inv.frame t fun k ok hok hkl=>?_).le hle
    by_cases hki:k=i
    ·subst hki
     rw [ho] at hok
     cases hok
     exact hdst
    ·exact ht k ok hok (by rw [getSet k hki];exact hkl)
  obtain ⟨hH,hF,hcase⟩:=hs i o ho
  unfold wpOp
  simp only [ho]
  rcases hcase with ⟨hw,hx,hob⟩|⟨hw,hok⟩
  ·rw [if_neg (by rw [hw.is (m:=m) (tmps:=a.tmps) hlook];simp)]
   refine hK _ m ⟨inv.H,inv.cx,reFrame m undef (Le.refl m) (by rw [hx];exact ⟨[],rfl,.nil_⟩),inv.old,fun j k hj hl hk=>?_,fun j k hj hl hk=>?_,by rw [Ij];exact inv.size,by rw [Eq];exact inv.defers,inv.below,inv.base,inv.S,inv.T,by simp [inv.ls]⟩
   ·by_cases hji:j=i
    ·subst hji;rw [hob] at hk;simp at hk
    ·exact inv.done j k hj (by rw [←getSet j hji];exact hl) hk
   ·by_cases hji:j=i
    ·subst hji;rw [hob] at hk;simp at hk
    ·exact inv.todo j k hj (by rw [←getSet j hji];exact hl) hk
  ·rw [if_pos (hw.is (m:=m) (tmps:=a.tmps) hlook)]
   have hpre:(Hs i++obs i) <+: m.H:=by
    rw [inv.H,←hH]
    have:=pre (ops.size - (i+1)) (i+1) (by omega)
    rwa [show i+1+(ops.size - (i+1))=ops.size by omega] at this
   refine .inl (hok b0 m a hpre inv.cx (hG _ inv.below) (lT inv.base inv.below.size) (fun k hk=>inv.todo i k hi hun hk) (fun t ht=>hlook t (TE ht)) _ _ fun v w' es hn hv=>?_)
   have hE:∀ k,k<es.length→m.E ((Hs i).length+k)=none:=fun k hk=>inv.todo i k hi hun (by rw [←hn.len];exact hk)
   have hle:=MS hn.below inv.cx.lt hE
   have far:∀ j k,j<ops.size→j≠i→k<(obs j).length→(m.plus w' (Hs i).length es).E ((Hs j).length+k)=m.E ((Hs j).length+k):=fun j k hj hji hk=>by
    show (if (Hs i).length≤(Hs j).length+k∧(Hs j).length+k<(Hs i).length+es.length then _ else _)=_
    rw [if_neg]
    rintro ⟨h1,h2⟩
    rcases Nat.lt_or_gt_of_ne hji with hlt|hlt
    ·have h3:=mono' (j+1) i (by omega) (by omega)
     have h4:=step j hj
     omega
    ·have h3:=mono' (i+1) j (by omega) (by omega)
     have h4:=step i hi
     have h5:=hn.len
     omega
   refine hK _ (m.plus w' (Hs i).length es) ⟨inv.H,inv.cx.plus hn (fun k ob hk=>?_) hE,reFrame _ v hle hv,fun id ob hob hk=>?_,fun j k hj hl hk=>?_,fun j k hj hl hk=>?_,by rw [Ij];exact inv.size,by rw [Eq];exact inv.defers,
    inv.below.trans (hn.below.mono (lT inv.base inv.below.size)),inv.base,fun b hb=>?_,hle.T.trans inv.T,by simp [inv.ls]⟩
   ·refine getElem?_pre hpre ?_
    rw [dw (by omega),show (Hs i).length+k - (Hs i).length=k by omega]
    exact hk
   ·have h1:=(gS.1 hob).1
    have h2:=mono' 0 i (by omega) (by omega)
    show (if (Hs i).length≤id∧id<(Hs i).length+es.length then es[id - (Hs i).length]? else m.E id).isSome=true
    rw [if_neg (by omega)]
    exact inv.old id ob hob hk
   ·by_cases hji:j=i
    ·subst hji
     have h5:=hn.len
     show (if (Hs j).length≤(Hs j).length+k∧(Hs j).length+k<(Hs j).length+es.length then es[(Hs j).length+k - (Hs j).length]? else _).isSome=true
     rw [if_pos (by omega),gE (by omega)]
     rfl
    ·rw [far j k hj hji hk]
     exact inv.done j k hj (by rw [←getSet j hji];exact hl) hk
   ·by_cases hji:j=i
    ·subst hji;rw [getSame] at hl;cases hl
    ·rw [far j k hj hji hk]
     exact inv.todo j k hj (by rw [←getSet j hji];exact hl) hk
   ·rcases hb with hb|⟨_,hb,_⟩
    ·exact inv.S b hb
    ·exact .inr (lT (lT inv.base inv.below.size) hb)
 intro f
 induction f with
 | zero =>
  intro listed a m inv hc
  have hr:Region.ready md ops listed=[]:=by
   cases hr:Region.ready md ops listed with
   | nil=>rfl
   | cons i r =>
    have h1:=(mem_ready.1 (show i∈Region.ready md ops listed by rw [hr];simp)).1
    have:=NZ h1
    omega
  exact ⟨hr,fin listed a m inv hr⟩
 | succ f ih =>
  intro listed a m inv hc
  refine ⟨fun hr=>fin listed a m inv hr,fun i hi=>next listed i a m inv hi _ fun a' m' inv'=>ih _ a' m' inv' ?_⟩
  have:=NZ (mem_ready.1 hi).1
  omega
end
theorem Aff {Q:Exit→Act→World→Prop} (I:Nat→Act→World→Prop) {n0:Nat} (h₀:I n0 a w)
  (round:∀ n a w,I n a w→c.wp P (Exit.then (fun a' w'=>∃ n',n'<n∧I n' a' w') Q) a w):(Code.loop c).wp P Q a w:=by
 intro b k cs
 have key:∀ n a w,I n a w→∃ e a' w',Q e a' w'∧Arrives P (lone (b.at a (.code c::.inLoop c::k)) cs w) b k cs e a' w':=by
  intro n
  induction n using Nat.strongRecOn with
  | _ n ih =>
   intro a w hI
   obtain ⟨e,a₁,w₁,hq,harr⟩:=round n a w hI b (.inLoop c::k) cs
   cases e with
   | normal =>
    obtain ⟨n',hlt,hI₁⟩:=hq
    obtain ⟨e₂,a₂,w₂,hq₂,harr₂⟩:=ih n' hlt a₁ w₁ hI₁
    exact ⟨e₂,a₂,w₂,hq₂,.of_steps (Steps.trans harr (.one step_inLoop)) harr₂⟩
   | exit id=>exact ⟨_,a₁,w₁,hq,.pass (x:=.inLoop c) rfl (fun _ _=>.inl (by simp)) harr⟩
   | goto l=>exact ⟨_,a₁,w₁,hq,.pass (x:=.inLoop c) rfl (fun _ _=>.inl (by simp)) harr⟩
   | ret=>exact ⟨_,a₁,w₁,hq,.pass (x:=.inLoop c) rfl (fun _ _=>.inl (by simp)) harr⟩
   | panic ch=>exact ⟨_,a₁,w₁,hq,.pass (x:=.inLoop c) rfl (fun _ _=>.inl (by simp)) harr⟩
   | outgrown=>exact ⟨_,a₁,w₁,hq,.pass (x:=.inLoop c) rfl (fun _ _=>.inl (by simp)) harr⟩
 obtain ⟨e,a',w',hq,harr⟩:=key _ a w h₀
 exact ⟨e,a',w',hq,.of_steps (.one step_loop) harr⟩
abbrev Aas:=Exit→Frm→List Ob→Prop
def CW (P:Program) (G:World→Prop) (N:Nat) (c:Code) (F:Frm) (H:List Ob) (Q:Aas):Prop :=
 ∀ (b0:Nat) (w0:World) (S0:SD) (a:Act) (m:Mm),(∀ w',Below b0 w0 w'→G w')→m.H=H→St b0 N w0 S0 F a m→c.wp P (fun e a w=>∃ F' m',m'.w=w∧St b0 N w0 S0 F' a m'∧Q e F' m'.H) a m.w
def Zn (K:Frm→List Ob→Prop) (Q:Aas):Aas
 | .normal,F,H=>K F H
 | e,F,H=>Q e F H
def IR (id:Nat) (Q:Aas):Aas
 | .exit id',F,H=>(match Nat.beq id' id with|true=>Q .normal F H|false=>Q (.exit id') F H)
 | e,F,H=>Q e F H
section
variable {P:Program} {G:World→Prop} {N:Nat} {F:Frm} {H:List Ob} {Q:Aas}
theorem Akl (h:Q .normal F H):CW P G N .skip F H Q:=fun b0 w0 S0 a m hG hH hs=>wp_skip ⟨F,m,rfl,hs,by rw [hH];exact h⟩
theorem Akm (h:Q (.exit id) F H):CW P G N (.exit id) F H Q:=fun b0 w0 S0 a m hG hH hs=>wp_exit ⟨F,m,rfl,hs,by rw [hH];exact h⟩
theorem Anp (h:Q .ret F H):CW P G N .ret F H Q:=fun b0 w0 S0 a m hG hH hs=>wp_ret ⟨F,m,rfl,hs,by rw [hH];exact h⟩
theorem Anq {x:Code} (h:CW P G N x F H (Zn (fun F' H'=>CW P G N y F' H' Q) Q)):CW P G N (.seq x y) F H Q:=fun b0 w0 S0 a m hG hH hs =>
 wp_seq (wp_mono (h b0 w0 S0 a m hG hH hs) fun e a w ⟨F',m',h1,h2,h3⟩=>by
  cases e with
  | normal=>subst h1;exact h3 b0 w0 S0 a m' hG rfl h2
  | exit id=>exact ⟨F',m',h1,h2,h3⟩
  | goto l=>exact ⟨F',m',h1,h2,h3⟩
  | ret=>exact ⟨F',m',h1,h2,h3⟩
  | panic ch=>exact ⟨F',m',h1,h2,h3⟩
  | outgrown=>exact ⟨F',m',h1,h2,h3⟩)
theorem Afg (h:CW P G N c F H (IR id Q)):CW P G N (.block id c) F H Q:=fun b0 w0 S0 a m hG hH hs =>
 wp_block (wp_mono (h b0 w0 S0 a m hG hH hs) fun e a w ⟨F',m',h1,h2,h3⟩=>by
  cases e with
  | normal=>exact ⟨F',m',h1,h2,h3⟩
  | exit id' =>
   show (if id'=id then _ else _)
   by_cases hid:id'=id
   ·subst hid
    rw [if_pos rfl]
    simp only [IR,fk] at h3
    exact ⟨F',m',h1,h2,h3⟩
   ·rw [if_neg hid]
    have hb:Nat.beq id' id=false:=by
     cases hb:Nat.beq id' id with
     | false=>rfl
     | true=>exact absurd (fa hb) hid
    simp only [IR,hb] at h3
    exact ⟨F',m',h1,h2,h3⟩
  | goto l=>exact ⟨F',m',h1,h2,h3⟩
  | ret=>exact ⟨F',m',h1,h2,h3⟩
  | panic ch=>exact ⟨F',m',h1,h2,h3⟩
  | outgrown=>exact ⟨F',m',h1,h2,h3⟩)
def Abi (cs:Array Value):X:=if cs.all (·.oneCell') then .agg (cs.toList.map fun v=>.d (.val v)) else .any
def Ahq:Value→X
 | .agg cs=>Abi cs
 | .tuple _=>.any
 | v=>.one (.d (.val v))
def Frm.ev (F:Frm):Operand→X
 | .tmp t=>F t
 | .const v=>Ahq v
 | .global _=>.any
 | .func f=>.one (.d (.val (.func (.func f) #[] #[])))
theorem QC (m:Mm) (v:Value):FU m (Ahq v) v:=by
  cases v <;> first
    | exact Bx.val rfl
    | trivial
    | (rename_i cs
       show FU m (Abi cs) (.agg cs)
       unfold Abi
       split
       · rename_i h
         refine ⟨cs.toList,by simp,?_⟩
         refine ⟨by simp,fun j c u hc hu=>?_⟩
         simp only [ag,hu,dc,Option.some.injEq] at hc
         subst hc
         exact Bx.val (Array.all_eq_true_iff_forall_mem.1 h u (Array.mem_toList_iff.1 (gM hu)))
       · trivial)
theorem Bc {m:Mm} (h:AmG m F a o) {x:Operand} (hx:x∈o.op.operands.toList):FU m (F.ev x) (a.eval x):=by
 cases x with
 | tmp t=>exact h t hx
 | const v=>exact QC m v
 | global g=>trivial
 | func f=>exact Bx.val rfl
theorem Anr {m:Mm} (h:∀ t,FU m (F t) (a.tmps.getD t undef)) (x:Operand):FU m (F.ev x) (a.eval x):=by
 cases x with
 | tmp t=>exact h t
 | const v=>exact QC m v
 | global g=>trivial
 | func f=>exact Bx.val rfl
theorem Akn {m:Mm} {b:Bool} (h:FU m (.one (.d (.val (.bool b)))) v):v=.bool b:=by
 have h':Bx m.w m.S (.val (.bool b)) v:=h
 cases h'
 rfl
theorem Abj {x:Code} {c:Operand} (hc:F.ev c=.one (.d (.val (.bool t)))) (ht:t=true→CW P G N x F H Q) (hf:t=false→CW P G N y F H Q):CW P G N (.cond c x y) F H Q:=fun b0 w0 S0 a m hG hH hs=>by
 have hv:a.eval c=.bool t:=Akn (m:=m) (by rw [←hc];exact Anr hs.frame c)
 exact wp_cond_split hv (fun h=>ht h b0 w0 S0 a m hG hH hs) (fun h=>hf h b0 w0 S0 a m hG hH hs)
theorem Ako {x:Code} {c:Operand} (hc:F.ev c=.one (.d (.val (.bool true)))) (h:CW P G N x F H Q):CW P G N (.cond c x y) F H Q:=Abj hc (fun _=>h) (fun h=>by cases h)
theorem Afh {x:Code} {c:Operand} (hc:F.ev c=.one (.d (.val (.bool false)))) (h:CW P G N y F H Q):CW P G N (.cond c x y) F H Q:=Abj hc (fun h=>by cases h) (fun _=>h)
theorem St.drew {S0:SD} {m:Mm} (h:St b0 N w0 S0 F a m):St b0 N w0 S0 F a { m with w:=m.w.drew }:=by
 have hle:Le m { m with w:=m.w.drew }:=⟨fun _ _ h=>h,rfl,fun _ _ _=>rfl,fun id ob h=>⟨ob,h,MR.same fun _ he=>he⟩⟩
 refine ⟨⟨fun id e he=>?_,h.cx.apart,h.cx.far,h.cx.lt⟩,h.tot,fun t=>(h.frame t).le hle,h.size,h.defers,h.below.drew,h.base,h.S,h.T⟩
 obtain ⟨h1,ob,h2,h3⟩:=h.cx.each id e he
 exact ⟨Et.same h1 fun _ _=>rfl,ob,h2,h3.le hle⟩
theorem Akp (hd:Th N l=true) (h:Ti P G l.toArray l F H (Q .normal)):CW P G N (.region id l.toArray false) F H Q:=fun b0 w0 S0 a m hG hH hs=>by
 subst hH
 exact wp_region_lit (Zm hG l F a m (Q .normal) hd hs h fun F' a' m' h1 h2=>⟨F',m',rfl,h1,h2⟩)
theorem Lp {ops:Array Oper} {Fs:Nat→Frm} {Hs:Nat→List Ob} {xs:Nat→X} {obs:Nat→List Ob} {S0:SD} {m:Mm}
  (hs:∀ (i:Nat) (o:Oper),ops[i]?=some o→Hs (i+1)=Hs i++obs i∧Fs (i+1)=(Fs i).put o.dst (xs i)∧((CS ops o (Fs i) false∧xs i=.tup []∧obs i=[])∨(CS ops o (Fs i) true∧AZ P G o (Fs i) (Hs i) (xs i) (obs i))))
  (h:St b0 N w0 S0 (Fs 0) a m) (hH:m.H=Hs 0):Ano b0 N w0 S0 ops Fs Hs obs (Array.replicate ops.size false) a { m with H:=Hs ops.size }:=by
 have preH:∀ k,k≤ops.size→Hs 0 <+: Hs k:=fun k hk=>by
  induction k with
  | zero=>exact ks _
  | succ k ih =>
   rw [(hs k _ (ir (by omega))).1]
   exact (ih (by omega)).trans (jo _ _)
 have keep:∀ t k,k≤ops.size→(∀ (i:Nat) (o:Oper),ops[i]?=some o→o.dst≠some t)→Fs k t=Fs 0 t:=fun t k hk hno=>by
  induction k with
  | zero=>rfl
  | succ k ih =>
   have ho:ops[k]?=some (ops[k]'(by omega)):=ir (by omega)
   rw [(hs k _ ho).2.1,IQ,if_neg (hno k _ ho)]
   exact ih (by omega)
 obtain ⟨c,hc⟩:=preH ops.size (aa _)
 have hm:({ m with H:=Hs ops.size }:Mm)={ m with H:=m.H++c }:=by rw [hH,hc]
 rw [hm]
 have hle:=VB m c
 refine ⟨by rw [hH,hc],h.cx.more c,fun t ht=>?_,fun id ob hob hk=>h.tot id ob (by rw [hH];exact hob) hk,fun i k hi hl=>?_,fun i k hi _ hk=>?_,h.size,h.defers,h.below,h.base,h.S,h.T,by simp⟩
 ·rw [keep t ops.size (aa _) fun i o ho=>ht i o ho (by have:=(Array.getElem?_eq_some_iff.1 ho).1;simp [Array.getD,this])]
  exact (h.frame t).le hle
 ·exfalso
  simp [Array.getD,hi] at hl
 ·refine Abh h.cx ?_
  rw [hH]
  have:=(preH i (by omega)).length_le
  omega
theorem Ax (n:Nat) (hm:P.follows .mixedOrders=true) (hB:(Th N l && VF .any (l.take n).toArray && MO .any l.toArray n)=true)
  (h:Ch P G (l.take n).toArray (l.take n) F H fun F' H'=>Ti P G l.toArray (l.drop n) F' H' (Q .normal)):CW P G N (.region id l.toArray true) F H Q:=fun b0 w0 S0 a m hG hH hs=>by
 subst hH
 simp only [ai] at hB
 obtain ⟨⟨hd,hC⟩,hp⟩:=hB
 have hd1:Th N (l.take n)=true:=List.all_eq_true.2 fun o ho=>List.all_eq_true.1 hd o (fe ho)
 have hd2:Th N (l.drop n)=true:=List.all_eq_true.2 fun o ho=>List.all_eq_true.1 hd o (jl ho)
 have hn:n<l.length:=by
  have:=hp
  simp only [MO,ai,decide_eq_true_eq,kt] at this
  exact this.1.1.1.1
 have hlen:(l.take n).length=n:=by simp;omega
 have hsz:(l.take n).toArray.size=n:=by simp;omega
 refine FP n hm hp ?_
 obtain ⟨Fs,Hs,xs,obs,h1,h2,h3,h4⟩:=h.seq
 have hs':=hs.drew
 refine VG (G:=G) (w0:=w0) (S0:=S0) (b0:=b0) hG hC (N:=N) (by simpa using hd1) (Fs:=Fs) (Hs:=Hs) (xs:=xs) (obs:=obs) (fun i o hi=>h4 i o (by simpa using hi)) (fun a' m' hH' hst=>?_) n (Array.replicate n false) a { m with w:=m.w.drew,H:=Hs n } ?_ (by simp [Afe])
 ·rw [hsz] at hst hH'
  rw [hlen] at h3
  rw [←hH'] at h3
  exact Zm hG (l.drop n) (Fs n) a' m' (Q .normal) hd2 hst h3 fun F'' a'' m'' k1 k2=>⟨F'',m'',rfl,k1,k2⟩
 ·have:=Lp (P:=P) (G:=G) (ops:=(l.take n).toArray) (Fs:=Fs) (Hs:=Hs) (xs:=xs) (obs:=obs) (fun i o hi=>h4 i o (by simpa using hi)) (by rw [h1];exact hs') (m:={ m with w:=m.w.drew }) h2.symm
  rw [hsz] at this
  exact this
theorem Bl (hm:P.follows .mixedOrders=true) (hB:(Th N l && VF .any l.toArray)=true) (h:Ch P G l.toArray l F H (Q .normal)):CW P G N (.region id l.toArray true) F H Q:=fun b0 w0 S0 a m hG hH hs=>by
 subst hH
 simp only [ai] at hB
 obtain ⟨hd,hC⟩:=hB
 refine wp_region_any hm ?_
 obtain ⟨Fs,Hs,xs,obs,h1,h2,h3,h4⟩:=h.seq
 have hs':=hs.drew
 refine VG (G:=G) (w0:=w0) (S0:=S0) (b0:=b0) hG hC (N:=N) (by simpa using hd) (Fs:=Fs) (Hs:=Hs) (xs:=xs) (obs:=obs) (fun i o hi=>h4 i o (by simpa using hi)) (fun a' m' hH' hst=>?_) l.toArray.size (Array.replicate l.toArray.size false) a { m with w:=m.w.drew,H:=Hs l.toArray.size } ?_ (by simp [Afe])
 ·rw [kt] at hst hH'
  exact ⟨_,m',rfl,hst,by rw [hH'];exact h3⟩
 ·exact Lp (P:=P) (G:=G) (ops:=l.toArray) (Fs:=Fs) (Hs:=Hs) (xs:=xs) (obs:=obs) (fun i o hi=>h4 i o (by simpa using hi)) (by rw [h1];exact hs') (m:={ m with w:=m.w.drew }) h2.symm
end
inductive FB (t:Bool) (H:List Ob):C→D→Prop
 | d {x:D} (h:t=false→DY x):FB t H (.d x) x
 | nil {t':Bool} {s:Nat}:FB t H (.d (.val (.slice none 0 0))) (.row t' s 0 [])
 | emp {t':Bool} {s:Nat}:FB t H .emp (.row t' s 0 [])
 | own {id ty s n:Nat} {cs:List C} {ds:List D} (hH:H[id]?=some (.row ty s n cs)) (hl:cs.length=ds.length) (hr:∀ (j:Nat) (c:C) (d:D),cs[j]?=some c→ds[j]?=some d→FB t H c d):FB t H (.own id n) (.row t s n ds)
 | ref {id ty off:Nat} {cs:List C} {ds:List D} (ht:t=true) (hH:H[id]?=some (.box ty cs)) (hl:(cs.drop off).length=ds.length) (hr:∀ (j:Nat) (c:C) (d:D),(cs.drop off)[j]?=some c→ds[j]?=some d→FB t H c d):FB t H (.ref id off none) (.ptr t ds)
theorem FB.pre {H H':List Ob} (hp:H <+: H') {c:C} {d:D} (h:FB t H c d):FB t H' c d:=by
 induction h with
 | d h=>exact .d h
 | nil=>exact .nil
 | emp=>exact .emp
 | own hH hl _ ih=>exact .own (getElem?_pre hp hH) hl ih
 | ref ht hH hl _ ih=>exact .ref ht (getElem?_pre hp hH) hl ih
theorem Arm (g j:Nat):(⟨g,0+j,none⟩:Addr)=⟨g,j,none⟩:=by rw [av]
theorem Ans {p:Prop} (h:p:=by
 exact .row [] (aa _) (fun _=>rfl) (by simp) rfl (fun h=>absurd rfl h) (fun j u x h=>by simp at h)):p:=h
theorem FB.rel {m:Mm} (hx:Cx b0 m) {Sx:EN} {t:Bool} (h1:∀ b,m.S false b→Sx false b) (h2:t=true→∀ b,m.S true b→Sx true b) (h3:∀ id e g,m.E id=some e→e.own=some g→Sx t g) {c:C} {d:D} (h:FB t m.H c d) :
  ∀ v,Ep m c v→Bx m.w Sx d v:=by
 induction h with
 | d h =>
  intro v hv
  cases t with
  | false=>exact Bx.free h1 hv (h rfl)
  | true=>exact Bx.mono (S:=m.S) (fun t b hb=>by cases t;exact h1 b hb;exact h2 rfl b hb) (fun _ _ _=>rfl) hv
 | nil =>
  intro v hv
  have hv':Bx m.w m.S (.val (.slice none 0 0)) v:=hv
  cases hv'
  exact Ans
 | emp =>
  intro v hv
  obtain ⟨A,rfl⟩:=hv
  exact Ans
 | @own id ty s n cs ds hH hl _ ih =>
  intro v hv
  obtain ⟨_,ob,hob,_,hk⟩:=hv
  rw [hH] at hob
  cases hob
  obtain ⟨e,he,rfl⟩:=hk rfl
  obtain ⟨hat,ob,hob,hE⟩:=hx.each id e he
  rw [hH] at hob
  cases hob
  cases e with
  | box g vs ty'=>exact hE.elim
  | row v' ty' s' n' xs =>
   obtain ⟨rfl,rfl,rfl,hl2,hr2⟩:=hE
   have hlen:=hat.1
   show Bx m.w Sx (.row t s' n' ds) v'
   rcases hat.2 with ⟨rfl,rfl⟩|⟨g,cap,cur,rfl,hb,hg,hnc,hcm,hcs,htk⟩
   ·refine .row xs (aa _) (fun _=>rfl) (by omega) (by omega) (fun hne=>?_) (fun j u x hu hx'=>?_)
    ·exact absurd (bz (by omega)) hne
    ·obtain ⟨c,hc⟩:∃ c,cs[j]?=some c:=⟨_,gE (by have:=(gS.1 hu).1;omega)⟩
     exact ih j c u hc hu x (hr2 j c x hc hx')
   ·refine .row xs hnc (by simp) (by omega) (by omega) (fun _=>⟨g,0,rfl,h3 id _ g he rfl,fun j x hx'=>?_⟩) (fun j u x hu hx'=>?_)
    ·rw [Arm,cell_of_row m.w g j cur ty' (0,0) hg]
     rw [←htk,cq] at hx'
     split at hx'
     ·simpa using hx'
     ·cases hx'
    ·obtain ⟨c,hc⟩:∃ c,cs[j]?=some c:=⟨_,gE (by have:=(gS.1 hu).1;omega)⟩
     exact ih j c u hc hu x (hr2 j c x hc hx')
 | @ref id ty off cs ds ht hH hl _ ih =>
  intro v hv
  obtain ⟨_,ob,hob,_,hk⟩:=hv
  rw [hH] at hob
  cases hob
  obtain ⟨e,g,he,hg,rfl⟩:=hk rfl
  obtain ⟨hat,ob,hob,hE⟩:=hx.each id e he
  rw [hH] at hob
  cases hob
  cases e with
  | row v' ty' s' n' xs=>exact hE.elim
  | box g' vs ty' =>
   obtain ⟨rfl,hl2,hr2⟩:=hE
   have hgg:g'=g:=by simpa [Et.hv,MQ] using hg
   subst hgg
   refine .ptr (vs.drop off) (by rw [gn] at hl ⊢;omega) (h3 id _ g' he rfl) (fun j x hx'=>?_) (fun j u x hu hx'=>?_)
   ·rw [cell_of_row m.w g' (off+j) vs.toArray ty' (0,0) hat.2]
    rw [bt] at hx'
    simpa using hx'
   ·obtain ⟨c,hc⟩:∃ c,(cs.drop off)[j]?=some c:=⟨_,gE (by have:=(gS.1 hu).1;omega)⟩
    refine ih j c u hc hu x (hr2 (off+j) c x (by rw [bt] at hc;exact hc) (by rw [bt] at hx';exact hx'))
inductive LW (t:Bool) (H:List Ob):X→A→Prop
 | one {c:C} {d:D} (h:FB t H c d):LW t H (.one c) (.one d)
 | agg {cs:List C} {ds:List D} (h:Ba (FB t H) cs ds):LW t H (.agg cs) (.agg ds)
theorem LW.pre {H H':List Ob} (hp:H <+: H') {x:X} {y:A} (h:LW t H x y):LW t H' x y:=by
 cases h with
 | one h=>exact .one (h.pre hp)
 | agg h=>exact .agg (h.imp fun _ _=>FB.pre hp)
theorem Xe {m:Mm} (hx:Cx b0 m) {Sx:EN} {t:Bool} (h1:∀ b,m.S false b→Sx false b) (h2:t=true→∀ b,m.S true b→Sx true b) (h3:∀ id e g,m.E id=some e→e.own=some g→Sx t g) {cs:List C} {ds:List D} (h:Ba (FB t m.H) cs ds) {xs:List Value} (hc:Ba (Ep m) cs xs):Ba (Bx m.w Sx) ds xs :=
 ⟨h.1.symm.trans hc.1,fun j d v hd hv=>by
  obtain ⟨c,hcj⟩:∃ c,cs[j]?=some c:=⟨_,gE (by have:=(gS.1 hd).1;have:=h.1;omega)⟩
  exact FB.rel hx h1 h2 h3 (h.2 j c d hcj hd) v (hc.2 j c v hcj hv)⟩
theorem LW.rel {m:Mm} (hx:Cx b0 m) {Sx:EN} {t:Bool} (h1:∀ b,m.S false b→Sx false b) (h2:t=true→∀ b,m.S true b→Sx true b) (h3:∀ id e g,m.E id=some e→e.own=some g→Sx t g) {x:X} {y:A} (h:LW t m.H x y) {v:Value} (hv:FU m x v):Ft m.w Sx y v:=by
 cases h with
 | one h=>exact FB.rel hx h1 h2 h3 h v hv
 | agg h =>
  obtain ⟨xs,rfl,hc⟩:=hv
  exact ⟨xs,rfl,Xe hx h1 h2 h3 h hc⟩
def A.x:A→X
 | .one d=>.one (.d d)
 | .agg ds=>.agg (ds.map .d)
def Akq:List A→X
 | [a]=>a.x
 | l=>.tup l
theorem A.x_rel {m:Mm} {y:A} (h:Ft m.w m.S y v):FU m y.x v:=by
 cases y with
 | one d=>exact h
 | agg ds =>
  obtain ⟨xs,rfl,h2⟩:=h
  exact ⟨xs,rfl,Ba.map_l.2 h2⟩
theorem RE {m:Mm} {res:List A} (h:Afc m.w m.S res v):FU m (Akq res) v:=by
 match res,h with
 | [],h=>exact h
 | [a],h=>exact A.x_rel h
 | a::b::l,h=>exact h
theorem Ff {f : FuncId} (hf : P.funcs[f]? = some fn) (hname : (fn.name == "runtime.NumGoroutine") = false) (hb : fn.body = some c) (args : Array Value) (w : World) :
  (callFunc f args).run P w=.ok (.enter f args) w:=by
 have h1 : fn.name ≠ "runtime.NumGoroutine" := by simpa using hname
 simp [callFunc,hf,h1,hb]
section
variable {P:Program} {G:World→Prop} {o:Oper} {F:Frm} {H:List Ob}
theorem Akr {f:FuncId} {xs:Array Operand} {ts:Array TypeId} (ho:o.op=.call { callee:=.value (.func f),args:=xs,argTypes:=ts })
  (hf : P.funcs[f]? = some fn) (hn : (fn.name == "runtime.NumGoroutine") = false) (hb : fn.body = some c) {args res : List A} (h : CV P G f args res) (ha : Ba (fun x y => LW true H (F.ev x) y) xs.toList args) :
  AZ P G o F H (Akq res) []:=by
 intro b0 m a hp hx hg hb0 _ hor K Q hK
 rw [bc] at hp
 have hxs:∀ x∈xs.toList,FU m (F.ev x) (a.eval x):=fun x hm=>Bc hor (by
  rw [ho]
  simp only [Op.operands,Call.operands,iu,iv]
  exact .inr hm)
 let Sx:EN:=fun t b=>m.S t b∨(t=true∧∃ id e,m.E id=some e∧e.own=some b)
 have hcalls:=h m.w Sx (xs.toList.map a.eval) hg (fun t b hb=>by
  rcases hb with hb|⟨_,id,e,he,hown⟩
  ·exact hx.lt t b hb
  ·exact (Et.lt (hx.each id e he).1 hown).2) ⟨by rw [af];exact ha.1.symm,fun j y v hy hv=>by
   simp only [ag,dj] at hv
   obtain ⟨x,hxj,rfl⟩:=hv
   exact LW.rel hx (fun b hb=>.inl hb) (fun _ b hb=>.inl hb) (fun id e g he hg=>.inr ⟨rfl,id,e,he,hg⟩) ((ha.2 j x y hxj hy).pre hp) (hxs x (gM hxj))⟩
 unfold Oper.wp execOp
 simp only [ho,resolve,Act.eval,Deferred.ofValue,ah,bq,az,invoke]
 rw [Ff hf hn hb]
 rw [gx]
 have he:((#[]:Array Value)++xs.map a.eval++#[])=(xs.toList.map a.eval).toArray:=fy (by simp)
 simp only [he]
 refine hcalls.mono fun e w' ⟨v,hev,hres,hbel⟩=>?_
 subst hev
 refine hK v w' [] ⟨rfl,hbel,fun k e hk=>by simp at hk,List.Pairwise.nil⟩ (RE ?_)
 have hmono:∀ t b,Akj Sx m.w w' t b→(m.plus w' H.length []).S t b:=fun t b hb=>by
  obtain ⟨rfl,h1|⟨h1,h2⟩⟩:=hb
  ·rcases h1 with h1|⟨h1,_⟩
   ·exact .inl h1
   ·cases h1
  ·exact .inr ⟨rfl,h1,h2,fun e he=>by simp at he⟩
 match res,hres with
 | [],hres=>obtain ⟨vs,h1,h2⟩:=hres;exact ⟨vs,h1,h2.imp fun _ _=>Ft.mono hmono fun _ _ _=>rfl⟩
 | [x],hres=>exact Ft.mono hmono (fun _ _ _=>rfl) hres
 | x::y::l,hres=>obtain ⟨vs,h1,h2⟩:=hres;exact ⟨vs,h1,h2.imp fun _ _=>Ft.mono hmono fun _ _ _=>rfl⟩
end
inductive RV (P:Program) (F:Frm) (H:List Ob):ResultVar→A→Prop
 | tmp {t:Tmp} {y:A} (h:LW false H (F t) y):RV P F H (.tmp t) y
 | cellA {t:Tmp} {ty ty' id:Nat} {d:TypeDesc} {cs:List C} {ds:List D} (hF:F t=.one (.ref id 0 none)) (hH:H[id]?=some (.box ty' cs)) (hu:P.underlying ty=some d) (hd:d.isRow=true) (hi:(P.info? ty).map (·.size)=some cs.length) (h:Ba (FB false H) cs ds):RV P F H (.cell t ty) (.agg ds)
 | cell1 {t:Tmp} {ty ty' id:Nat} {d:TypeDesc} {c:C} {cs:List C} {x:D} (hF:F t=.one (.ref id 0 none)) (hH:H[id]?=some (.box ty' (c::cs))) (hu:P.underlying ty=some d) (hd:d.isRow=false) (h:FB false H c x):RV P F H (.cell t ty) (.one x)
theorem Hg {a:Addr} {ty:TypeId} {d:TypeDesc} (hu:P.underlying ty=some d) (hd:d.isRow=false) (hc:w.cell? a=some v):(loadVar ty a).run P w=.ok v w:=by
 have hagg:(isAgg ty).run P w=.ok false w:=by
  unfold isAgg
  rw [ah,run_underlying hu w]
  cases d <;> simp_all
 simp [loadVar,ah,hagg,hc]
theorem QD {m:Mm} (hx:Cx b0 m) {id ty off:Nat} {cs:List C} {v:Value} (hv:Vm m id off none v) (hH:m.H[id]?=some (.box ty cs)):∃ g vs,v=.pointer (some ⟨g,off,none⟩)∧m.E id=some (.box g vs ty)∧b0≤g∧m.w.heap[g]?=some (.cells vs.toArray ty (0,0))∧Ba (Ep m) cs vs:=by
 obtain ⟨_,ob,hob,_,hk⟩:=hv
 rw [hH] at hob
 cases hob
 obtain ⟨e,g,he,hg,rfl⟩:=hk rfl
 obtain ⟨hat,ob,hob,hE⟩:=hx.each id e he
 rw [hH] at hob
 cases hob
 cases e with
 | row v' ty' s' n' xs=>exact hE.elim
 | box g' vs ty' =>
  obtain ⟨rfl,hl⟩:=hE
  have hgg:g'=g:=by simpa [Et.hv,MQ] using hg
  subst hgg
  exact ⟨g',vs,rfl,he,hat.1,hat.2,hl⟩
def VH (tmps:Array Value):ResultVar→Sem Value
 | .tmp t=>pure (tmps.getD t undef)
 | .cell a t=>do loadVar t (←asAddr (tmps.getD a undef))
theorem Ik (fn:Func) (tmps:Array Value):results fn tmps=(fn.results.mapM (VH tmps)).bind fun vs=>pure (if h:vs.size=1 then vs[0] else .tuple vs):=by
 unfold results
 have:(fun (r:ResultVar)=>match r with|.tmp t=>(pure (tmps.getD t undef):Sem Value)|.cell a t=>do loadVar t (←asAddr (tmps.getD a undef)))=VH tmps:=funext fun r=>by cases r <;> rfl
 rw [←this]
 rfl
theorem RV.run {m:Mm} (hx:Cx b0 m) {Sx:EN} (h1:∀ b,m.S false b→Sx false b) (h3:∀ id e g,m.E id=some e→e.own=some g→Sx false g) {F:Frm} {tmps:Array Value} (hf:∀ t,FU m (F t) (tmps.getD t undef)) {r:ResultVar} {y:A} (h:RV P F m.H r y) :
  ∃ v,(VH tmps r).run P m.w=.ok v m.w∧Ft m.w Sx y v:=by
 have h2:false=true→∀ b,m.S true b→Sx true b:=fun h=>by cases h
 cases h with
 | tmp h=>exact ⟨_,rfl,LW.rel hx h1 h2 h3 h (hf _)⟩
 | @cellA t ty ty' id d cs ds hF hH hu hd hi h =>
  have hv:=hf t
  rw [hF] at hv
  obtain ⟨g,vs,hv,he,_,hg,hl⟩:=QD hx hv hH
  refine ⟨.agg vs.toArray,?_,⟨vs,rfl,Xe hx h1 h2 h3 h hl⟩⟩
  simp only [VH,hv,asAddr,ah,bq,az]
  exact run_loadVar_mid m.w g 0 ty vs d (fun j v hj=>by rw [Arm,cell_of_row m.w g j vs.toArray ty' (0,0) hg];simpa using hj) hu hd (by rw [hi,hl.1])
 | @cell1 t ty ty' id d c cs x hF hH hu hd h =>
  have hv:=hf t
  rw [hF] at hv
  obtain ⟨g,vs,hv,he,_,hg,hl⟩:=QD hx hv hH
  obtain ⟨u,us,rfl,hcu,_⟩:=hl.uncons
  refine ⟨u,?_,FB.rel hx h1 h2 h3 h u hcu⟩
  simp only [VH,hv,asAddr,ah,bq,az]
  exact Hg hu hd (by rw [cell_of_row m.w g 0 _ ty' (0,0) hg];rfl)
theorem Xf {P:Program} {w:World} {R:A→Value→Prop} {f:ResultVar→Sem Value}:∀ {rs:List ResultVar} {res:List A},Ba (fun r y=>∃ v,(f r).run P w=.ok v w∧R y v) rs res→∃ vs:List Value,(rs.mapM f).run P w=.ok vs w∧Ba R res vs
 | [],res,h=>by
  rw [h.unnil]
  exact ⟨[],by simp,Ba.nil_⟩
 | r::rs,res,h=>by
  obtain ⟨y,res',rfl,⟨v,h1,h2⟩,h3⟩:=h.uncons
  obtain ⟨vs,h4,h5⟩:=Xf h3
  exact ⟨v::vs,by simp [jp,ah,h1,h4],Ba.cons_ h2 h5⟩
def Arn (P:Program) (fn:Func) (res:List A):Aas:=fun e F H=>(e=.ret∨e=.normal)∧Ba (RV P F H) fn.results.toList res
def F0 (args:List A):Frm:=fun t=>match args[t]? with
 | some y=>y.x
 | none=>.any
theorem RF {S:EN} {vs:List Value} {args:List A} (hN:fn.ntmps=N) (ha:args.length≤N) (hlt:∀ t b,S t b→b<w.heap.size) (hargs:Ba (Ft w S) args vs) :
  St w.heap.size N w ⟨S,[]⟩ (F0 args) { tmps:=vs.toArray++Array.replicate (fn.ntmps - vs.toArray.size) undef,defers:=[] } ⟨w,S,[],fun _=>none⟩:=by
 have hsz:(vs.toArray++Array.replicate (fn.ntmps - vs.toArray.size) undef).size=N:=by
  have:=hargs.1
  simp
  omega
 refine ⟨⟨fun id e he=>(by cases he),fun i j e e' _ he=>(by cases he),fun id e g t he=>(by cases he),hlt⟩,fun id ob h=>by simp at h,fun t=>?_,hsz,rfl,ab _ _,aa _,fun b hb=>.inl hb,rfl⟩
 unfold F0
 cases ht:args[t]? with
 | none=>trivial
 | some y =>
  obtain ⟨v,hv,hr⟩:=hargs.at_ ht
  have hlt':=(gS.1 hv).1
  have:(vs.toArray++Array.replicate (fn.ntmps - vs.toArray.size) undef).getD t undef=v:=by
   rw [gr,Array.getElem?_append_left (by simpa using hlt')]
   simp [hv]
  rw [this]
  exact A.x_rel (m:=⟨w,S,[],fun _=>none⟩) hr
theorem VJ {tmps:Array Value} {Sx:EN} {res:List A} (h:Ba (fun r y=>∃ v,(VH tmps r).run P w=.ok v w∧Ft w Sx y v) fn.results.toList res) :
  ∃ v,(results fn tmps).run P w=.ok v w∧Afc w Sx res v:=by
 obtain ⟨vs',h1,h2⟩:=Xf (P:=P) (w:=w) (R:=Ft w Sx) h
 have h1':(fn.results.mapM (VH tmps)).run P w=.ok vs'.toArray w:=by
  rw [←jq (xs:=fn.results),jr,map_eq_pure_bind,ah,h1]
  rfl
 have hb':∀ (s:Sem (Array Value)) (k:Array Value→Sem Value),(s.bind k).run P w=(s.run P w).andThen fun a w=>(k a).run P w:=fun s k=>ah (x:=s) (f:=k) ..
 rw [Ik,hb',h1']
 simp only [az,bq]
 match res,vs',h2 with
 | [],vs',h2 =>
  rw [h2.unnil]
  exact ⟨_,rfl,[],rfl,Ba.nil_⟩
 | [y],vs',h2 =>
  obtain ⟨v,vs2,rfl,h3,h4⟩:=h2.uncons
  rw [h4.unnil]
  exact ⟨_,rfl,h3⟩
 | y::z::l,vs',h2 =>
  obtain ⟨v,vs2,rfl,h3,h4⟩:=h2.uncons
  obtain ⟨u,vs3,rfl,h5,h6⟩:=h4.uncons
  exact ⟨_,rfl,v::u::vs3,by simp,Ba.cons_ h3 (Ba.cons_ h5 h6)⟩
theorem Zo {S0:SD} {F:Frm} {m:Mm} {res:List A} (hs:St w.heap.size N w S0 F a m) (h:Ba (RV P F m.H) fn.results.toList res) :
  ∃ v,(results fn a.tmps).run P m.w=.ok v m.w∧Afc m.w (Akj S0.S w m.w) res v:=by
 have hset:∀ b,m.S false b→Akj S0.S w m.w false b:=fun b hb'=>⟨rfl,(hs.S b hb').elim .inl fun h=>.inr ⟨h,hs.cx.lt _ _ hb'⟩⟩
 have hown:∀ id e g,m.E id=some e→e.own=some g→Akj S0.S w m.w false g:=fun id e g he' hg'=>⟨rfl,.inr (Et.lt (hs.cx.each id e he').1 hg')⟩
 exact VJ (h.imp fun r y hry=>RV.run hs.cx hset hown hs.frame hry)
theorem Aks {G:World→Prop} (hG:∀ w w',Below w.heap.size w w'→G w→G w') {f:FuncId} {fn:Func} {c:Code} {N:Nat} {args res:List A} (hf:P.funcs[f]?=some fn) (hb:fn.body=some c) (hN:fn.ntmps=N) (ha:args.length≤N)
  (h:CW P G N c (F0 args) [] (Arn P fn res)):CV P G f args res:=by
 intro w S vs hg hlt hargs
 refine calls_of_wp hf hb ?_
 refine wp_mono (h w.heap.size w ⟨S,[]⟩ _ ⟨w,S,[],fun _=>none⟩ (fun w' hb'=>hG w w' hb' hg) rfl (RF hN ha hlt hargs)) fun e a' w' ⟨F',m',hw,hs,hret⟩=>?_
 subst hw
 obtain ⟨he,hrv⟩:=hret
 obtain ⟨v,k1,k2⟩:=Zo hs hrv
 rcases he with rfl|rfl
 ·exact ⟨hs.defers,v,k1,v,rfl,k2,hs.below⟩
 ·exact ⟨hs.defers,v,k1,v,rfl,k2,hs.below⟩
end Go.Proofs.YtjlkgfeepocjfaaGreatDoor
