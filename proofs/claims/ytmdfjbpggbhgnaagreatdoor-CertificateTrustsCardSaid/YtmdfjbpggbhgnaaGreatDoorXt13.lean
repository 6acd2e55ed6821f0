/- What the proofs of this claim share, part 13. No conditions. -/
import Derived.Test.YtmdfjbpggbhgnaaGreatDoorXt9
import Derived.Defers
import Derived.Recover
set_option linter.all false
namespace Go.Proofs.YtmdfjbpggbhgnaaGreatDoor
open Go.RowKit
variable {f:FuncId} {fn:Func} {xs:Array Operand} {ts:Array TypeId} {F:Frm} {id:Nat}
section
variable (P:Program) (G:World→Prop)
def Agv (o:Oper) (F:Frm) (H:List Ob) (chain:List PanicEntry):Prop :=
 ∀ (b0:Nat) (m:Mm) (a:Act),m.H=H→Cx b0 m→G m.w→b0≤m.w.heap.size→AjS m F a o →
  ∀ (K:Act→World→Prop) (Q:Exit→Act→World→Prop),(∀ w',Below m.w.heap.size m.w w'→Q (.panic chain) a w')→o.wp P a m.w K Q
def CVP (f:FuncId) (args:List A) (chain:List PanicEntry):Prop :=
 ∀ (w:World) (S:Du) (vs:List Value),G w→(∀ t b,S t b→b<w.heap.size)→AV (Em w S) args vs →
  Calls P f vs.toArray w fun e w'=>e=.panicked chain∧Below w.heap.size w w'
end
section
variable {P:Program} {G:World→Prop} {o:Oper} {F:Frm} {H:List Ob} {chain:List PanicEntry}
theorem Alq {c:Code} (ho:o.op=.call { callee:=.value (.func f),args:=xs,argTypes:=ts })
  (hf : P.funcs[f]? = some fn) (hn : (fn.name == "runtime.NumGoroutine") = false) (hb : fn.body = some c) {args : List A} (h : CVP P G f args chain) (ha : AV (fun x y => Ik true H (F.ev x) y) xs.toList args) :
  Agv P G o F H chain:=by
 intro b0 m a hH hx hg hb0 hor K Q hK
 have hxs:∀ x∈xs.toList,EH m (F.ev x) (a.eval x):=fun x hm=>Bg hor (by
  rw [ho]
  simp only [Op.operands,Call.operands,gr,eh]
  exact .inr hm)
 let Sx:Du:=fun t b=>m.S t b∨(t=true∧∃ id e,m.E id=some e∧e.own=some b)
 have hcalls:=h m.w Sx (xs.toList.map a.eval) hg (fun t b hb=>by
  rcases hb with hb|⟨_,id,e,he,hown⟩
  ·exact hx.lt t b hb
  ·exact (Et.lt (hx.each id e he).1 hown).2) ⟨by rw [af];exact ha.1.symm,fun j y v hy hv=>by
   simp only [ag,dq] at hv
   obtain ⟨x,hxj,rfl⟩:=hv
   exact Ik.rel hx (fun b hb=>.inl hb) (fun _ b hb=>.inl hb) (fun id e g he hg=>.inr ⟨rfl,id,e,he,hg⟩) (hH ▸ ha.2 j x y hxj hy) (hxs x (gM hxj))⟩
 unfold Oper.wp execOp
 simp only [ho,resolve,Act.eval,Deferred.ofValue,aj,bg,av,invoke]
 rw [Dz hf hn hb]
 rw [gd]
 have he:((#[]:Array Value)++xs.map a.eval++#[])=(xs.toList.map a.eval).toArray:=fh (by simp)
 simp only [he]
 refine hcalls.mono fun e w' ⟨hev,hbel⟩=>?_
 subst hev
 exact hK w' hbel
theorem Agw {x:Operand} {t:TypeId} {u:Value} (ho:o.op=.panic x) (hx:F.ev x=.one (.d (.val (.iface t u)))):Agv P G o F H [{ v:=.iface t u,recovered:=false }]:=by
 intro b0 m a hH hcx hg hb0 hor K Q hK
 have ex:=Dm (m:=m) (v:=a.eval x) (by rw [←hx];exact Bg hor (by rw [ho];simp [Op.operands]))
 unfold Oper.wp execOp
 simp only [ho,ex]
 exact hK m.w (ab _ _)
theorem Wb {t:TypeId} {x:Operand} {d:TypeDesc} (ho:o.op=.makeInterface t x) (hx:F.ev x=.agg []) (hu:P.underlying t=some d) (hd:(match d with|.interface _=>false|_=>true)=true):Bb P G o F H (.one (.d (.val (.iface t (.agg #[]))))) []:=Cc fun b0 m a _ _ hor=>by
 have ex:a.eval x=.agg #[]:=by
  have h:EH m (.agg []) (a.eval x):=by rw [←hx];exact Bg hor (by rw [ho];simp [Op.operands])
  obtain ⟨xs,h1,h2⟩:=h
  rw [h2.unnil] at h1
  exact h1
 refine ⟨.iface t (.agg #[]),?_,Bh.val rfl⟩
 unfold execOp
 cases d <;> simp_all [Instr.makeInterface,run_underlying hu]
theorem AoV (hG:∀ w w',Below w.heap.size w w'→G w→G w') {f:FuncId} {fn:Func} {c:Code} {N:Nat} {args:List A} (hf:P.funcs[f]?=some fn) (hb:fn.body=some c) (hN:fn.ntmps=N) (ha:args.length≤N)
  (h:CW P G N c (F0 args) [] fun e _ _=>e=.panic chain):CVP P G f args chain:=by
 intro w S vs hg hlt hargs
 refine calls_of_wp hf hb ?_
 have hst:=LI (N:=N) (fn:=fn) hN ha hlt hargs
 refine wp_mono (h w.heap.size w ⟨S,[]⟩ _ ⟨w,S,[],fun _=>none⟩ (fun w' hb'=>hG w w' hb' hg) rfl hst) fun e a' w' ⟨F',m',hw,hs,hret⟩=>?_
 subst hw
 subst hret
 exact ⟨hs.defers,rfl,hs.below⟩
end
section
variable {P:Program} {G:World→Prop} {N:Nat}
theorem Alr {b0:Nat} {w0:World} {S0:SD} {a:Act} {m:Mm} {w':World} (hs:St b0 N w0 S0 F a m) (hb:Below m.w.heap.size m.w w'):St b0 N w0 S0 F a (m.plus w' m.H.length []):=by
 have hn:AjR b0 m m.H.length [] w' []:=⟨rfl,hb,fun k e hk=>by simp at hk,List.Pairwise.nil⟩
 have hE:∀ k,k<([]:List Et).length→m.E (m.H.length+k)=none:=fun k hk=>by simp at hk
 have hle:=Lb hb hs.cx.lt hE
 refine ⟨hs.cx.plus hn (fun k ob hk=>by simp at hk) hE,fun id ob hob hk=>?_,fun t=>(hs.frame t).le hle,hs.size,hs.defers,hs.below.trans (hb.mono (lT hs.base hs.below.size)),hs.base,fun b hb'=>?_,hle.T.trans hs.T⟩
 ·show (if m.H.length≤id∧id<m.H.length+0 then _ else m.E id).isSome=true
  rw [if_neg (by omega)]
  exact hs.tot id ob hob hk
 ·rcases hb' with h|⟨_,h,_⟩
  ·exact hs.S b h
  ·exact .inr (lT (lT hs.base hs.below.size) h)
theorem AcF {b0:Nat} {w0:World} {S0:SD} {ops:Array Oper} (hG:∀ w',Below b0 w0 w'→G w') {Q:Exit→Act→World→Prop} {r:List Oper} :
  ∀ (l:List Oper) (F:Frm) (a:Act) (m:Mm) (K:Frm→List Ob→Prop),NP N l=true→St b0 N w0 S0 F a m→Ti P G ops l F m.H K→(∀ F' a' m',St b0 N w0 S0 F' a' m'→K F' m'.H→wpList P ops Q r a' m'.w)→wpList P ops Q (l++r) a m.w
 | [],F,a,m,K,_,hs,h,hq=>hq F a m hs h
 | o::l,F,a,m,K,hd,hs,h,hq=>by
  have hd0:=OJ hd (o:=o) (by simp)
  have hd1:NP N l=true:=by
   unfold NP at hd ⊢
   simp only [jr,ah] at hd
   exact hd.2
  rw [List.cons_append]
  unfold wpList
  rcases h with ⟨hw,h⟩|⟨hw,x,H2,hok,h⟩
  ·rw [if_neg (by rw [hw.is (m:=m) (tmps:=a.tmps) fun t _=>hs.frame t];simp)]
   exact AcF hG l _ _ m K hd1 ⟨hs.cx,hs.tot,GH (x:=.tup []) hs.size hd0 (Le.refl m) hs.frame ⟨[],rfl,.nil_⟩,by rw [Ea];exact hs.size,by rw [Cy];exact hs.defers,hs.below,hs.base,hs.S,hs.T⟩ h hq
  ·rw [if_pos (hw.is (m:=m) (tmps:=a.tmps) fun t _=>hs.frame t)]
   refine .inl (hok b0 m a rfl hs.cx hs.tot (hG _ hs.below) (lT hs.base hs.below.size) (fun t _=>hs.frame t) _ _ fun v m' hH hx ht hle hb hS hv=>?_)
   subst hH
   exact AcF hG l _ _ m' K hd1 ⟨hx,ht,GH hs.size hd0 hle hs.frame hv,by rw [Ea];exact hs.size,by rw [Cy];exact hs.defers,hs.below.trans hb,hs.base,fun b hb'=>(hS b hb').elim (hs.S b) .inr,hle.T.trans hs.T⟩ h hq
theorem AcG {H:List Ob} {Q:Te} {l:List Oper} (n:Nat) {o:Oper} {chain:List PanicEntry} (hd:NP N (l.take n)=true) (hl:l=l.take n++[o]) (hg:o.guard=none)
  (h:Ti P G l.toArray (l.take n) F H fun F' H'=>Agv P G o F' H' chain∧Q (.panic chain) F' H'):CW P G N (.region id l.toArray false) F H Q:=fun b0 w0 S0 a m hG hH hs=>by
 subst hH
 refine wp_region_lit ?_
 have key:wpList P l.toArray (fun e a w=>∃ F' m',m'.w=w∧St b0 N w0 S0 F' a m'∧Q e F' m'.H) (l.take n++[o]) a m.w:=by
  refine AcF hG (l.take n) F a m _ hd hs h fun F' a' m' h1 h2=>?_
  unfold wpList
  have hw:CB l.toArray o F' true:=by unfold CB;rw [hg]
  rw [if_pos (hw.is (m:=m') (tmps:=a'.tmps) fun t _=>h1.frame t)]
  exact .inl (h2.1 b0 m' a' rfl h1.cx (hG _ h1.below) (lT h1.base h1.below.size) (fun t _=>h1.frame t) _ _ fun w' hb=>⟨F',m'.plus w' m'.H.length [],rfl,Alr h1 hb,h2.2⟩)
 rw [←hl] at key
 exact key
def Qw (md:Region.Mode) (ops:Array Oper) (p:Nat):Nat→Nat→Bool
 | 0,_=>false
 | n+1,i=>match ops[i]? with
  | none=>false
  | some o=>o.after.any fun e=>Region.binds md e && (Nat.beq e.on p || Qw md ops p n e.on)
section
variable (P G)
def ChP (ops:Array Oper) (p:Nat) (chain:List PanicEntry):Nat→List Oper→Frm→List Ob→Prop
 | _,[],_,_=>True
 | i,o::l,F,H=>o.guard=none∧((Qw .any ops p ops.size i=true∧ChP ops p chain (i+1) l (F.put o.dst .any) H)∨(i=p∧Agv P G o F H chain∧ChP ops p chain (i+1) l (F.put o.dst .any) H) ∨
   (Nat.beq i p=false∧∃ x,Bb P G o F H x []∧ChP ops p chain (i+1) l (F.put o.dst x) H))
end
theorem ChP.seq {ops:Array Oper} {p:Nat} {chain:List PanicEntry}:∀ {l:List Oper} {i:Nat} {F:Frm} {H:List Ob},ChP P G ops p chain i l F H →
  ∃ (Fs:Nat→Frm) (xs:Nat→X),Fs 0=F∧∀ (k:Nat) (o:Oper),l[k]?=some o→o.guard=none∧Fs (k+1)=(Fs k).put o.dst (xs k) ∧
   (Qw .any ops p ops.size (i+k)=true∨(i+k=p∧Agv P G o (Fs k) H chain)∨(i+k≠p∧Bb P G o (Fs k) H (xs k) []))
 | [],i,F,H,h=>⟨fun _=>F,fun _=>.any,rfl,fun k o hk=>by simp at hk⟩
 | o::l,i,F,H,h=>by
  obtain ⟨hg,h⟩:=h
  have key:∃ x,(Qw .any ops p ops.size i=true∨(i=p∧Agv P G o F H chain)∨(i≠p∧Bb P G o F H x []))∧ChP P G ops p chain (i+1) l (F.put o.dst x) H:=by
   rcases h with ⟨h1,h2⟩|⟨h1,h2,h3⟩|⟨h1,x,h2,h3⟩
   ·exact ⟨.any,.inl h1,h2⟩
   ·exact ⟨.any,.inr (.inl ⟨h1,h2⟩),h3⟩
   ·exact ⟨x,.inr (.inr ⟨fun hi=>(by subst hi;rw [eg] at h1;cases h1),h2⟩),h3⟩
  obtain ⟨x,hx,hc⟩:=key
  obtain ⟨Fs,xs,h1,h2⟩:=ChP.seq hc
  refine ⟨fun k=>match k with|0=>F|k+1=>Fs k,fun k=>match k with|0=>x|k+1=>xs k,rfl,fun k o' hk=>?_⟩
  rcases k with _|k
  ·simp only [gq,Option.some.injEq] at hk
   subst hk
   exact ⟨hg,by rw [←h1],hx⟩
  ·simp only [fg] at hk
   have:=h2 k o' hk
   rw [show i+1+k=i+(k+1) by omega] at this
   exact this
def fgt (l:List Oper) (F:Frm):Frm:=fun t=>match l.any (fun o=>match o.dst with|some d=>Nat.beq d t|none=>false) with|true=>.any|false=>F t
structure Agx (b0 N:Nat) (w0:World) (S0:SD) (ops:Array Oper) (p:Nat) (Fs:Nat→Frm) (H:List Ob) (listed:Array Bool) (a:Act) (m:Mm):Prop where
 H:m.H=H
 cx:Cx b0 m
 tot:Tot m
 frame:∀ t,(∀ (i:Nat) (o:Oper),ops[i]?=some o→listed.getD i true=false→o.dst≠some t)→EH m (Fs ops.size t) (a.tmps.getD t undef)
 size:a.tmps.size=N
 defers:a.defers=S0.ds
 below:Below b0 w0 m.w
 base:b0≤w0.heap.size
 S:∀ b,m.S false b→S0 false b∨b0≤b
 T:m.S true=S0 true
 ls:listed.size=ops.size
 un:∀ n i,(i=p∨Qw .any ops p n i=true)→i<ops.size→listed.getD i true=false
theorem Agy {b0:Nat} {w0:World} {S0:SD} {ops:Array Oper} (hG:∀ w',Below b0 w0 w'→G w') {Q:Exit→Act→World→Prop} {chain:List PanicEntry} (hC:Qr .any ops=true) (hd:NP N ops.toList=true)
  {Fs:Nat→Frm} {H:List Ob} {xs:Nat→X} {p:Nat} (hp:p<ops.size)
  (hs:∀ (i:Nat) (o:Oper),ops[i]?=some o→o.guard=none∧Fs (i+1)=(Fs i).put o.dst (xs i)∧(Qw .any ops p ops.size i=true∨(i=p∧Agv P G o (Fs i) H chain)∨(i≠p∧Bb P G o (Fs i) H (xs i) [])))
  (hq:∀ a m w',m.H=H→St b0 N w0 S0 (fgt ops.toList (Fs 0)) a m→Below m.w.heap.size m.w w'→Q (.panic chain) a w') :
  ∀ (f:Nat) (listed:Array Bool) (a:Act) (m:Mm),Agx b0 N w0 S0 ops p Fs H listed a m→Abt listed≤f→wpAny P .any ops Q f listed a m.w:=by
 have opAt:∀ i,i<ops.size→∃ o,ops[i]?=some o:=fun i hi=>⟨_,gn hi⟩
 have keep:∀ t d i,i+d≤ops.size→(∀ (k:Nat) (o:Oper),i≤k→k<i+d→ops[k]?=some o→o.dst≠some t)→Fs (i+d) t=Fs i t:=fun t d=>by
  induction d with
  | zero=>intro i _ _;rfl
  | succ d ih =>
   intro i hi hk
   obtain ⟨o,ho⟩:=opAt (i+d) (by omega)
   rw [show i+(d+1)=i+d+1 by omega,(hs _ o ho).2.1,FR,if_neg (hk (i+d) o (by omega) (by omega) ho)]
   exact ih i (by omega) fun k o' h1 h2=>hk k o' h1 (by omega)
 have look:∀ i o t,ops[i]?=some o→t∈o.looksAt ops→Fs ops.size t=Fs i t:=fun i o t ho ht=>by
  have hi:=(Array.getElem?_eq_some_iff.1 ho).1
  have:=keep t (ops.size - i) i (by omega) fun k o' h1 _ hk hdst=>by
   have:=((CZ hC ho).2 k o' t hk hdst).1 ht
   omega
  rwa [show i+(ops.size - i)=ops.size by omega] at this
 have out:∀ i o t,ops[i]?=some o→o.dst=some t→Fs ops.size t=xs i:=fun i o t ho ht=>by
  have hi:=(Array.getElem?_eq_some_iff.1 ho).1
  have:=keep t (ops.size - (i+1)) (i+1) (by omega) fun k o' h1 _ hk hdst=>((CZ hC ho).2 k o' t hk hdst).2 (by omega) ht
  rw [show i+1+(ops.size - (i+1))=ops.size by omega,(hs i o ho).2.1,FR,if_pos ht] at this
  exact this
 have fin:∀ (listed:Array Bool) (a:Act) (m:Mm),Agx b0 N w0 S0 ops p Fs H listed a m→Region.ready .any ops listed=[]→False:=fun listed a m inv hr=>by
  have all:∀ i,i<ops.size→listed.getD i true=true:=by
   intro i
   induction i using Nat.strongRecOn with
   | _ i ih =>
    intro hi
    cases hl:listed.getD i true with
    | true=>rfl
    | false =>
     exfalso
     obtain ⟨o,ho⟩:=opAt i hi
     have:i∈Region.ready .any ops listed:=mem_ready.2 ⟨hl,o,ho,fun e he hb=>by
      have hlt:=(CZ hC ho).1 e he hb
      have:=ih e.on hlt (by omega)
      have hsz:=inv.ls
      rw [←DZ (by omega)]
      exact this⟩
     rw [hr] at this
     cases this
  have:=inv.un 0 p (.inl rfl) hp
  rw [all p hp] at this
  cases this
 have fgtAt:∀ t,(∃ (i:Nat) (o:Oper),ops[i]?=some o∧o.dst=some t)∨(fgt ops.toList (Fs 0) t=Fs ops.size t∧∀ (i:Nat) (o:Oper),ops[i]?=some o→o.dst≠some t):=fun t=>by
  by_cases h:∃ (i:Nat) (o:Oper),ops[i]?=some o∧o.dst=some t
  ·exact .inl h
  ·refine .inr ⟨?_,fun i o ho hdst=>h ⟨i,o,ho,hdst⟩⟩
   have h1:=keep t ops.size 0 (by omega) fun k o _ _ ho hdst=>h ⟨k,o,ho,hdst⟩
   rw [bc] at h1
   rw [h1]
   unfold fgt
   have:ops.toList.any (fun o=>match o.dst with|some d=>Nat.beq d t|none=>false)=false:=by
    rw [List.any_eq_false]
    intro o ho
    obtain ⟨i,hi⟩:=List.mem_iff_getElem?.1 ho
    cases hdst:o.dst with
    | none=>simp
    | some d =>
     simp only [em]
     cases hb:Nat.beq d t with
     | false=>rfl
     | true=>exact absurd ⟨i,o,by simpa using hi,by rw [hdst,dz hb]⟩ h
   rw [this]
 have anyAt:∀ (t i:Nat) (o:Oper),ops[i]?=some o→o.dst=some t→fgt ops.toList (Fs 0) t=.any:=fun t i o ho hdst=>by
  unfold fgt
  have:ops.toList.any (fun o=>match o.dst with|some d=>Nat.beq d t|none=>false)=true :=
   List.any_eq_true.2 ⟨o,by simpa using ld ho,by rw [hdst];exact eg t⟩
  rw [this]
 have next:∀ (listed:Array Bool) (i:Nat) (a:Act) (m:Mm),Agx b0 N w0 S0 ops p Fs H listed a m→i∈Region.ready .any ops listed→∀ K:Act→World→Prop,
   (∀ a' m',Agx b0 N w0 S0 ops p Fs H (listed.setIfInBounds i true) a' m'→K a' m'.w)→wpOp P ops Q i K a m.w:=fun listed i a m inv hr K hK=>by
  obtain ⟨hun,o,ho,hall⟩:=mem_ready.1 hr
  have hi:=(Array.getElem?_eq_some_iff.1 ho).1
  have hd0:∀ d,o.dst=some d→d<N:=OJ hd (by simpa using ld ho)
  have getSet:∀ j,j≠i→(listed.setIfInBounds i true).getD j true=listed.getD j true:=fun j hj=>getD_set_ne true (Ne.symm hj)
  have hlook:∀ t∈o.looksAt ops,EH m (Fs i t) (a.tmps.getD t undef):=fun t ht=>by
   rw [←look i o t ho ht]
   refine inv.frame t fun k ok hok hkl hdst=>?_
   obtain ⟨h1,e,he,hb,hon⟩:=((CZ hC ho).2 k ok t hok hdst).1 ht
   have h2:=hall e he hb
   rw [hon] at h2
   have hsz:=inv.ls
   rw [←DZ (by have:=(Array.getElem?_eq_some_iff.1 hok).1;omega),hkl] at h2
   cases h2
  have live:∀ n,Qw .any ops p n i=false:=fun n=>by
   cases hdd:Qw .any ops p n i with
   | false=>rfl
   | true =>
    exfalso
    cases n with
    | zero=>cases hdd
    | succ n =>
     simp only [Qw,ho,Array.any_eq_true',ah,gc] at hdd
     obtain ⟨e,he,hb,hon⟩:=hdd
     have hlt:=(CZ hC ho).1 e he hb
     have h2:=hall e he hb
     have hsz:=inv.ls
     have h3:=inv.un n e.on (hon.imp dz id) (by omega)
     rw [←DZ (by omega),h3] at h2
     cases h2
  have reFrame:∀ (m':Mm) (v:Value),Le m m'→EH m' (xs i) v→∀ t,(∀ (k:Nat) (ok:Oper),ops[k]?=some ok→(listed.setIfInBounds i true).getD k true=false→ok.dst≠some t)→EH m' (Fs ops.size t) ((a.put o.dst v).tmps.getD t undef):=fun m' v hle hv t ht=>by
   rw [LG inv.size hd0]
   split
   ·rename_i hdst
    rw [out i o t ho hdst]
    exact hv
   ·rename_i hdst
    refine (inv.frame t fun k ok hok hkl=>?_).le hle
    by_cases hki:k=i
    ·subst hki
     rw [ho] at hok
     cases hok
     exact hdst
    ·exact ht k ok hok (by rw [getSet k hki];exact hkl)
  obtain ⟨hgd,hF,hcase⟩:=hs i o ho
  have hw:CB ops o (Fs i) true:=by unfold CB;rw [hgd]
  unfold wpOp
  simp only [ho]
  rw [if_pos (hw.is (m:=m) (tmps:=a.tmps) hlook)]
  refine .inl ?_
  rcases hcase with h|⟨hip,hpn⟩|⟨hip,hok⟩
  ·rw [live] at h;cases h
  ·refine hpn b0 m a inv.H inv.cx (hG _ inv.below) (lT inv.base inv.below.size) (fun t ht=>hlook t (LH ht)) _ _ fun w' hb=>?_
   refine hq a m w' inv.H ⟨inv.cx,inv.tot,fun t=>?_,inv.size,inv.defers,inv.below,inv.base,inv.S,inv.T⟩ hb
   rcases fgtAt t with ⟨k,ok,hok,hdst⟩|⟨h1,h2⟩
   ·rw [anyAt t k ok hok hdst];trivial
   ·rw [h1]
    exact inv.frame t fun k ok hok _=>h2 k ok hok
  ·refine (hok.tok0) b0 m a inv.H inv.cx inv.tot (hG _ inv.below) (lT inv.base inv.below.size) (fun t ht=>hlook t (LH ht)) _ _ fun v m' hH hx ht' hle hb hS hv=>?_
   refine hK _ m' ⟨hH,hx,ht',reFrame m' v hle hv,by rw [Ea];exact inv.size,by rw [Cy];exact inv.defers,inv.below.trans hb,inv.base,fun b hb'=>(hS b hb').elim (inv.S b) .inr,hle.T.trans inv.T,by simp [inv.ls],fun n j hj hjs=>?_⟩
   have hji:j≠i:=by
    rintro rfl
    rcases hj with hj|hj
    ·exact hip hj
    ·rw [live] at hj;cases hj
   rw [getSet j hji]
   exact inv.un n j hj hjs
 intro f
 induction f with
 | zero =>
  intro listed a m inv hc
  have hr:Region.ready .any ops listed=[]:=by
   cases hr:Region.ready .any ops listed with
   | nil=>rfl
   | cons i r =>
    have h1:=(mem_ready.1 (show i∈Region.ready .any ops listed by rw [hr];simp)).1
    have:=Hq h1
    omega
  exact (fin listed a m inv hr).elim
 | succ f ih =>
  intro listed a m inv hc
  refine ⟨fun hr=>(fin listed a m inv hr).elim,fun i hi=>next listed i a m inv hi _ fun a' m' inv'=>ih _ a' m' inv' ?_⟩
  have:=Hq (mem_ready.1 hi).1
  omega
theorem AcH {H:List Ob} {Q:Te} {l:List Oper} (p:Nat) {chain:List PanicEntry} (hm:P.follows .mixedOrders=true) (hB:(NP N l && Qr .any l.toArray && Nat.ble (p+1) l.length)=true)
  (h:ChP P G l.toArray p chain 0 l F H) (hQ:Q (.panic chain) (fgt l F) H):CW P G N (.region id l.toArray true) F H Q:=fun b0 w0 S0 a m hG hH hs=>by
 subst hH
 simp only [ah] at hB
 obtain ⟨⟨hd,hC⟩,hp⟩:=hB
 have hp:p<l.length:=bf hp
 refine wp_region_any hm ?_
 obtain ⟨Fs,xs,h1,h2⟩:=h.seq
 have hs':=hs.drew
 refine Agy (G:=G) (w0:=w0) (S0:=S0) (b0:=b0) (N:=N) (chain:=chain) hG hC (by simpa using hd) (Fs:=Fs) (xs:=xs) (H:=m.H) (p:=p) (by simpa using hp) (fun i o hi=>?_) (fun a' m' w' hH' hst hb=>?_) l.toArray.size (Array.replicate l.toArray.size false) a { m with w:=m.w.drew } ?_ (by simp [Abt])
 ·have:=h2 i o (by simpa using hi)
  rw [bc] at this
  exact this
 ·have hst':St b0 N w0 S0 (fgt l F) a' m':=by rw [h1] at hst;simpa using hst
  exact ⟨_,m'.plus w' m'.H.length [],rfl,Alr hst' hb,by show Q _ _ m'.H;rw [hH'];exact hQ⟩
 ·refine ⟨rfl,hs'.cx,hs'.tot,fun t ht=>?_,hs'.size,hs'.defers,hs'.below,hs'.base,hs'.S,hs'.T,by simp,fun n i _ hi=>by simpa [Array.getD] using hi⟩
  have keep:∀ k,k≤l.length→Fs k t=F t:=fun k hk=>by
   induction k with
   | zero=>rw [h1]
   | succ k ih =>
    have ho:l[k]?=some (l[k]'(by omega)):=gE (by omega)
    rw [(h2 k _ ho).2.1,FR,if_neg (ht k _ (by simp [ho]) (by have:=(gS.1 ho).1;simpa [Array.getD] using this))]
    exact ih (by omega)
  rw [show Fs l.toArray.size t=F t from keep l.length (aa _)]
  exact hs'.frame t
end
def FA (g:Nat):Value:=.pointer (some ⟨g,0,none⟩)
def Als (fc:FuncId) (g1 g2 g3:Nat):Deferred:={ target:=.fn (.func fc) #[FA g1,FA g2,FA g3],args:=#[] }
abbrev Alt (i1 i2 i3 g1 g2 g3:Nat):X:=.pin [(i1,g1),(i2,g2),(i3,g3)]
def CWD (P:Program) (G:World→Prop) (N:Nat) (fc:FuncId) (i1 i2 i3:Nat) (c:Code) (F:Frm) (H:List Ob) (Q QD:Te):Prop :=
 ∀ (b0:Nat) (w0:World) (S0:SD) (a:Act) (m:Mm),(∀ w',Below b0 w0 w'→G w')→S0.ds=[]→m.H=H→St b0 N w0 S0 F a m →
  c.wp P (fun e a w=>∃ F' m',m'.w=w∧((St b0 N w0 S0 F' a m'∧Q e F' m'.H)∨∃ g1 g2 g3,St b0 N w0 ⟨S0.S,[Als fc g1 g2 g3]⟩ F' a m'∧F' N=Alt i1 i2 i3 g1 g2 g3∧QD e F' m'.H)) a m.w
section
variable {P:Program} {G:World→Prop} {N:Nat} {fc:FuncId} {i1 i2 i3:Nat} {F:Frm} {H:List Ob} {Q QD:Te}
theorem FN {x y:Code} (h:CW P G N x F H (RQ (fun F' H'=>CWD P G N fc i1 i2 i3 y F' H' Q QD) Q)):CWD P G N fc i1 i2 i3 (.seq x y) F H Q QD:=fun b0 w0 S0 a m hG hd hH hs =>
 wp_seq (wp_mono (h b0 w0 S0 a m hG hH hs) fun e a w ⟨F',m',h1,h2,h3⟩=>by
  cases e with
  | normal=>subst h1;exact h3 b0 w0 S0 a m' hG hd rfl h2
  | exit id=>exact ⟨F',m',h1,.inl ⟨h2,h3⟩⟩
  | goto l=>exact ⟨F',m',h1,.inl ⟨h2,h3⟩⟩
  | ret=>exact ⟨F',m',h1,.inl ⟨h2,h3⟩⟩
  | panic ch=>exact ⟨F',m',h1,.inl ⟨h2,h3⟩⟩
  | outgrown=>exact ⟨F',m',h1,.inl ⟨h2,h3⟩⟩)
theorem AcI {o1 o2:Oper} {y:Code} {t1 t2 t3 d:Nat} {ty1 ty2 ty3:TypeId} {cs1 cs2 cs3:List C}
  (h:∀ g1 g2 g3,CW P G N y ((F.put (some d) .any).put (some N) (Alt i1 i2 i3 g1 g2 g3)) H fun e F' H'=>F' N=Alt i1 i2 i3 g1 g2 g3∧QD e F' H')
  (h1:o1.op=.makeFunc (.func fc) #[] #[.tmp t1,.tmp t2,.tmp t3]:=by with_unfolding_all exact rfl) (hd1:o1.dst=some d:=by with_unfolding_all exact rfl) (hg1:o1.guard=none:=by with_unfolding_all exact rfl) (hdN:Nat.ble (d+1) N=true:=by with_unfolding_all exact rfl)
  (h2:o2.op=.defer { callee:=.value (.tmp d),args:=#[],argTypes:=#[] }:=by with_unfolding_all exact rfl) (hd2:o2.dst=none:=by with_unfolding_all exact rfl) (hg2:o2.guard=none:=by with_unfolding_all exact rfl)
  (e1:F t1=.one (.ref i1 0 none):=by with_unfolding_all exact rfl) (e2:F t2=.one (.ref i2 0 none):=by with_unfolding_all exact rfl) (e3:F t3=.one (.ref i3 0 none):=by with_unfolding_all exact rfl)
  (b1:H[i1]?=some (.box ty1 cs1):=by with_unfolding_all exact rfl) (b2:H[i2]?=some (.box ty2 cs2):=by with_unfolding_all exact rfl) (b3:H[i3]?=some (.box ty3 cs3):=by with_unfolding_all exact rfl) :
  CWD P G N fc i1 i2 i3 (.seq (.region id #[o1,o2] false) y) F H Q QD:=fun b0 w0 S0 a m hG hds hH hs=>by
 subst hH
 have hdN:d<N:=bf hdN
 have p1:=hs.frame t1;rw [e1] at p1
 have p2:=hs.frame t2;rw [e2] at p2
 have p3:=hs.frame t3;rw [e3] at p3
 obtain ⟨g1,_,q1,_⟩:=FS hs.cx p1 b1
 obtain ⟨g2,_,q2,_⟩:=FS hs.cx p2 b2
 obtain ⟨g3,_,q3,_⟩:=FS hs.cx p3 b3
 refine wp_seq (wp_region_lit (l:=[o1,o2]) ?_)
 have hw1:Region.wanted o1 (yielded [o1,o2].toArray a.tmps)=true:=by unfold Region.wanted;rw [hg1]
 unfold wpList
 rw [if_pos hw1]
 refine .inl ?_
 have hx1:(execOp a.eval o1).run P m.w=.ok (.value (.func (.func fc) #[] #[FA g1,FA g2,FA g3])) m.w:=by
  unfold execOp
  simp only [h1,Instr.makeFunc,Act.eval,q1,q2,q3,aj,bg,av,FA,jo,ce,ga]
 unfold Oper.wp
 rw [hx1,Oper.upon_value,hd1]
 have hw2:∀ tmps,Region.wanted o2 (yielded [o1,o2].toArray tmps)=true:=fun tmps=>by unfold Region.wanted;rw [hg2]
 unfold wpList
 rw [if_pos (hw2 _)]
 refine .inl ?_
 have hget:(a.put (some d) (.func (.func fc) #[] #[FA g1,FA g2,FA g3])).tmps.getD d undef=.func (.func fc) #[] #[FA g1,FA g2,FA g3]:=by
  rw [LG hs.size (fun d' h=>by cases h;exact hdN),if_pos rfl]
 have hx2:(execOp (a.put (some d) (.func (.func fc) #[] #[FA g1,FA g2,FA g3])).eval o2).run P m.w=.ok (.defer (Als fc g1 g2 g3)) m.w:=by
  unfold execOp
  simp only [h2,resolve,Act.eval,hget,Deferred.ofValue,aj,bg,av,Als,Array.map_empty,Array.append_empty]
 unfold Oper.wp
 rw [hx2,Oper.upon_defer,hd2]
 unfold wpList
 have hst:St b0 N w0 ⟨S0.S,[Als fc g1 g2 g3]⟩ ((F.put (some d) .any).put (some N) (Alt i1 i2 i3 g1 g2 g3)) ({ (a.put (some d) (.func (.func fc) #[] #[FA g1,FA g2,FA g3])) with defers:=Als fc g1 g2 g3::(a.put (some d) (.func (.func fc) #[] #[FA g1,FA g2,FA g3])).defers }) m:=by
  refine ⟨hs.cx,hs.tot,fun t=>?_,?_,?_,hs.below,hs.base,hs.S,hs.T⟩
  ·rw [FR]
   split
   ·intro p hp
    simp only [bo,bp,or_false] at hp
    rcases hp with rfl|rfl|rfl
    ·exact q1 ▸ p1
    ·exact q2 ▸ p2
    ·exact q3 ▸ p3
   ·exact GH hs.size (fun d' h=>by cases h;exact hdN) (Le.refl m) hs.frame (x:=.any) trivial t
  ·show (a.put (some d) _).tmps.size=N
   rw [Ea]
   exact hs.size
  ·show _::(a.put (some d) _).defers=_
   rw [Cy,hs.defers,hds]
 refine wp_mono (h g1 g2 g3 b0 w0 ⟨S0.S,[Als fc g1 g2 g3]⟩ _ m hG rfl hst) fun e a' w' ⟨F',m',k1,k2,k3,k4⟩=>?_
 exact ⟨F',m',k1,.inr ⟨g1,g2,g3,k2,k3,k4⟩⟩
end
theorem AoW {P:Program} {G:World→Prop} (hG:∀ w w',Below w.heap.size w w'→G w→G w') {f:FuncId} {fn:Func} {c:Code} {N:Nat} {args:List A} {d1 d2 d3:D} {f1 f2 f3:A} (hf:P.funcs[f]?=some fn) (hb:fn.body=some c) (hN:fn.ntmps=N) (ha:args.length≤N)
  {fc : FuncId} {fnc : Func} {cc : Code} (hfc : P.funcs[fc]? = some fnc) (hnc : (fnc.name == "runtime.NumGoroutine") = false) (hbc : fnc.body = some cc) {i1 i2 i3 t1 t2 t3 : Nat} {ty1 ty2 ty3 : TypeId} {dd1 dd2 dd3 : TypeDesc} {r1 r2 r3 : Value} {chain : List PanicEntry}
  (hres:fn.results=#[.cell t1 ty1,.cell t2 ty2,.cell t3 ty3]) (hu1:P.underlying ty1=some dd1) (hu2:P.underlying ty2=some dd2) (hu3:P.underlying ty3=some dd3) (hr1:dd1.isRow=false) (hr2:dd2.isRow=false) (hr3:dd3.isRow=false)
  (hid:i1≠i2∧i1≠i3∧i2≠i3)
  (hret:∀ w g1 g2 g3,CallsD P fc #[FA g1,FA g2,FA g3] .returning w fun e u' w'=>(∃ v,e=.returned v)∧u'=.returning∧Below w.heap.size w w')
  (hpan:∀ b0 w g1 g2 g3 v1 v2 v3,b0≤g1→b0≤g2→b0≤g3→g1≠g2→g1≠g3→g2≠g3→b0≤w.heap.size→w.heap[g1]?=some (.cells #[v1] ty1 (0,0))→w.heap[g2]?=some (.cells #[v2] ty2 (0,0))→w.heap[g3]?=some (.cells #[v3] ty3 (0,0)) →
   CallsD P fc #[FA g1,FA g2,FA g3] (.panicking chain) w fun e u' w'=>(∃ v,e=.returned v)∧settle u'=.returning∧Below b0 w w'∧w'.cell? ⟨g1,0,none⟩=some r1∧w'.cell? ⟨g2,0,none⟩=some r2∧w'.cell? ⟨g3,0,none⟩=some r3)
  (hv1:∀ w S,Bh w S d1 r1) (hv2:∀ w S,Bh w S d2 r2) (hv3:∀ w S,Bh w S d3 r3)
  (h:CWD P G N fc i1 i2 i3 c (F0 args) [] (AnK P fn [f1,f2,f3]) fun e F H=>AnK P fn [f1,f2,f3] e F H∨(e=.panic chain∧(f1=.one d1∧f2=.one d2∧f3=.one d3)∧(F t1=.one (.ref i1 0 none)∧F t2=.one (.ref i2 0 none)∧F t3=.one (.ref i3 0 none)) ∧
   (∃ c1,H[i1]?=some (.box ty1 [c1]))∧(∃ c2,H[i2]?=some (.box ty2 [c2]))∧(∃ c3,H[i3]?=some (.box ty3 [c3])))):CV P G f args [f1,f2,f3]:=by
 intro w S vs hg hlt hargs
 refine calls_of_wp_defers hf hb ?_
 refine wp_mono (h w.heap.size w ⟨S,[]⟩ _ ⟨w,S,[],fun _=>none⟩ (fun w' hb'=>hG w w' hb' hg) rfl rfl (LI hN ha hlt hargs)) fun e a' w' ⟨F',m',hw,hs⟩=>?_
 subst hw
 have inv:∀ (g1 g2 g3:Nat) (w:World),(invoke (Target.fn (.func fc) #[FA g1,FA g2,FA g3]) #[]).run P w=.ok (.enter fc #[FA g1,FA g2,FA g3]) w:=fun g1 g2 g3 w=>by
  simp only [invoke]
  rw [Dz hfc hnc hbc]
  rfl
 rcases hs with ⟨hs,he,hrv⟩|⟨g1,g2,g3,hs,hpin,hq⟩
 ·obtain ⟨v,k1,k2⟩:=MR hs hrv
  have hd:a'.defers=[]:=hs.defers
  rcases he with rfl|rfl
  ·show Leaves P fn a'.tmps _ a'.defers .returning m'.w
   rw [hd];exact ⟨v,k1,v,rfl,k2,hs.below⟩
  ·show Leaves P fn a'.tmps _ a'.defers .returning m'.w
   rw [hd];exact ⟨v,k1,v,rfl,k2,hs.below⟩
 ·have hd:a'.defers=[Als fc g1 g2 g3]:=hs.defers
  rcases hq with ⟨he,hrv⟩|⟨he,⟨rfl,rfl,rfl⟩,⟨q1,q2,q3⟩,⟨c1,b1⟩,⟨c2,b2⟩,⟨c3,b3⟩⟩
  ·have key:Leaves P fn a'.tmps (fun e w'=>∃ v,e=.returned v∧Afq w' (Afp S w w') [f1,f2,f3] v∧Below w.heap.size w w') a'.defers .returning m'.w:=by
    rw [hd]
    refine leaves_cons (by simp) (inv g1 g2 g3 m'.w) ((hret m'.w g1 g2 g3).mono ?_)
    rintro e u' w' ⟨⟨v,rfl⟩,rfl,hbel⟩
    show Leaves P fn a'.tmps _ [] .returning w'
    have hs2:=Alr hs hbel
    obtain ⟨v,k1,k2⟩:=MR hs2 hrv
    exact ⟨v,k1,v,rfl,k2,hs2.below⟩
   rcases he with rfl|rfl <;> exact key
  ·subst he
   have p1:=hs.frame t1;rw [q1] at p1
   have p2:=hs.frame t2;rw [q2] at p2
   have p3:=hs.frame t3;rw [q3] at p3
   have z:=hs.frame N
   rw [hpin] at z
   have z1:=z (i1,g1) (by simp)
   have z2:=z (i2,g2) (by simp)
   have z3:=z (i3,g3) (by simp)
   obtain ⟨k1,u1,l1,m1,n1,o1,s1⟩:=FS hs.cx z1 b1
   obtain ⟨k2,u2,l2,m2,n2,o2,s2⟩:=FS hs.cx z2 b2
   obtain ⟨k3,u3,l3,m3,n3,o3,s3⟩:=FS hs.cx z3 b3
   cases l1;cases l2;cases l3
   obtain ⟨v1,us1,rfl,_,x1⟩:=s1.uncons
   obtain ⟨v2,us2,rfl,_,x2⟩:=s2.uncons
   obtain ⟨v3,us3,rfl,_,x3⟩:=s3.uncons
   have x1:=x1.unnil;subst x1
   have x2:=x2.unnil;subst x2
   have x3:=x3.unnil;subst x3
   have same:∀ {t i g:Nat} {vs:List Value} {ty:TypeId} {c:C},Tz m' i 0 none (a'.tmps.getD t undef)→m'.H[i]?=some (.box ty [c])→m'.E i=some (.box g vs ty)→a'.tmps.getD t undef=FA g:=fun hp hb hE=>by
    obtain ⟨k,u,l,m,_⟩:=FS hs.cx hp hb
    rw [hE] at m
    cases m
    exact l
   have y1:=same p1 b1 m1
   have y2:=same p2 b2 m2
   have y3:=same p3 b3 m3
   have ap:∀ {i j g g':Nat} {vs vs':List Value} {ty ty':TypeId},i≠j→m'.E i=some (.box g vs ty)→m'.E j=some (.box g' vs' ty')→g≠g':=fun hij hi hj hgg=>by
    have:=hs.cx.apart _ _ _ _ hij hi hj _ rfl
    exact this (by rw [hgg];rfl)
   show Leaves P fn a'.tmps _ a'.defers (.panicking chain) m'.w
   rw [hd]
   refine leaves_cons (by simp) (inv g1 g2 g3 m'.w) ((hpan w.heap.size m'.w g1 g2 g3 v1 v2 v3 n1 n2 n3 (ap hid.1 m1 m2) (ap hid.2.1 m1 m3) (ap hid.2.2 m2 m3) hs.below.size o1 o2 o3).mono ?_)
   rintro e u' w' ⟨⟨v,rfl⟩,hset,hbel,hc1,hc2,hc3⟩
   show Leaves P fn a'.tmps _ [] (settle u') w'
   rw [hset]
   have hrr:∀ {t g:Nat} {ty:TypeId} {dd:TypeDesc} {r:Value} {d:D},a'.tmps.getD t undef=FA g→P.underlying ty=some dd→dd.isRow=false→w'.cell? ⟨g,0,none⟩=some r→(∀ w S,Bh w S d r)→∃ v,(TA a'.tmps (.cell t ty)).run P w'=.ok v w'∧Em w' (Afp S w w') (.one d) v:=fun ht hu hr hc hv=>by
    refine ⟨_,?_,hv _ _⟩
    simp only [TA,ht,FA,asAddr,aj,bg,av]
    exact EO hu hr hc
   obtain ⟨v,k1,k2⟩:=OM (P:=P) (fn:=fn) (tmps:=a'.tmps) (w:=w') (Sx:=Afp S w w') (res:=[.one d1,.one d2,.one d3]) (by
    rw [hres]
    exact AV.cons_ (hrr y1 hu1 hr1 hc1 hv1) (AV.cons_ (hrr y2 hu2 hr2 hc2 hv2) (AV.cons_ (hrr y3 hu3 hr3 hc3 hv3) AV.nil_)))
   exact ⟨v,k1,v,rfl,k2,hs.below.trans hbel⟩
section
variable {P:Program} {G:World→Prop} {o:Oper} {F:Frm} {H:List Ob}
theorem Ur {ty:TypeId} {ds:List D} (hH:H[id]?=some (.box ty (ds.map C.d))):Ik true H (.one (.ref id 0 none)) (.one (.ptr true ds)) :=
 .one (.ref rfl hH (by simp) fun j c d hc hd=>by
  simp only [jq,ag,hd,bu,Option.some.injEq] at hc
  subst hc
  exact .d fun h=>by cases h)
theorem xMf (rs:List (Nat × Nat × Option Nat)) {fn:Fn} {caps:Array Operand} (ho:o.op=.makeFunc fn #[] caps:=by with_unfolding_all exact rfl) (hc:caps.toList.map F.ev=rs.map (fun p=>X.one (.ref p.1 p.2.1 p.2.2)):=by with_unfolding_all exact rfl):Bb P G o F H (.one (.clo fn rs)) [] :=
 CU ho ⟨by have:=congrArg List.length hc;simpa using this,fun j x p hx hp=>by
  have h1:=congrArg (fun l=>l[j]?) hc
  simp only [ag,hx,hp,bu,Option.some.injEq] at h1
  exact h1⟩
theorem xCc {cd : Code} {r : Operand} {rs : List (Nat × Nat × Option Nat)} {l args cargs res : List A} {x : X} (h1 : P.funcs[f]? = some fn) (h : CV P G f l res) (hl : l = args ++ cargs) (h2 : (fn.name == "runtime.NumGoroutine") = false := by kernel_rfl) (h3 : fn.body = some cd := by with_unfolding_all exact rfl)
  (ho:o.op=.call { callee:=.value r,args:=xs,argTypes:=ts }:=by with_unfolding_all exact rfl) (hr:F.ev r=.one (.clo (.func f) rs):=by with_unfolding_all exact rfl)
  (ha:AV (fun x y=>Ik true H (F.ev x) y) xs.toList args:=by with_unfolding_all first|((repeat' first|exact CF rfl rfl|refine BG rfl rfl ?_ ?_|refine GO rfl rfl ?_|refine EV rfl rfl ?_|exact CA rfl (fun h=>by cases h)|exact Fx rfl rfl|exact cexp_e rfl rfl|refine Ej rfl rfl rfl ?_) <;> fail)|fail)
  (hcl:AV (fun (p:Nat × Nat × Option Nat) y=>Ik true H (.one (.ref p.1 p.2.1 p.2.2)) y) rs cargs:=by with_unfolding_all first|((repeat' first|exact CF rfl rfl|refine BG rfl rfl ?_ ?_|exact Ur rfl) <;> fail)|fail)
  (hx:Aka res=x:=by with_unfolding_all exact rfl):Bb P G o F H x []:=hx ▸ Zo ho hr h1 h2 h3 (hl ▸ h) ha hcl
end
section
variable {P:Program} {F:Frm} {H:List Ob}
theorem rvB {t:Tmp} {ty ty':Nat} {c:C} {x:D} (hk:TyK P ty false 1) (h:Gj false H c x) (hF:F t=.one (.ref id 0 none):=by with_unfolding_all exact rfl) (hH:H[id]?=some (.box ty' [c]):=by with_unfolding_all exact rfl):RV P F H (.cell t ty) (.one x):=by
 obtain ⟨⟨d,hu,hd⟩,_⟩:=hk
 exact .cell1 hF hH hu hd h
end
section
variable {P:Program} {G:World→Prop} {o:Oper} {F:Frm} {H:List Ob} {chain:List PanicEntry} {ops:Array Oper} {p i:Nat} {l:List Oper} {d:Tmp} {xx:X}
theorem Pe:ChP P G ops p chain i [] F H:=trivial
theorem Po (h:Bb P G o F H xx []) (k:ChP P G ops p chain (i+1) l (F.put (some d) xx) H) (hg:o.guard=none:=by with_unfolding_all exact rfl) (hd:o.dst=some d:=by with_unfolding_all exact rfl) (hi:Nat.beq i p=false:=by with_unfolding_all exact rfl):ChP P G ops p chain i (o::l) F H :=
 ⟨hg,.inr (.inr ⟨hi,xx,h,by rw [hd];exact k⟩)⟩
theorem Pp (h:Agv P G o F H chain) (k:ChP P G ops p chain (i+1) l (F.put (some d) .any) H) (hg:o.guard=none:=by with_unfolding_all exact rfl) (hd:o.dst=some d:=by with_unfolding_all exact rfl) (hi:i=p:=by with_unfolding_all exact rfl):ChP P G ops p chain i (o::l) F H :=
 ⟨hg,.inr (.inl ⟨hi,h,by rw [hd];exact k⟩)⟩
theorem Pd {dd:Option Tmp} (k:ChP P G ops p chain (i+1) l (F.put dd .any) H) (hg:o.guard=none:=by with_unfolding_all exact rfl) (hd:o.dst=dd:=by with_unfolding_all exact rfl) (hi:Qw .any ops p ops.size i=true:=by kernel_rfl):ChP P G ops p chain i (o::l) F H :=
 ⟨hg,.inl ⟨hi,by rw [hd];exact k⟩⟩
theorem xPn {cd : Code} {args : List A} (h1 : P.funcs[f]? = some fn) (h : CVP P G f args chain) (h2 : (fn.name == "runtime.NumGoroutine") = false := by kernel_rfl) (h3 : fn.body = some cd := by with_unfolding_all exact rfl) (ho : o.op = .call { callee := .value (.func f), args := xs, argTypes := ts } := by with_unfolding_all exact rfl) (ha : AV (fun x y => Ik true H (F.ev x) y) xs.toList args := by with_unfolding_all first | ((repeat' first | exact CF rfl rfl | refine BG rfl rfl ?_ ?_ | refine GO rfl rfl ?_ | refine EV rfl rfl ?_ | exact CA rfl (fun h => by cases h) | exact Fx rfl rfl | exact cexp_e rfl rfl | refine Ej rfl rfl rfl ?_) <;> fail) | fail) : Agv P G o F H chain := Alq ho h1 h2 h3 h ha
end
end Go.Proofs.YtmdfjbpggbhgnaaGreatDoor
