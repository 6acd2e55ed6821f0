/- What the proofs of this claim share, part 10. No conditions. -/
import Derived.Test.YtjlkgfeepocjfaaGreatDoorPn9
import Derived.Test.YtjlkgfeepocjfaaGreatDoorPn6
import Derived.Test.YtjlkgfeepocjfaaGreatDoorPn3
import Derived.Defers
import Derived.Recover
import Derived.Deep.RegionHeld3
import Derived.Test.YtjlkgfeepocjfaaGreatDoorRows
import Derived.Laws.AppendOwnNone
import Derived.Laws.OwnMore
set_option maxRecDepth 100000
set_option maxHeartbeats 8000000
set_option linter.all false
open Go.Proofs.Tryz
namespace Go.Proofs.YtjlkgfeepocjfaaGreatDoor
open Go.RowKit
variable {f:FuncId} {fn:Func} {ts:Array TypeId} {t t':TypeId} {F:Frm} {W w w':World} {base fuel g i id j m s:Nat} {ops:Array Oper} {E E' a e n y:Int} {v v2:Value} {out:List Nat} {b over:Bool} {l m':List Bool} {os xs:List Int} {p:Prop} {vs:List Value} {ps:List Prt} {S:Dm}
section
variable (P:Program) (G:World→Prop)
def AhK (o:Oper) (F:Frm) (H:List Ob) (chain:List PanicEntry):Prop :=
 ∀ (b0:Nat) (m:Mm) (a:Act),m.H=H→Cx b0 m→G m.w→b0≤m.w.heap.size→Aml m F a o →
  ∀ (K:Act→World→Prop) (Q:Exit→Act→World→Prop),(∀ w',Below m.w.heap.size m.w w'→Q (.panic chain) a w')→o.wp P a m.w K Q
def CVP (f:FuncId) (args:List A) (chain:List PanicEntry):Prop :=
 ∀ (w:World) (S:Dm) (vs:List Value),G w→(∀ t b,S t b→b<w.heap.size)→AP (EA w S) args vs →
  Calls P f vs.toArray w fun e w'=>e=.panicked chain∧Below w.heap.size w w'
end
section
variable {P:Program} {G:World→Prop} {o:Oper} {F:Frm} {H:List Ob} {chain:List PanicEntry}
theorem AmG {c:Code} {xs:Array Operand} (ho:o.op=.call { callee:=.value (.func f),args:=xs,argTypes:=ts })
  (hf : P.funcs[f]? = some fn) (hn : (fn.name == "runtime.NumGoroutine") = false) (hb : fn.body = some c) {args : List A} (h : CVP P G f args chain) (ha : AP (fun x y => LA true H (F.ev x) y) xs.toList args) :
  AhK P G o F H chain:=by
 intro b0 m a hH hx hg hb0 hor K Q hK
 have hxs:∀ x∈xs.toList,Ey m (F.ev x) (a.eval x):=fun x hm=>AV hor (by
  rw [ho]
  simp only [Op.operands,Call.operands,ij,eo]
  exact .inr hm)
 let Sx:Dm:=fun t b=>m.S t b∨(t=true∧∃ id e,m.E id=some e∧e.own=some b)
 have hcalls:=h m.w Sx (xs.toList.map a.eval) hg (fun t b hb=>by
  rcases hb with hb|⟨_,id,e,he,hown⟩
  ·exact hx.lt t b hb
  ·exact (Et.lt (hx.each id e he).1 hown).2) ⟨by rw [ad];exact ha.1.symm,fun j y v hy hv=>by
   simp only [ag,dg] at hv
   obtain ⟨x,hxj,rfl⟩:=hv
   exact LA.rel hx (fun b hb=>.inl hb) (fun _ b hb=>.inl hb) (fun id e g he hg=>.inr ⟨rfl,id,e,he,hg⟩) (hH ▸ ha.2 j x y hxj hy) (hxs x (gM hxj))⟩
 unfold Oper.wp execOp
 simp only [ho,resolve,Act.eval,Deferred.ofValue,ai,bk,bd,invoke]
 rw [DD hf hn hb]
 rw [gl]
 have he:((#[]:Array Value)++xs.map a.eval++#[])=(xs.toList.map a.eval).toArray:=gb (by simp)
 simp only [he]
 refine hcalls.mono fun e w' ⟨hev,hbel⟩=>?_
 subst hev
 exact hK w' hbel
theorem AhL {x:Operand} {u:Value} (ho:o.op=.panic x) (hx:F.ev x=.one (.d (.val (.iface t u)))):AhK P G o F H [{ v:=.iface t u,recovered:=false }]:=by
 intro b0 m a hH hcx hg hb0 hor K Q hK
 have ex:=CA (m:=m) (v:=a.eval x) (by rw [←hx];exact AV hor (by rw [ho];simp [Op.operands]))
 unfold Oper.wp execOp
 simp only [ho,ex]
 exact hK m.w (ah _ _)
theorem Yd {x:Operand} {d:TypeDesc} (ho:o.op=.makeInterface t x) (hx:F.ev x=.agg []) (hu:P.underlying t=some d) (hd:(match d with|.interface _=>false|_=>true)=true):AU P G o F H (.one (.d (.val (.iface t (.agg #[]))))) []:=BS fun b0 m a _ _ hor=>by
 have ex:a.eval x=.agg #[]:=by
  have h:Ey m (.agg []) (a.eval x):=by rw [←hx];exact AV hor (by rw [ho];simp [Op.operands])
  obtain ⟨xs,h1,h2⟩:=h
  rw [h2.unnil] at h1
  exact h1
 refine ⟨.iface t (.agg #[]),?_,Ba.val rfl⟩
 unfold execOp
 cases d <;> simp_all [Instr.makeInterface,run_underlying hu]
theorem AqP (hG:∀ w w',Below w.heap.size w w'→G w→G w') {f:FuncId} {fn:Func} {c:Code} {N:Nat} {args:List A} (hf:P.funcs[f]?=some fn) (hb:fn.body=some c) (hN:fn.ntmps=N) (ha:args.length≤N)
  (h:CW P G N c (F0 args) [] fun e _ _=>e=.panic chain):CVP P G f args chain:=by
 intro w S vs hg hlt hargs
 refine calls_of_wp hf hb ?_
 have hst:=Ml (N:=N) (fn:=fn) hN ha hlt hargs
 refine wp_mono (h w.heap.size w ⟨S,[]⟩ _ ⟨w,S,[],fun _=>none⟩ (fun w' hb'=>hG w w' hb' hg) rfl hst) fun e a' w' ⟨F',m',hw,hs,hret⟩=>?_
 subst hw
 subst hret
 exact ⟨hs.defers,rfl,hs.below⟩
end
section
variable {P:Program} {G:World→Prop} {N:Nat}
theorem AmH {b0:Nat} {w0:World} {S0:SD} {a:Act} {m:Mm} (hs:St b0 N w0 S0 F a m) (hb:Below m.w.heap.size m.w w'):St b0 N w0 S0 F a (m.plus w' m.H.length []):=by
 have hn:Amk b0 m m.H.length [] w' []:=⟨rfl,hb,fun k e hk=>by simp at hk,List.Pairwise.nil⟩
 have hE:∀ k,k<([]:List Et).length→m.E (m.H.length+k)=none:=fun k hk=>by simp at hk
 have hle:=GL hb hs.cx.lt hE
 refine ⟨hs.cx.plus hn (fun k ob hk=>by simp at hk) hE,fun id ob hob hk=>?_,fun t=>(hs.frame t).le hle,hs.size,hs.defers,hs.below.trans (hb.mono (lT hs.base hs.below.size)),hs.base,fun b hb'=>?_,hle.T.trans hs.T⟩
 ·show (if m.H.length≤id∧id<m.H.length+0 then _ else m.E id).isSome=true
  rw [if_neg (by omega)]
  exact hs.tot id ob hob hk
 ·rcases hb' with h|⟨_,h,_⟩
  ·exact hs.S b h
  ·exact .inr (lT (lT hs.base hs.below.size) h)
theorem AdM {b0:Nat} {w0:World} {S0:SD} {ops:Array Oper} (hG:∀ w',Below b0 w0 w'→G w') {Q:Exit→Act→World→Prop} {r:List Oper} :
  ∀ (l:List Oper) (F:Frm) (a:Act) (m:Mm) (K:Frm→List Ob→Prop),Mk N l=true→St b0 N w0 S0 F a m→Ti P G ops l F m.H K→(∀ F' a' m',St b0 N w0 S0 F' a' m'→K F' m'.H→wpList P ops Q r a' m'.w)→wpList P ops Q (l++r) a m.w
 | [],F,a,m,K,_,hs,h,hq=>hq F a m hs h
 | o::l,F,a,m,K,hd,hs,h,hq=>by
  have hd0:=Nq hd (o:=o) (by simp)
  have hd1:Mk N l=true:=by
   unfold Mk at hd ⊢
   simp only [ii,aj] at hd
   exact hd.2
  rw [List.cons_append]
  unfold wpList
  rcases h with ⟨hw,h⟩|⟨hw,x,H2,hok,h⟩
  ·rw [if_neg (by rw [hw.is (m:=m) (tmps:=a.tmps) fun t _=>hs.frame t];simp)]
   exact AdM hG l _ _ m K hd1 ⟨hs.cx,hs.tot,Hq (x:=.tup []) hs.size hd0 (Le.refl m) hs.frame ⟨[],rfl,.nil_⟩,by rw [DB];exact hs.size,by rw [Cg];exact hs.defers,hs.below,hs.base,hs.S,hs.T⟩ h hq
  ·rw [if_pos (hw.is (m:=m) (tmps:=a.tmps) fun t _=>hs.frame t)]
   refine .inl (hok b0 m a rfl hs.cx hs.tot (hG _ hs.below) (lT hs.base hs.below.size) (fun t _=>hs.frame t) _ _ fun v m' hH hx ht hle hb hS hv=>?_)
   subst hH
   exact AdM hG l _ _ m' K hd1 ⟨hx,ht,Hq hs.size hd0 hle hs.frame hv,by rw [DB];exact hs.size,by rw [Cg];exact hs.defers,hs.below.trans hb,hs.base,fun b hb'=>(hS b hb').elim (hs.S b) .inr,hle.T.trans hs.T⟩ h hq
theorem AdN {H:List Ob} {Q:Sg} {l:List Oper} (n:Nat) {o:Oper} {chain:List PanicEntry} (hd:Mk N (l.take n)=true) (hl:l=l.take n++[o]) (hg:o.guard=none)
  (h:Ti P G l.toArray (l.take n) F H fun F' H'=>AhK P G o F' H' chain∧Q (.panic chain) F' H'):CW P G N (.region id l.toArray false) F H Q:=fun b0 w0 S0 a m hG hH hs=>by
 subst hH
 refine wp_region_lit ?_
 have key:wpList P l.toArray (fun e a w=>∃ F' m',m'.w=w∧St b0 N w0 S0 F' a m'∧Q e F' m'.H) (l.take n++[o]) a m.w:=by
  refine AdM hG (l.take n) F a m _ hd hs h fun F' a' m' h1 h2=>?_
  unfold wpList
  have hw:Cu l.toArray o F' true:=by unfold Cu;rw [hg]
  rw [if_pos (hw.is (m:=m') (tmps:=a'.tmps) fun t _=>h1.frame t)]
  exact .inl (h2.1 b0 m' a' rfl h1.cx (hG _ h1.below) (lT h1.base h1.below.size) (fun t _=>h1.frame t) _ _ fun w' hb=>⟨F',m'.plus w' m'.H.length [],rfl,AmH h1 hb,h2.2⟩)
 rw [←hl] at key
 exact key
def RM (md:Region.Mode) (ops:Array Oper) (p:Nat):Nat→Nat→Bool
 | 0,_=>false
 | n+1,i=>match ops[i]? with
  | none=>false
  | some o=>o.after.any fun e=>Region.binds md e && (Nat.beq e.on p || RM md ops p n e.on)
section
variable (P G)
def ChP (ops:Array Oper) (p:Nat) (chain:List PanicEntry):Nat→List Oper→Frm→List Ob→Prop
 | _,[],_,_=>True
 | i,o::l,F,H=>o.guard=none∧((RM .any ops p ops.size i=true∧ChP ops p chain (i+1) l (F.put o.dst .any) H)∨(i=p∧AhK P G o F H chain∧ChP ops p chain (i+1) l (F.put o.dst .any) H) ∨
   (Nat.beq i p=false∧∃ x,AU P G o F H x []∧ChP ops p chain (i+1) l (F.put o.dst x) H))
end
theorem ChP.seq {ops:Array Oper} {p:Nat} {chain:List PanicEntry}:∀ {l:List Oper} {i:Nat} {F:Frm} {H:List Ob},ChP P G ops p chain i l F H →
  ∃ (Fs:Nat→Frm) (xs:Nat→X),Fs 0=F∧∀ (k:Nat) (o:Oper),l[k]?=some o→o.guard=none∧Fs (k+1)=(Fs k).put o.dst (xs k) ∧
   (RM .any ops p ops.size (i+k)=true∨(i+k=p∧AhK P G o (Fs k) H chain)∨(i+k≠p∧AU P G o (Fs k) H (xs k) []))
 | [],i,F,H,h=>⟨fun _=>F,fun _=>.any,rfl,fun k o hk=>by simp at hk⟩
 | o::l,i,F,H,h=>by
  obtain ⟨hg,h⟩:=h
  have key:∃ x,(RM .any ops p ops.size i=true∨(i=p∧AhK P G o F H chain)∨(i≠p∧AU P G o F H x []))∧ChP P G ops p chain (i+1) l (F.put o.dst x) H:=by
   rcases h with ⟨h1,h2⟩|⟨h1,h2,h3⟩|⟨h1,x,h2,h3⟩
   ·exact ⟨.any,.inl h1,h2⟩
   ·exact ⟨.any,.inr (.inl ⟨h1,h2⟩),h3⟩
   ·exact ⟨x,.inr (.inr ⟨fun hi=>(by subst hi;rw [en] at h1;cases h1),h2⟩),h3⟩
  obtain ⟨x,hx,hc⟩:=key
  obtain ⟨Fs,xs,h1,h2⟩:=ChP.seq hc
  refine ⟨fun k=>match k with|0=>F|k+1=>Fs k,fun k=>match k with|0=>x|k+1=>xs k,rfl,fun k o' hk=>?_⟩
  rcases k with _|k
  ·simp only [eb,Option.some.injEq] at hk
   subst hk
   exact ⟨hg,by rw [←h1],hx⟩
  ·simp only [fi] at hk
   have:=h2 k o' hk
   rw [show i+1+k=i+(k+1) by omega] at this
   exact this
def fgt (l:List Oper) (F:Frm):Frm:=fun t=>match l.any (fun o=>match o.dst with|some d=>Nat.beq d t|none=>false) with|true=>.any|false=>F t
structure AhM (b0 N:Nat) (w0:World) (S0:SD) (ops:Array Oper) (p:Nat) (Fs:Nat→Frm) (H:List Ob) (listed:Array Bool) (a:Act) (m:Mm):Prop where
 H:m.H=H
 cx:Cx b0 m
 tot:Tot m
 frame:∀ t,(∀ (i:Nat) (o:Oper),ops[i]?=some o→listed.getD i true=false→o.dst≠some t)→Ey m (Fs ops.size t) (a.tmps.getD t undef)
 size:a.tmps.size=N
 defers:a.defers=S0.ds
 below:Below b0 w0 m.w
 base:b0≤w0.heap.size
 S:∀ b,m.S false b→S0 false b∨b0≤b
 T:m.S true=S0 true
 ls:listed.size=ops.size
 un:∀ n i,(i=p∨RM .any ops p n i=true)→i<ops.size→listed.getD i true=false
theorem AhN {b0:Nat} {w0:World} {S0:SD} (hG:∀ w',Below b0 w0 w'→G w') {Q:Exit→Act→World→Prop} {chain:List PanicEntry} (hC:OO .any ops=true) (hd:Mk N ops.toList=true)
  {Fs:Nat→Frm} {H:List Ob} {xs:Nat→X} {p:Nat} (hp:p<ops.size)
  (hs:∀ (i:Nat) (o:Oper),ops[i]?=some o→o.guard=none∧Fs (i+1)=(Fs i).put o.dst (xs i)∧(RM .any ops p ops.size i=true∨(i=p∧AhK P G o (Fs i) H chain)∨(i≠p∧AU P G o (Fs i) H (xs i) [])))
  (hq:∀ a m w',m.H=H→St b0 N w0 S0 (fgt ops.toList (Fs 0)) a m→Below m.w.heap.size m.w w'→Q (.panic chain) a w') :
  ∀ (f:Nat) (listed:Array Bool) (a:Act) (m:Mm),AhM b0 N w0 S0 ops p Fs H listed a m→Abs listed≤f→wpAny P .any ops Q f listed a m.w:=by
 have opAt:∀ i,i<ops.size→∃ o,ops[i]?=some o:=fun i hi=>⟨_,ga hi⟩
 have keep:∀ t d i,i+d≤ops.size→(∀ (k:Nat) (o:Oper),i≤k→k<i+d→ops[k]?=some o→o.dst≠some t)→Fs (i+d) t=Fs i t:=fun t d=>by
  induction d with
  | zero=>intro i _ _;rfl
  | succ d ih =>
   intro i hi hk
   obtain ⟨o,ho⟩:=opAt (i+d) (by omega)
   rw [show i+(d+1)=i+d+1 by omega,(hs _ o ho).2.1,EH,if_neg (hk (i+d) o (by omega) (by omega) ho)]
   exact ih i (by omega) fun k o' h1 h2=>hk k o' h1 (by omega)
 have look:∀ i o t,ops[i]?=some o→t∈o.looksAt ops→Fs ops.size t=Fs i t:=fun i o t ho ht=>by
  have hi:=(Array.getElem?_eq_some_iff.1 ho).1
  have:=keep t (ops.size - i) i (by omega) fun k o' h1 _ hk hdst=>by
   have:=((Cj hC ho).2 k o' t hk hdst).1 ht
   omega
  rwa [show i+(ops.size - i)=ops.size by omega] at this
 have out:∀ i o t,ops[i]?=some o→o.dst=some t→Fs ops.size t=xs i:=fun i o t ho ht=>by
  have hi:=(Array.getElem?_eq_some_iff.1 ho).1
  have:=keep t (ops.size - (i+1)) (i+1) (by omega) fun k o' h1 _ hk hdst=>((Cj hC ho).2 k o' t hk hdst).2 (by omega) ht
  rw [show i+1+(ops.size - (i+1))=ops.size by omega,(hs i o ho).2.1,EH,if_pos ht] at this
  exact this
 have fin:∀ (listed:Array Bool) (a:Act) (m:Mm),AhM b0 N w0 S0 ops p Fs H listed a m→Region.ready .any ops listed=[]→False:=fun listed a m inv hr=>by
  have all:∀ i,i<ops.size→listed.getD i true=true:=by
   intro i
   induction i using Nat.strongRecOn with
   | _ i ih =>
    intro hi
    cases hl:listed.getD i true with
    | true=>rfl
    | false =>
     exfalso
     obtain ⟨o,ho⟩:=opAt i hi
     have:i∈Region.ready .any ops listed:=mem_ready.2 ⟨hl,o,ho,fun e he hb=>by
      have hlt:=(Cj hC ho).1 e he hb
      have:=ih e.on hlt (by omega)
      have hsz:=inv.ls
      rw [←CO (by omega)]
      exact this⟩
     rw [hr] at this
     cases this
  have:=inv.un 0 p (.inl rfl) hp
  rw [all p hp] at this
  cases this
 have fgtAt:∀ t,(∃ (i:Nat) (o:Oper),ops[i]?=some o∧o.dst=some t)∨(fgt ops.toList (Fs 0) t=Fs ops.size t∧∀ (i:Nat) (o:Oper),ops[i]?=some o→o.dst≠some t):=fun t=>by
  by_cases h:∃ (i:Nat) (o:Oper),ops[i]?=some o∧o.dst=some t
  ·exact .inl h
  ·refine .inr ⟨?_,fun i o ho hdst=>h ⟨i,o,ho,hdst⟩⟩
   have h1:=keep t ops.size 0 (by omega) fun k o _ _ ho hdst=>h ⟨k,o,ho,hdst⟩
   rw [ax] at h1
   rw [h1]
   unfold fgt
   have:ops.toList.any (fun o=>match o.dst with|some d=>Nat.beq d t|none=>false)=false:=by
    rw [List.any_eq_false]
    intro o ho
    obtain ⟨i,hi⟩:=List.mem_iff_getElem?.1 ho
    cases hdst:o.dst with
    | none=>simp
    | some d =>
     simp only [ci]
     cases hb:Nat.beq d t with
     | false=>rfl
     | true=>exact absurd ⟨i,o,by simpa using hi,by rw [hdst,di hb]⟩ h
   rw [this]
 have anyAt:∀ (t i:Nat) (o:Oper),ops[i]?=some o→o.dst=some t→fgt ops.toList (Fs 0) t=.any:=fun t i o ho hdst=>by
  unfold fgt
  have:ops.toList.any (fun o=>match o.dst with|some d=>Nat.beq d t|none=>false)=true :=
   List.any_eq_true.2 ⟨o,by simpa using jx ho,by rw [hdst];exact en t⟩
  rw [this]
 have next:∀ (listed:Array Bool) (i:Nat) (a:Act) (m:Mm),AhM b0 N w0 S0 ops p Fs H listed a m→i∈Region.ready .any ops listed→∀ K:Act→World→Prop,
   (∀ a' m',AhM b0 N w0 S0 ops p Fs H (listed.setIfInBounds i true) a' m'→K a' m'.w)→wpOp P ops Q i K a m.w:=fun listed i a m inv hr K hK=>by
  obtain ⟨hun,o,ho,hall⟩:=mem_ready.1 hr
  have hi:=(Array.getElem?_eq_some_iff.1 ho).1
  have hd0:∀ d,o.dst=some d→d<N:=Nq hd (by simpa using jx ho)
  have getSet:∀ j,j≠i→(listed.setIfInBounds i true).getD j true=listed.getD j true:=fun j hj=>getD_set_ne true (Ne.symm hj)
  have hlook:∀ t∈o.looksAt ops,Ey m (Fs i t) (a.tmps.getD t undef):=fun t ht=>by
   rw [←look i o t ho ht]
   refine inv.frame t fun k ok hok hkl hdst=>?_
   obtain ⟨h1,e,he,hb,hon⟩:=((Cj hC ho).2 k ok t hok hdst).1 ht
   have h2:=hall e he hb
   rw [hon] at h2
   have hsz:=inv.ls
   rw [←CO (by have:=(Array.getElem?_eq_some_iff.1 hok).1;omega),hkl] at h2
   cases h2
  have live:∀ n,RM .any ops p n i=false:=fun n=>by
   cases hdd:RM .any ops p n i with
   | false=>rfl
   | true =>
    exfalso
    cases n with
    | zero=>cases hdd
    | succ n =>
     simp only [RM,ho,jw,aj,de] at hdd
     obtain ⟨e,he,hb,hon⟩:=hdd
     have hlt:=(Cj hC ho).1 e he hb
     have h2:=hall e he hb
     have hsz:=inv.ls
     have h3:=inv.un n e.on (hon.imp di id) (by omega)
     rw [←CO (by omega),h3] at h2
     cases h2
  have reFrame:∀ (m':Mm) (v:Value),Le m m'→Ey m' (xs i) v→∀ t,(∀ (k:Nat) (ok:Oper),ops[k]?=some ok→(listed.setIfInBounds i true).getD k true=false→ok.dst≠some t)→Ey m' (Fs ops.size t) ((a.put o.dst v).tmps.getD t undef):=fun m' v hle hv t ht=>by
   rw [IH inv.size hd0]
   split
   ·rename_i hdst
    rw [out i o t ho hdst]
    exact hv
   ·rename_i hdst
    refine (inv.frame t fun k ok hok hkl=>?_).le hle
    by_cases hki:k=i
    ·subst hki
     rw [ho] at hok
     cases hok
     exact hdst
    ·exact ht k ok hok (by rw [getSet k hki];exact hkl)
  obtain ⟨hgd,hF,hcase⟩:=hs i o ho
  have hw:Cu ops o (Fs i) true:=by unfold Cu;rw [hgd]
  unfold wpOp
  simp only [ho]
  rw [if_pos (hw.is (m:=m) (tmps:=a.tmps) hlook)]
  refine .inl ?_
  rcases hcase with h|⟨hip,hpn⟩|⟨hip,hok⟩
  ·rw [live] at h;cases h
  ·refine hpn b0 m a inv.H inv.cx (hG _ inv.below) (lT inv.base inv.below.size) (fun t ht=>hlook t (Hr ht)) _ _ fun w' hb=>?_
   refine hq a m w' inv.H ⟨inv.cx,inv.tot,fun t=>?_,inv.size,inv.defers,inv.below,inv.base,inv.S,inv.T⟩ hb
   rcases fgtAt t with ⟨k,ok,hok,hdst⟩|⟨h1,h2⟩
   ·rw [anyAt t k ok hok hdst];trivial
   ·rw [h1]
    exact inv.frame t fun k ok hok _=>h2 k ok hok
  ·refine (hok.tok0) b0 m a inv.H inv.cx inv.tot (hG _ inv.below) (lT inv.base inv.below.size) (fun t ht=>hlook t (Hr ht)) _ _ fun v m' hH hx ht' hle hb hS hv=>?_
   refine hK _ m' ⟨hH,hx,ht',reFrame m' v hle hv,by rw [DB];exact inv.size,by rw [Cg];exact inv.defers,inv.below.trans hb,inv.base,fun b hb'=>(hS b hb').elim (inv.S b) .inr,hle.T.trans inv.T,by simp [inv.ls],fun n j hj hjs=>?_⟩
   have hji:j≠i:=by
    rintro rfl
    rcases hj with hj|hj
    ·exact hip hj
    ·rw [live] at hj;cases hj
   rw [getSet j hji]
   exact inv.un n j hj hjs
 intro f
 induction f with
 | zero =>
  intro listed a m inv hc
  have hr:Region.ready .any ops listed=[]:=by
   cases hr:Region.ready .any ops listed with
   | nil=>rfl
   | cons i r =>
    have h1:=(mem_ready.1 (show i∈Region.ready .any ops listed by rw [hr];simp)).1
    have:=Fz h1
    omega
  exact (fin listed a m inv hr).elim
 | succ f ih =>
  intro listed a m inv hc
  refine ⟨fun hr=>(fin listed a m inv hr).elim,fun i hi=>next listed i a m inv hi _ fun a' m' inv'=>ih _ a' m' inv' ?_⟩
  have:=Fz (mem_ready.1 hi).1
  omega
theorem AdO {H:List Ob} {Q:Sg} {l:List Oper} (p:Nat) {chain:List PanicEntry} (hm:P.follows .mixedOrders=true) (hB:(Mk N l && OO .any l.toArray && Nat.ble (p+1) l.length)=true)
  (h:ChP P G l.toArray p chain 0 l F H) (hQ:Q (.panic chain) (fgt l F) H):CW P G N (.region id l.toArray true) F H Q:=fun b0 w0 S0 a m hG hH hs=>by
 subst hH
 simp only [aj] at hB
 obtain ⟨⟨hd,hC⟩,hp⟩:=hB
 have hp:p<l.length:=bl hp
 refine wp_region_any hm ?_
 obtain ⟨Fs,xs,h1,h2⟩:=h.seq
 have hs':=hs.drew
 refine AhN (G:=G) (w0:=w0) (S0:=S0) (b0:=b0) (N:=N) (chain:=chain) hG hC (by simpa using hd) (Fs:=Fs) (xs:=xs) (H:=m.H) (p:=p) (by simpa using hp) (fun i o hi=>?_) (fun a' m' w' hH' hst hb=>?_) l.toArray.size (Array.replicate l.toArray.size false) a { m with w:=m.w.drew } ?_ (by simp [Abs])
 ·have:=h2 i o (by simpa using hi)
  rw [ax] at this
  exact this
 ·have hst':St b0 N w0 S0 (fgt l F) a' m':=by rw [h1] at hst;simpa using hst
  exact ⟨_,m'.plus w' m'.H.length [],rfl,AmH hst' hb,by show Q _ _ m'.H;rw [hH'];exact hQ⟩
 ·refine ⟨rfl,hs'.cx,hs'.tot,fun t ht=>?_,hs'.size,hs'.defers,hs'.below,hs'.base,hs'.S,hs'.T,by simp,fun n i _ hi=>by simpa [Array.getD] using hi⟩
  have keep:∀ k,k≤l.length→Fs k t=F t:=fun k hk=>by
   induction k with
   | zero=>rw [h1]
   | succ k ih =>
    have ho:l[k]?=some (l[k]'(by omega)):=gE (by omega)
    rw [(h2 k _ ho).2.1,EH,if_neg (ht k _ (by simp [ho]) (by have:=(gS.1 ho).1;simpa [Array.getD] using this))]
    exact ih (by omega)
  rw [show Fs l.toArray.size t=F t from keep l.length (aa _)]
  exact hs'.frame t
end
def FJ (g:Nat):Value:=.pointer (some ⟨g,0,none⟩)
def AmI (fc:FuncId) (g1 g2 g3:Nat):Deferred:={ target:=.fn (.func fc) #[FJ g1,FJ g2,FJ g3],args:=#[] }
abbrev AmJ (i1 i2 i3 g1 g2 g3:Nat):X:=.pin [(i1,g1),(i2,g2),(i3,g3)]
def CWD (P:Program) (G:World→Prop) (N:Nat) (fc:FuncId) (i1 i2 i3:Nat) (c:Code) (F:Frm) (H:List Ob) (Q QD:Sg):Prop :=
 ∀ (b0:Nat) (w0:World) (S0:SD) (a:Act) (m:Mm),(∀ w',Below b0 w0 w'→G w')→S0.ds=[]→m.H=H→St b0 N w0 S0 F a m →
  c.wp P (fun e a w=>∃ F' m',m'.w=w∧((St b0 N w0 S0 F' a m'∧Q e F' m'.H)∨∃ g1 g2 g3,St b0 N w0 ⟨S0.S,[AmI fc g1 g2 g3]⟩ F' a m'∧F' N=AmJ i1 i2 i3 g1 g2 g3∧QD e F' m'.H)) a m.w
section
variable {P:Program} {G:World→Prop} {N:Nat} {fc:FuncId} {i1 i2 i3:Nat} {F:Frm} {H:List Ob} {Q QD:Sg}
theorem Ga {x y:Code} (h:CW P G N x F H (TE (fun F' H'=>CWD P G N fc i1 i2 i3 y F' H' Q QD) Q)):CWD P G N fc i1 i2 i3 (.seq x y) F H Q QD:=fun b0 w0 S0 a m hG hd hH hs =>
 wp_seq (wp_mono (h b0 w0 S0 a m hG hH hs) fun e a w ⟨F',m',h1,h2,h3⟩=>by
  cases e with
  | normal=>subst h1;exact h3 b0 w0 S0 a m' hG hd rfl h2
  | exit id=>exact ⟨F',m',h1,.inl ⟨h2,h3⟩⟩
  | goto l=>exact ⟨F',m',h1,.inl ⟨h2,h3⟩⟩
  | ret=>exact ⟨F',m',h1,.inl ⟨h2,h3⟩⟩
  | panic ch=>exact ⟨F',m',h1,.inl ⟨h2,h3⟩⟩
  | outgrown=>exact ⟨F',m',h1,.inl ⟨h2,h3⟩⟩)
theorem AdP {o1 o2:Oper} {y:Code} {t1 t2 t3 d:Nat} {ty1 ty2 ty3:TypeId} {cs1 cs2 cs3:List C}
  (h:∀ g1 g2 g3,CW P G N y ((F.put (some d) .any).put (some N) (AmJ i1 i2 i3 g1 g2 g3)) H fun e F' H'=>F' N=AmJ i1 i2 i3 g1 g2 g3∧QD e F' H')
  (h1:o1.op=.makeFunc (.func fc) #[] #[.tmp t1,.tmp t2,.tmp t3]:=by with_unfolding_all exact rfl) (hd1:o1.dst=some d:=by with_unfolding_all exact rfl) (hg1:o1.guard=none:=by with_unfolding_all exact rfl) (hdN:Nat.ble (d+1) N=true:=by with_unfolding_all exact rfl)
  (h2:o2.op=.defer { callee:=.value (.tmp d),args:=#[],argTypes:=#[] }:=by with_unfolding_all exact rfl) (hd2:o2.dst=none:=by with_unfolding_all exact rfl) (hg2:o2.guard=none:=by with_unfolding_all exact rfl)
  (e1:F t1=.one (.ref i1 0 none):=by with_unfolding_all exact rfl) (e2:F t2=.one (.ref i2 0 none):=by with_unfolding_all exact rfl) (e3:F t3=.one (.ref i3 0 none):=by with_unfolding_all exact rfl)
  (b1:H[i1]?=some (.box ty1 cs1):=by with_unfolding_all exact rfl) (b2:H[i2]?=some (.box ty2 cs2):=by with_unfolding_all exact rfl) (b3:H[i3]?=some (.box ty3 cs3):=by with_unfolding_all exact rfl) :
  CWD P G N fc i1 i2 i3 (.seq (.region id #[o1,o2] false) y) F H Q QD:=fun b0 w0 S0 a m hG hds hH hs=>by
 subst hH
 have hdN:d<N:=bl hdN
 have p1:=hs.frame t1;rw [e1] at p1
 have p2:=hs.frame t2;rw [e2] at p2
 have p3:=hs.frame t3;rw [e3] at p3
 obtain ⟨g1,_,q1,_⟩:=Gp hs.cx p1 b1
 obtain ⟨g2,_,q2,_⟩:=Gp hs.cx p2 b2
 obtain ⟨g3,_,q3,_⟩:=Gp hs.cx p3 b3
 refine wp_seq (wp_region_lit (l:=[o1,o2]) ?_)
 have hw1:Region.wanted o1 (yielded [o1,o2].toArray a.tmps)=true:=by unfold Region.wanted;rw [hg1]
 unfold wpList
 rw [if_pos hw1]
 refine .inl ?_
 have hx1:(execOp a.eval o1).run P m.w=.ok (.value (.func (.func fc) #[] #[FJ g1,FJ g2,FJ g3])) m.w:=by
  unfold execOp
  simp only [h1,Instr.makeFunc,Act.eval,q1,q2,q3,ai,bk,bd,FJ,js,br,fz]
 unfold Oper.wp
 rw [hx1,Oper.upon_value,hd1]
 have hw2:∀ tmps,Region.wanted o2 (yielded [o1,o2].toArray tmps)=true:=fun tmps=>by unfold Region.wanted;rw [hg2]
 unfold wpList
 rw [if_pos (hw2 _)]
 refine .inl ?_
 have hget:(a.put (some d) (.func (.func fc) #[] #[FJ g1,FJ g2,FJ g3])).tmps.getD d undef=.func (.func fc) #[] #[FJ g1,FJ g2,FJ g3]:=by
  rw [IH hs.size (fun d' h=>by cases h;exact hdN),if_pos rfl]
 have hx2:(execOp (a.put (some d) (.func (.func fc) #[] #[FJ g1,FJ g2,FJ g3])).eval o2).run P m.w=.ok (.defer (AmI fc g1 g2 g3)) m.w:=by
  unfold execOp
  simp only [h2,resolve,Act.eval,hget,Deferred.ofValue,ai,bk,bd,AmI,Array.map_empty,Array.append_empty]
 unfold Oper.wp
 rw [hx2,Oper.upon_defer,hd2]
 unfold wpList
 have hst:St b0 N w0 ⟨S0.S,[AmI fc g1 g2 g3]⟩ ((F.put (some d) .any).put (some N) (AmJ i1 i2 i3 g1 g2 g3)) ({ (a.put (some d) (.func (.func fc) #[] #[FJ g1,FJ g2,FJ g3])) with defers:=AmI fc g1 g2 g3::(a.put (some d) (.func (.func fc) #[] #[FJ g1,FJ g2,FJ g3])).defers }) m:=by
  refine ⟨hs.cx,hs.tot,fun t=>?_,?_,?_,hs.below,hs.base,hs.S,hs.T⟩
  ·rw [EH]
   split
   ·intro p hp
    simp only [et,ew,or_false] at hp
    rcases hp with rfl|rfl|rfl
    ·exact q1 ▸ p1
    ·exact q2 ▸ p2
    ·exact q3 ▸ p3
   ·exact Hq hs.size (fun d' h=>by cases h;exact hdN) (Le.refl m) hs.frame (x:=.any) trivial t
  ·show (a.put (some d) _).tmps.size=N
   rw [DB]
   exact hs.size
  ·show _::(a.put (some d) _).defers=_
   rw [Cg,hs.defers,hds]
 refine wp_mono (h g1 g2 g3 b0 w0 ⟨S0.S,[AmI fc g1 g2 g3]⟩ _ m hG rfl hst) fun e a' w' ⟨F',m',k1,k2,k3,k4⟩=>?_
 exact ⟨F',m',k1,.inr ⟨g1,g2,g3,k2,k3,k4⟩⟩
end
theorem AqQ {P:Program} {G:World→Prop} (hG:∀ w w',Below w.heap.size w w'→G w→G w') {f:FuncId} {fn:Func} {c:Code} {N:Nat} {args:List A} {d1 d2 d3:D} {f1 f2 f3:A} (hf:P.funcs[f]?=some fn) (hb:fn.body=some c) (hN:fn.ntmps=N) (ha:args.length≤N)
  {fc : FuncId} {fnc : Func} {cc : Code} (hfc : P.funcs[fc]? = some fnc) (hnc : (fnc.name == "runtime.NumGoroutine") = false) (hbc : fnc.body = some cc) {i1 i2 i3 t1 t2 t3 : Nat} {ty1 ty2 ty3 : TypeId} {dd1 dd2 dd3 : TypeDesc} {r1 r2 r3 : Value} {chain : List PanicEntry}
  (hres:fn.results=#[.cell t1 ty1,.cell t2 ty2,.cell t3 ty3]) (hu1:P.underlying ty1=some dd1) (hu2:P.underlying ty2=some dd2) (hu3:P.underlying ty3=some dd3) (hr1:dd1.isRow=false) (hr2:dd2.isRow=false) (hr3:dd3.isRow=false)
  (hid:i1≠i2∧i1≠i3∧i2≠i3)
  (hret:∀ w g1 g2 g3,CallsD P fc #[FJ g1,FJ g2,FJ g3] .returning w fun e u' w'=>(∃ v,e=.returned v)∧u'=.returning∧Below w.heap.size w w')
  (hpan:∀ b0 w g1 g2 g3 v1 v2 v3,b0≤g1→b0≤g2→b0≤g3→g1≠g2→g1≠g3→g2≠g3→b0≤w.heap.size→w.heap[g1]?=some (.cells #[v1] ty1 (0,0))→w.heap[g2]?=some (.cells #[v2] ty2 (0,0))→w.heap[g3]?=some (.cells #[v3] ty3 (0,0)) →
   CallsD P fc #[FJ g1,FJ g2,FJ g3] (.panicking chain) w fun e u' w'=>(∃ v,e=.returned v)∧settle u'=.returning∧Below b0 w w'∧w'.cell? ⟨g1,0,none⟩=some r1∧w'.cell? ⟨g2,0,none⟩=some r2∧w'.cell? ⟨g3,0,none⟩=some r3)
  (hv1:∀ w S,Ba w S d1 r1) (hv2:∀ w S,Ba w S d2 r2) (hv3:∀ w S,Ba w S d3 r3)
  (h:CWD P G N fc i1 i2 i3 c (F0 args) [] (Aqu P fn [f1,f2,f3]) fun e F H=>Aqu P fn [f1,f2,f3] e F H∨(e=.panic chain∧(f1=.one d1∧f2=.one d2∧f3=.one d3)∧(F t1=.one (.ref i1 0 none)∧F t2=.one (.ref i2 0 none)∧F t3=.one (.ref i3 0 none)) ∧
   (∃ c1,H[i1]?=some (.box ty1 [c1]))∧(∃ c2,H[i2]?=some (.box ty2 [c2]))∧(∃ c3,H[i3]?=some (.box ty3 [c3])))):CV P G f args [f1,f2,f3]:=by
 intro w S vs hg hlt hargs
 refine calls_of_wp_defers hf hb ?_
 refine wp_mono (h w.heap.size w ⟨S,[]⟩ _ ⟨w,S,[],fun _=>none⟩ (fun w' hb'=>hG w w' hb' hg) rfl rfl (Ml hN ha hlt hargs)) fun e a' w' ⟨F',m',hw,hs⟩=>?_
 subst hw
 have inv:∀ (g1 g2 g3:Nat) (w:World),(invoke (Target.fn (.func fc) #[FJ g1,FJ g2,FJ g3]) #[]).run P w=.ok (.enter fc #[FJ g1,FJ g2,FJ g3]) w:=fun g1 g2 g3 w=>by
  simp only [invoke]
  rw [DD hfc hnc hbc]
  rfl
 rcases hs with ⟨hs,he,hrv⟩|⟨g1,g2,g3,hs,hpin,hq⟩
 ·obtain ⟨v,k1,k2⟩:=Nr hs hrv
  have hd:a'.defers=[]:=hs.defers
  rcases he with rfl|rfl
  ·show Leaves P fn a'.tmps _ a'.defers .returning m'.w
   rw [hd];exact ⟨v,k1,v,rfl,k2,hs.below⟩
  ·show Leaves P fn a'.tmps _ a'.defers .returning m'.w
   rw [hd];exact ⟨v,k1,v,rfl,k2,hs.below⟩
 ·have hd:a'.defers=[AmI fc g1 g2 g3]:=hs.defers
  rcases hq with ⟨he,hrv⟩|⟨he,⟨rfl,rfl,rfl⟩,⟨q1,q2,q3⟩,⟨c1,b1⟩,⟨c2,b2⟩,⟨c3,b3⟩⟩
  ·have key:Leaves P fn a'.tmps (fun e w'=>∃ v,e=.returned v∧Ahf w' (Ahe S w w') [f1,f2,f3] v∧Below w.heap.size w w') a'.defers .returning m'.w:=by
    rw [hd]
    refine leaves_cons (by simp) (inv g1 g2 g3 m'.w) ((hret m'.w g1 g2 g3).mono ?_)
    rintro e u' w' ⟨⟨v,rfl⟩,rfl,hbel⟩
    show Leaves P fn a'.tmps _ [] .returning w'
    have hs2:=AmH hs hbel
    obtain ⟨v,k1,k2⟩:=Nr hs2 hrv
    exact ⟨v,k1,v,rfl,k2,hs2.below⟩
   rcases he with rfl|rfl <;> exact key
  ·subst he
   have p1:=hs.frame t1;rw [q1] at p1
   have p2:=hs.frame t2;rw [q2] at p2
   have p3:=hs.frame t3;rw [q3] at p3
   have z:=hs.frame N
   rw [hpin] at z
   have z1:=z (i1,g1) (by simp)
   have z2:=z (i2,g2) (by simp)
   have z3:=z (i3,g3) (by simp)
   obtain ⟨k1,u1,l1,m1,n1,o1,s1⟩:=Gp hs.cx z1 b1
   obtain ⟨k2,u2,l2,m2,n2,o2,s2⟩:=Gp hs.cx z2 b2
   obtain ⟨k3,u3,l3,m3,n3,o3,s3⟩:=Gp hs.cx z3 b3
   cases l1;cases l2;cases l3
   obtain ⟨v1,us1,rfl,_,x1⟩:=s1.uncons
   obtain ⟨v2,us2,rfl,_,x2⟩:=s2.uncons
   obtain ⟨v3,us3,rfl,_,x3⟩:=s3.uncons
   have x1:=x1.unnil;subst x1
   have x2:=x2.unnil;subst x2
   have x3:=x3.unnil;subst x3
   have same:∀ {t i g:Nat} {vs:List Value} {ty:TypeId} {c:C},VF m' i 0 none (a'.tmps.getD t undef)→m'.H[i]?=some (.box ty [c])→m'.E i=some (.box g vs ty)→a'.tmps.getD t undef=FJ g:=fun hp hb hE=>by
    obtain ⟨k,u,l,m,_⟩:=Gp hs.cx hp hb
    rw [hE] at m
    cases m
    exact l
   have y1:=same p1 b1 m1
   have y2:=same p2 b2 m2
   have y3:=same p3 b3 m3
   have ap:∀ {i j g g':Nat} {vs vs':List Value} {ty ty':TypeId},i≠j→m'.E i=some (.box g vs ty)→m'.E j=some (.box g' vs' ty')→g≠g':=fun hij hi hj hgg=>by
    have:=hs.cx.apart _ _ _ _ hij hi hj _ rfl
    exact this (by rw [hgg];rfl)
   show Leaves P fn a'.tmps _ a'.defers (.panicking chain) m'.w
   rw [hd]
   refine leaves_cons (by simp) (inv g1 g2 g3 m'.w) ((hpan w.heap.size m'.w g1 g2 g3 v1 v2 v3 n1 n2 n3 (ap hid.1 m1 m2) (ap hid.2.1 m1 m3) (ap hid.2.2 m2 m3) hs.below.size o1 o2 o3).mono ?_)
   rintro e u' w' ⟨⟨v,rfl⟩,hset,hbel,hc1,hc2,hc3⟩
   show Leaves P fn a'.tmps _ [] (settle u') w'
   rw [hset]
   have hrr:∀ {t g:Nat} {ty:TypeId} {dd:TypeDesc} {r:Value} {d:D},a'.tmps.getD t undef=FJ g→P.underlying ty=some dd→dd.isRow=false→w'.cell? ⟨g,0,none⟩=some r→(∀ w S,Ba w S d r)→∃ v,(VG a'.tmps (.cell t ty)).run P w'=.ok v w'∧EA w' (Ahe S w w') (.one d) v:=fun ht hu hr hc hv=>by
    refine ⟨_,?_,hv _ _⟩
    simp only [VG,ht,FJ,asAddr,ai,bk,bd]
    exact EX hu hr hc
   obtain ⟨v,k1,k2⟩:=Qb (P:=P) (fn:=fn) (tmps:=a'.tmps) (w:=w') (Sx:=Ahe S w w') (res:=[.one d1,.one d2,.one d3]) (by
    rw [hres]
    exact AP.cons_ (hrr y1 hu1 hr1 hc1 hv1) (AP.cons_ (hrr y2 hu2 hr2 hc2 hv2) (AP.cons_ (hrr y3 hu3 hr3 hc3 hv3) AP.nil_)))
   exact ⟨v,k1,v,rfl,k2,hs.below.trans hbel⟩
section
variable {P:Program} {G:World→Prop} {o:Oper} {F:Frm} {H:List Ob}
theorem Wc {ty:TypeId} {ds:List D} (hH:H[id]?=some (.box ty (ds.map C.d))):LA true H (.one (.ref id 0 none)) (.one (.ptr true ds)) :=
 .one (.ref rfl hH (by simp) fun j c d hc hd=>by
  simp only [ju,ag,hd,bp,Option.some.injEq] at hc
  subst hc
  exact .d fun h=>by cases h)
theorem xMf (rs:List (Nat × Nat × Option Nat)) {fn:Fn} {caps:Array Operand} (ho:o.op=.makeFunc fn #[] caps:=by with_unfolding_all exact rfl) (hc:caps.toList.map F.ev=rs.map (fun p=>X.one (.ref p.1 p.2.1 p.2.2)):=by with_unfolding_all exact rfl):AU P G o F H (.one (.clo fn rs)) [] :=
 CD ho ⟨by have:=congrArg List.length hc;simpa using this,fun j x p hx hp=>by
  have h1:=congrArg (fun l=>l[j]?) hc
  simp only [ag,hx,hp,bp,Option.some.injEq] at h1
  exact h1⟩
theorem xCc {cd : Code} {r : Operand} {xs : Array Operand} {rs : List (Nat × Nat × Option Nat)} {l args cargs res : List A} {x : X} (h1 : P.funcs[f]? = some fn) (h : CV P G f l res) (hl : l = args ++ cargs) (h2 : (fn.name == "runtime.NumGoroutine") = false := by kernel_rfl) (h3 : fn.body = some cd := by with_unfolding_all exact rfl)
  (ho:o.op=.call { callee:=.value r,args:=xs,argTypes:=ts }:=by with_unfolding_all exact rfl) (hr:F.ev r=.one (.clo (.func f) rs):=by with_unfolding_all exact rfl)
  (ha:AP (fun x y=>LA true H (F.ev x) y) xs.toList args:=by with_unfolding_all first|((repeat' first|exact BM rfl rfl|refine AX rfl rfl ?_ ?_|refine FH rfl rfl ?_|refine Dt rfl rfl ?_|exact Bp rfl (fun h=>by cases h)|exact FI rfl rfl|exact cexp_e rfl rfl|refine EI rfl rfl rfl ?_) <;> fail)|fail)
  (hcl:AP (fun (p:Nat × Nat × Option Nat) y=>LA true H (.one (.ref p.1 p.2.1 p.2.2)) y) rs cargs:=by with_unfolding_all first|((repeat' first|exact BM rfl rfl|refine AX rfl rfl ?_ ?_|exact Wc rfl) <;> fail)|fail)
  (hx:Amt res=x:=by with_unfolding_all exact rfl):AU P G o F H x []:=hx ▸ Abt ho hr h1 h2 h3 (hl ▸ h) ha hcl
end
section
variable {P:Program} {F:Frm} {H:List Ob}
theorem rvB {t:Tmp} {ty ty':Nat} {c:C} {x:D} (hk:TyK P ty false 1) (h:FA false H c x) (hF:F t=.one (.ref id 0 none):=by with_unfolding_all exact rfl) (hH:H[id]?=some (.box ty' [c]):=by with_unfolding_all exact rfl):RV P F H (.cell t ty) (.one x):=by
 obtain ⟨⟨d,hu,hd⟩,_⟩:=hk
 exact .cell1 hF hH hu hd h
end
section
variable {P:Program} {G:World→Prop} {o:Oper} {F:Frm} {H:List Ob} {chain:List PanicEntry} {ops:Array Oper} {p i:Nat} {l:List Oper} {d:Tmp} {xx:X}
theorem Pe:ChP P G ops p chain i [] F H:=trivial
theorem Po (h:AU P G o F H xx []) (k:ChP P G ops p chain (i+1) l (F.put (some d) xx) H) (hg:o.guard=none:=by with_unfolding_all exact rfl) (hd:o.dst=some d:=by with_unfolding_all exact rfl) (hi:Nat.beq i p=false:=by with_unfolding_all exact rfl):ChP P G ops p chain i (o::l) F H :=
 ⟨hg,.inr (.inr ⟨hi,xx,h,by rw [hd];exact k⟩)⟩
theorem Pp (h:AhK P G o F H chain) (k:ChP P G ops p chain (i+1) l (F.put (some d) .any) H) (hg:o.guard=none:=by with_unfolding_all exact rfl) (hd:o.dst=some d:=by with_unfolding_all exact rfl) (hi:i=p:=by with_unfolding_all exact rfl):ChP P G ops p chain i (o::l) F H :=
 ⟨hg,.inr (.inl ⟨hi,h,by rw [hd];exact k⟩)⟩
theorem Pd {dd:Option Tmp} (k:ChP P G ops p chain (i+1) l (F.put dd .any) H) (hg:o.guard=none:=by with_unfolding_all exact rfl) (hd:o.dst=dd:=by with_unfolding_all exact rfl) (hi:RM .any ops p ops.size i=true:=by kernel_rfl):ChP P G ops p chain i (o::l) F H :=
 ⟨hg,.inl ⟨hi,by rw [hd];exact k⟩⟩
theorem xPn {cd : Code} {xs : Array Operand} {args : List A} (h1 : P.funcs[f]? = some fn) (h : CVP P G f args chain) (h2 : (fn.name == "runtime.NumGoroutine") = false := by kernel_rfl) (h3 : fn.body = some cd := by with_unfolding_all exact rfl) (ho : o.op = .call { callee := .value (.func f), args := xs, argTypes := ts } := by with_unfolding_all exact rfl) (ha : AP (fun x y => LA true H (F.ev x) y) xs.toList args := by with_unfolding_all first | ((repeat' first | exact BM rfl rfl | refine AX rfl rfl ?_ ?_ | refine FH rfl rfl ?_ | refine Dt rfl rfl ?_ | exact Bp rfl (fun h => by cases h) | exact FI rfl rfl | exact cexp_e rfl rfl | refine EI rfl rfl rfl ?_) <;> fail) | fail) : AhK P G o F H chain := AmG ho h1 h2 h3 h ha
end
def Wd (x:Int) (dx:Nat) (y:Int) (dy:Nat):Int:=sgI (x*2 ^ (max dx dy - dx) - y*2 ^ (max dx dy - dy))
theorem Gb (x:Int) (k:Nat):sgI (x*2 ^ k)=sgI x:=by
 have hp:(0:Int)<2 ^ k:=Int.pow_pos (by decide)
 unfold sgI
 by_cases h:x=0
 ·subst h;simp
 ·have h1:¬ x*2 ^ k=0:=by
   intro h0
   rcases Int.mul_eq_zero.1 h0 with h2|h2
   ·exact h h2
   ·omega
  rw [if_neg h,if_neg h1]
  by_cases h2:x<0
  ·rw [if_pos h2,if_pos (kp h2 hp)]
  ·have:=jd (show 0≤x by omega) (ck hp)
   rw [if_neg h2,if_neg (by omega)]
theorem AdQ {x:Int} (h:sgI x<sgI y):sgI (x - y) = -1:=by
 have:x<y:=by
  unfold sgI at h
  split at h <;> split at h <;> (try split at h) <;> (try split at h) <;> omega
 unfold sgI
 rw [if_neg (by omega),if_pos (by omega)]
theorem Akn {x:Int} (h:sgI y<sgI x):sgI (x - y)=1:=by
 have:=AdQ h
 have h2:y<x:=by
  unfold sgI at h
  split at h <;> split at h <;> (try split at h) <;> (try split at h) <;> omega
 unfold sgI
 rw [if_neg (by omega),if_neg (by omega)]
theorem ZH (x:Int):sgI (-x) = -sgI x:=by
 unfold sgI
 by_cases h:x=0
 ·subst h;rfl
 ·by_cases h2:x<0
  ·rw [if_neg (by omega),if_neg (by omega),if_neg h,if_pos h2];rfl
  ·rw [if_neg (by omega),if_pos (by omega),if_neg h,if_neg h2]
theorem Pi (x:Int) (k:Nat):((x.natAbs*2 ^ k:Nat):Int)=(if x<0 then -(x*2 ^ k) else x*2 ^ k):=by
 have e:((x.natAbs*2 ^ k:Nat):Int)=(x.natAbs:Int)*2 ^ k:=by simp
 rw [e]
 by_cases h:x<0
 ·rw [if_pos h,show (x.natAbs:Int) = -x by omega,ej]
 ·rw [if_neg h,show (x.natAbs:Int)=x by omega]
theorem Gv (x:Int) : -1≤sgI x∧sgI x≤1:=by
 unfold sgI
 split
 ·omega
 ·split <;> omega
theorem AmK {x:Int} {dx dy lo1 lo2:Nat} (D1:DyR w lo1 m v x dx) (D2:DyR w lo2 m v2 y dy) (hm:m≤w.heap.size) (l1:(Ad x.natAbs).length≤50000) (l2:(Ad y.natAbs).length≤50000) :
  Calls prog 29 #[v,v2] w fun e w'=>∃ u1 u2 D,e=.returned (.tuple #[.bool (decide (x<0)),u1,.bool (decide (y<0)),u2,.int .i64 (D:Int)]) ∧
   WdR w' w'.heap.size u1 (x.natAbs*2 ^ (max dx dy - dx))∧WdR w' w'.heap.size u2 (y.natAbs*2 ^ (max dx dy - dy))∧Below w.heap.size w w':=by
 have hd1:=D1.bound.1
 have hd2:=D2.bound.1
 obtain ⟨nb1,A1,L1,c1,rfl,HD1⟩:=D1.form
 obtain ⟨nb2,A2,L2,c2,rfl,HD2⟩:=D2.form
 have b0:Below w.heap.size w ((w.alloc (.cells #[.bool nb1,.slice A1 L1 c1,.int .i64 (dx:Int)] 43)).alloc (.cells #[.bool nb2,.slice A2 L2 c2,.int .i64 (dy:Int)] 43)):=Au (Au (ah _ _) _) _
 have r0:=(BQ.new_ w [.bool nb1,.slice A1 L1 c1,.int .i64 (dx:Int)] 43).call (al_ _ (.cells #[.bool nb2,.slice A2 L2 c2,.int .i64 (dy:Int)] 43))
 have r1:=BQ.new_ (w.alloc (.cells #[.bool nb1,.slice A1 L1 c1,.int .i64 (dx:Int)] 43)) [.bool nb2,.slice A2 L2 c2,.int .i64 (dy:Int)] 43
 rw [show (w.alloc (.cells #[.bool nb1,.slice A1 L1 c1,.int .i64 (dx:Int)] 43)).heap.size=w.heap.size+1 by simp] at r1
 have D1':=mi D1
 have D2':=mi D2
 obtain ⟨D,hD⟩:∃ D:Nat,D=max dx dy:=⟨_,rfl⟩
 have hDD:max (dx:Int) (dy:Int)=(D:Int):=by omega
 obtain ⟨p,hp⟩:∃ p:Nat,p=D - dx:=⟨_,rfl⟩
 obtain ⟨q,hq⟩:∃ q:Nat,q=D - dy:=⟨_,rfl⟩
 have hpp:(D:Int) - (dx:Int)=(p:Int):=by omega
 have hqq:(D:Int) - (dy:Int)=(q:Int):=by omega
 have hp6:p≤1000000:=by omega
 have hq6:q≤1000000:=by omega
 rw [←hD,←hp,←hq]
 clear D1 D2 hD hp hq
 go_enter func29,ntmps29
 go_wp2_with fail
 go_at_call 71
 refine (GK (D1'.out.below b0 hm) (by simp;omega) (by omega)).mono ?_
 rintro e w1 ⟨nb',A',L',c',he,rfl,hb1⟩
 cases he
 have s1:=r1.below hb1 (by simp)
 have b1:=b0.trans (hb1.mono (by simp;omega))
 have k0:w1.cell? ⟨w.heap.size+1,0,none⟩=some (.bool nb2):=s1.cell 0
 have k1:w1.cell? ⟨w.heap.size+1,1,none⟩=some (.slice A2 L2 c2):=s1.cell 1
 have k2:w1.cell? ⟨w.heap.size+1,2,none⟩=some (.int .i64 (dy:Int)):=s1.cell 2
 clear hb1 r0 r1 b0
 go_wp2_with fail
 go_at_call 71
 have hs1:=b1.size
 refine (GK (D2'.out.below b1 hm) (by omega) (by omega)).mono ?_
 rintro e w2 ⟨nb',A',L',c',he,rfl,hb2⟩
 cases he
 have b2:=b1.trans (hb2.mono hs1)
 have X1:=(D1'.out.below b2 hm).words
 have X2:=mi (D2'.out.below b2 hm).words
 clear hb2 b1 k0 k1 k2 s1
 go_wp2_with fail
 go_at_call 72
 have hs2:=b2.size
 refine (XP X1 (by omega) (by omega) hp6).mono ?_
 rintro e w3 ⟨v3,rfl,Y1,hb3⟩
 have b3:=b2.trans (hb3.mono hs2)
 have X2':=X2.out.below hb3 (by omega)
 obtain ⟨A3,L3,c3,rfl⟩:=Y1.form
 clear hb3 b2 X1 X2 hs2 hs1
 go_wp2_with fail
 go_at_call 72
 have hs3:=b3.size
 refine (XP X2' (by omega) (by omega) hq6).mono ?_
 rintro e w4 ⟨v4,rfl,Y2,hb4⟩
 obtain ⟨A4,L4,c4,rfl⟩:=Y2.form
 go_wp2_with fail
 refine bodyPost_ret (v:=.tuple #[.bool nb1,.slice A3 L3 c3,.bool nb2,.slice A4 L4 c4,.int .i64 (D:Int)]) (by simp [results,results29,go_sem]) rfl ⟨.slice A3 L3 c3,.slice A4 L4 c4,D,by rw [HD1.out.1,HD2.out.1],(Y1.below hb4 (aa _)).more hb4.size,Y2,b3.trans (hb4.mono hs3)⟩
theorem ZI {x:Int} {dx dy lo1 lo2:Nat} (D1:DyR w lo1 m v x dx) (D2:DyR w lo2 m v2 y dy) (hm:m≤w.heap.size) (l1:(Ad x.natAbs).length≤50000) (l2:(Ad y.natAbs).length≤50000) :
    Calls prog 9 #[v,v2] w fun e w'=>e=.returned (.int .i64 (Wd x dx y dy))∧Below w.heap.size w w':=by
  have hd1:=D1.bound.1
  have hd2:=D2.bound.1
  obtain ⟨nb1,A1,L1,c1,rfl,HD1⟩:=D1.form
  obtain ⟨nb2,A2,L2,c2,rfl,HD2⟩:=D2.form
  have b0:Below w.heap.size w ((w.alloc (.cells #[.bool nb1,.slice A1 L1 c1,.int .i64 (dx:Int)] 43)).alloc (.cells #[.bool nb2,.slice A2 L2 c2,.int .i64 (dy:Int)] 43)):=Au (Au (ah _ _) _) _
  have r0:=(BQ.new_ w [.bool nb1,.slice A1 L1 c1,.int .i64 (dx:Int)] 43).call (al_ _ (.cells #[.bool nb2,.slice A2 L2 c2,.int .i64 (dy:Int)] 43))
  have r1:=BQ.new_ (w.alloc (.cells #[.bool nb1,.slice A1 L1 c1,.int .i64 (dx:Int)] 43)) [.bool nb2,.slice A2 L2 c2,.int .i64 (dy:Int)] 43
  rw [show (w.alloc (.cells #[.bool nb1,.slice A1 L1 c1,.int .i64 (dx:Int)] 43)).heap.size=w.heap.size+1 by simp] at r1
  have D1':=D1.below b0 hm
  have D2':=D2.below b0 hm
  clear D1 D2
  go_enter func9,ntmps9
  go_wp2_with fail
  obtain ⟨W,hW⟩:∃ W,W=((w.alloc (.cells #[.bool nb1,.slice A1 L1 c1,.int .i64 (dx:Int)] 43)).alloc (.cells #[.bool nb2,.slice A2 L2 c2,.int .i64 (dy:Int)] 43)):=⟨_,rfl⟩
  have hWs:W.heap.size=w.heap.size+2:=by rw [hW];simp
  rw [←hW]
  rw [←hW] at b0 D1' D2' r0 r1
  clear hW
  have a0:W.cell? ⟨w.heap.size,0,none⟩=some (.bool nb1):=r0.cell 0
  have a1:W.cell? ⟨w.heap.size,1,none⟩=some (.slice A1 L1 c1):=r0.cell 1
  have a2:W.cell? ⟨w.heap.size,2,none⟩=some (.int .i64 (dx:Int)):=r0.cell 2
  have e0:W.cell? ⟨w.heap.size+1,0,none⟩=some (.bool nb2):=r1.cell 0
  have e1:W.cell? ⟨w.heap.size+1,1,none⟩=some (.slice A2 L2 c2):=r1.cell 1
  have e2:W.cell? ⟨w.heap.size+1,2,none⟩=some (.int .i64 (dy:Int)):=r1.cell 2
  have hz:w.heap.size+2≤W.heap.size:=by omega
  have hle:m≤w.heap.size+2:=by omega
  obtain ⟨sx,hsx⟩:∃ sx,sx=sgI x:=⟨_,rfl⟩
  obtain ⟨sy,hsy⟩:∃ sy,sy=sgI y:=⟨_,rfl⟩
  have HSX:=mi hsx
  have HSY:=mi hsy
  have hrx:=Gv x
  have hry:=Gv y
  rw [←hsx] at hrx
  rw [←hsy] at hry
  have hc1:∀ u:Abh W (w.heap.size+2),Calls prog 28 #[.agg #[.bool nb1,.slice A1 L1 c1,.int .i64 (dx:Int)]] u.val fun e w'=>e=.returned (.int .i64 sx)∧Below u.val.heap.size u.val w':=fun u=>by
    rw [hsx];exact Adc (D1'.below u.is hle) (lT hle u.fits) (by omega)
  have hc2:∀ u:Abh W (w.heap.size+2),Calls prog 28 #[.agg #[.bool nb2,.slice A2 L2 c2,.int .i64 (dy:Int)]] u.val fun e w'=>e=.returned (.int .i64 sy)∧Below u.val.heap.size u.val w':=fun u=>by
    rw [hsy];exact Adc (D2'.below u.is hle) (lT hle u.fits) (by omega)
  have HC1:=mi hc1
  have HC2:=mi hc2
  clear hsx hsy hc1 hc2 hWs
  refine RK (w.heap.size+2) hz (by kernel_rfl) (by kernel_rfl) ?_
  intro _
  repeat (go_big_quiet_step ((first
    | (go_at_call_of 28 (Value.agg #[.bool nb1,.slice A1 L1 c1,.int .i64 (dx:Int)]);exact Vu (HC1.out _))
    | (go_at_call_of 28 (Value.agg #[.bool nb2,.slice A2 L2 c2,.int .i64 (dy:Int)]);exact Vu (HC2.out _)))))
  refine wpQuiet_nil ?_
  intro w2 hw'
  obtain ⟨⟨_,hb2,hz2⟩,rfl⟩:=hw'
  have s0:=r0.below hb2 (by omega)
  have s1:=r1.below hb2 (by omega)
  have b2:=b0.trans (hb2.mono (by omega))
  replace D1':=D1'.below hb2 hle
  replace D2':=D2'.below hb2 hle
  clear r0 r1 b0 a0 a1 a2 e0 e1 e2 hz hb2 HC1 HC2
  have a0:w2.cell? ⟨w.heap.size,0,none⟩=some (.bool nb1):=s0.cell 0
  have a1:w2.cell? ⟨w.heap.size,1,none⟩=some (.slice A1 L1 c1):=s0.cell 1
  have a2:w2.cell? ⟨w.heap.size,2,none⟩=some (.int .i64 (dx:Int)):=s0.cell 2
  have e0:w2.cell? ⟨w.heap.size+1,0,none⟩=some (.bool nb2):=s1.cell 0
  have e1:w2.cell? ⟨w.heap.size+1,1,none⟩=some (.slice A2 L2 c2):=s1.cell 1
  have e2:w2.cell? ⟨w.heap.size+1,2,none⟩=some (.int .i64 (dy:Int)):=s1.cell 2
  by_cases hne:sx=sy
  · have hnb:(sx != sy)=false:=by rw [hne];simp
    have HNE:=mi hne
    clear hne
    go_wp2_with fail
    go_at_call 29
    refine (AmK D1' D2' (by omega) l1 l2).mono ?_
    rintro e w3 ⟨u1,u2,D,rfl,Y1,Y2,hb3⟩
    have b3:=b2.trans (hb3.mono (by omega))
    obtain ⟨A3,L3,c3,rfl⟩:=Y1.form
    obtain ⟨A4,L4,c4,rfl⟩:=Y2.form
    have hla:(Ad (x.natAbs*2 ^ (max dx dy - dx))).length≤100000:=by
      have:=BO x.natAbs (max dx dy - dx)
      omega
    have hlb:(Ad (y.natAbs*2 ^ (max dx dy - dy))).length≤100000:=by
      have:=BO y.natAbs (max dx dy - dy)
      omega
    have HLA:=mi hla
    have HLB:=mi hlb
    have Y1':=mi Y1
    have Y2':=mi Y2
    obtain ⟨cv,hcv⟩:∃ cv,cv=sgI (((x.natAbs*2 ^ (max dx dy - dx):Nat):Int) - ((y.natAbs*2 ^ (max dx dy - dy):Nat):Int)):=⟨_,rfl⟩
    have hcr:=Gv (((x.natAbs*2 ^ (max dx dy - dx):Nat):Int) - ((y.natAbs*2 ^ (max dx dy - dy):Nat):Int))
    rw [←hcv] at hcr
    have HCV:=mi hcv
    have hres:Wd x dx y dy=if x<0 then -cv else cv:=by
      have hs:(x<0) ↔ (y<0):=by
        have h5:=HNE.out
        rw [HSX.out,HSY.out] at h5
        unfold sgI at h5
        constructor <;> intro h6 <;> (repeat (first|split at h5|omega))
      have hz:(x=0) ↔ (y=0):=by
        have h5:=HNE.out
        rw [HSX.out,HSY.out] at h5
        unfold sgI at h5
        constructor <;> intro h6 <;> (repeat (first|split at h5|omega))
      rw [hcv,Pi,Pi]
      unfold Wd
      by_cases h:x<0
      · rw [if_pos h,if_pos h,if_pos (hs.1 h),←ZH]
        congr 1
        omega
      · rw [if_neg h,if_neg h,if_neg (fun h2=>h (hs.2 h2))]
    have HRES:=mi hres
    clear hla hlb Y1 Y2 hcv hres hb3 b2
    cases hdx:decide (x<0) with
    | true =>
      have HXN := mi (show x < 0 by simpa using hdx)
      clear hdx
      go_wp2_with (go_at_call 30;refine (Nj Y1'.out Y2'.out (lT HLA.out (by decide)) (lT HLB.out (by decide))).mono ?_;rintro e w4 ⟨rfl,hb4⟩;rw [←HCV.out])
      go_ret
      exact ⟨by rw [HRES.out,if_pos HXN.out];rfl,b3.trans (hb4.mono (by have:=b3.size;omega))⟩
    | false =>
      have HXN := mi (show ¬ x < 0 by simpa using hdx)
      clear hdx
      go_wp2_with (go_at_call 30;refine (Nj Y1'.out Y2'.out (lT HLA.out (by decide)) (lT HLB.out (by decide))).mono ?_;rintro e w4 ⟨rfl,hb4⟩;rw [←HCV.out])
      go_ret
      exact ⟨by rw [HRES.out,if_neg (by have:=HXN.out;omega)];rfl,b3.trans (hb4.mono (by have:=b3.size;omega))⟩
  · have hnb:(sx != sy)=true:=by simpa using hne
    by_cases hlt:sx<sy
    · have HV := mi (show Wd x dx y dy = -1 by unfold Wd; refine AdQ ?_; rw [Gb, Gb, ← HSX.out, ← HSY.out]; exact hlt)
      have hltb:decide (sx<sy)=true:=decide_eq_true hlt
      clear hne
      go_wp2_with fail
      go_ret
      exact ⟨by rw [HV.out];rfl,b2⟩
    · have HV := mi (show Wd x dx y dy = 1 by unfold Wd; refine Akn ?_; rw [Gb, Gb, ← HSX.out, ← HSY.out]; omega)
      have hltb:decide (sx<sy)=false:=decide_eq_false hlt
      clear hne
      go_wp2_with fail
      go_ret
      exact ⟨by rw [HV.out];rfl,b2⟩
structure Bk where
 kind:Int
 A:Option Addr
 args:List Int
 cap:Nat
 vn:Int
 ve:Int
 un:Int
 ue:Int
def Bk.cells (b:Bk):List Value:=[.int .i64 b.kind,.slice b.A b.args.length b.cap,.int .i64 b.vn,.int .i64 b.ve,.int .i64 b.un,.int .i64 b.ue]
def bk0:Bk:=⟨0,none,[],0,0,0,0,0⟩
def AQ (bs:List Bk) (i:Nat):Int:=(bs[i]?.getD bk0).kind
def Qy (bs:List Bk) (i:Nat):List Int:=(bs[i]?.getD bk0).args
def Hl (bs:List Bk) (i:Nat):List Int:=if AQ bs i=0 then [] else Qy bs i
theorem AhO:∀ {l1 l2:List Nat},l1.Nodup→(∀ x∈l1,x∈l2)→l1.length≤l2.length
 | [],_,_,_=>af _
 | x::l,l2,hn,hs=>by
  have hx:=hs x (by simp)
  have hn':=List.nodup_cons.1 hn
  have:=AhO (l1:=l) (l2:=l2.erase x) hn'.2 (fun y hy=>(List.mem_erase_of_ne (fun h=>hn'.1 (by rw [←h];exact hy))).2 (hs y (by simp [hy])))
  rw [List.length_erase_of_mem hx] at this
  have hp:0<l2.length:=List.length_pos_of_mem hx
  simp
  omega
/- The order. -/
def Dd (bs:List Bk) (out:List Nat) (j:Nat):Bool:=AQ bs j == 2 || out.contains j
def rdy (bs:List Bk) (out:List Nat) (i:Nat):Bool:=!Dd bs out i && (Hl bs i).all fun a=>Dd bs out a.toNat
def nxt (bs:List Bk) (out:List Nat):Option Nat:=(List.range bs.length).find? (rdy bs out)
def Sq (bs:List Bk):Nat→List Nat→List Nat
 | 0,out=>out
 | f+1,out=>match nxt bs out with
  | none=>out
  | some i=>Sq bs f (out++[i])
def Cy (bs:List Bk):Nat:=((List.range bs.length).filter fun i=>AQ bs i != 2).length
def Bb (bs:List Bk):List Nat:=Sq bs bs.length []
def AW (bs:List Bk):List Nat:=(List.range bs.length).filter fun i=>AQ bs i == 2
structure GN (bs:List Bk) (out:List Nat):Prop where
 nodup:out.Nodup
 mem:∀ j∈out,j<bs.length∧AQ bs j≠2
theorem Mr {bs:List Bk} (h:nxt bs out=some i):i<bs.length∧rdy bs out i=true:=by
 have h1:=List.find?_some h
 have h2:=List.mem_of_find?_eq_some h
 exact ⟨by simpa using h2,h1⟩
theorem GN.nil (bs:List Bk):GN bs []:=⟨List.nodup_nil,by simp⟩
theorem GN.push {bs:List Bk} (h:GN bs out) {i:Nat} (hn:nxt bs out=some i):GN bs (out++[i]):=by
 obtain ⟨h1,h2⟩:=Mr hn
 simp only [rdy,Dd,aj,lh,je,beq_eq_false_iff_ne] at h2
 refine ⟨List.nodup_append.2 ⟨h.nodup,by simp,fun x hx y hy=>?_⟩,fun j hj=>?_⟩
 ·simp at hy
  subst hy
  intro he
  subst he
  have:=h2.1.2
  simp [hx] at this
 ·rcases List.mem_append.1 hj with hj|hj
  ·exact h.mem j hj
  ·simp at hj
   subst hj
   exact ⟨h1,h2.1.1⟩
theorem GN.le {bs:List Bk} (h:GN bs out):out.length≤Cy bs:=by
 have hs:out ⊆ (List.range bs.length).filter fun i=>AQ bs i != 2:=fun j hj=>by
  have:=h.mem j hj
  simp [this.1,this.2]
 exact AhO h.nodup hs
theorem HW (bs:List Bk):Cy bs≤bs.length:=by
 unfold Cy
 have:=gn (fun i=>AQ bs i != 2) (List.range bs.length)
 simpa using this
theorem NI {bs:List Bk}:∀ (f:Nat) {out:List Nat},GN bs out→GN bs (Sq bs f out)
 | 0,_,h=>h
 | f+1,out,h=>by
  unfold Sq
  split
  ·exact h
  ·rename_i i hi
   exact NI f (h.push hi)
theorem We {bs:List Bk}:∀ (f g:Nat) {out:List Nat},GN bs out→Cy bs - out.length≤f→f≤g→Sq bs f out=Sq bs g out
 | 0,g,out,h,hf,_=>by
  have hfull:out.length=Cy bs:=by have:=h.le;omega
  cases g with
  | zero=>rfl
  | succ g =>
   show out=match nxt bs out with|none=>out|some i=>Sq bs g (out++[i])
   cases hn:nxt bs out with
   | none=>rfl
   | some i =>
    have:=(h.push hn).le
    simp at this
    omega
 | f+1,0,_,_,_,hg=>by omega
 | f+1,g+1,out,h,hf,hg=>by
  show (match nxt bs out with|none=>out|some i=>Sq bs f (out++[i]))=match nxt bs out with|none=>out|some i=>Sq bs g (out++[i])
  cases hn:nxt bs out with
  | none=>rfl
  | some i=>exact We f g (h.push hn) (by simp;omega) (by omega)
/- What a block depends on. -/
def BV (bs:List Bk) (over:Bool) (i:Nat):List Int:=if AQ bs i=2∧over=false then [] else Hl bs i
inductive Reach (bs:List Bk) (over:Bool):Nat→Nat→Prop
 | refl (i:Nat):Reach bs over i i
 | step {i j:Nat} {a:Int}:Reach bs over i j→a∈BV bs over j→Reach bs over i a.toNat
theorem Reach.trans {bs:List Bk} {k:Nat} (h1:Reach bs over i j) (h2:Reach bs over j k):Reach bs over i k:=by
 induction h2 with
 | refl=>exact h1
 | step _ ha ih=>exact Reach.step ih ha
def Wf (m:List Bool):List Nat:=(List.range m.length).filter fun i=>m[i]?.getD false
theorem Pj {m:List Bool} (hl:m.length=m'.length) (h:∀ j,j<m.length→(m[j]?.getD false=true ↔ m'[j]?.getD false=true)):m=m':=by
 refine gd hl fun j h1 h2=>?_
 have:=h j h1
 rw [gE h1,gE h2] at this
 simp at this
 cases hm:m[j] <;> cases hm':m'[j] <;> simp_all
def isM (m:List Bool) (j:Nat):Bool:=m[j]?.getD false
theorem AdR {m:List Bool} (h:isM m j=true):j<m.length:=by
 unfold isM at h
 rcases bf j m.length with h1|h1
 ·exact h1
 ·rw [fg h1] at h
  cases h
theorem Ia {m:List Bool} (hi:i<m.length):isM (m.set i true) j=(isM m j || i == j):=by
 unfold isM
 rw [bu]
 by_cases h:i=j
 ·subst h
  simp [hi]
 ·have:(i == j)=false:=by simpa using h
  simp [h]
theorem Ow {m:List Bool} (h:isM m j=true):isM (m.set i true) j=true:=by
 by_cases hi:i<m.length
 ·rw [Ia hi,h];rfl
 ·rw [List.set_eq_of_length_le (by omega)];exact h
def Lk (bs:List Bk):Prop:=∀ i,i<bs.length→∀ a∈Hl bs i,0≤a∧a<(bs.length:Int)
theorem Fc {bs:List Bk} (h:a∈BV bs over i):a∈Hl bs i:=by
 unfold BV at h
 split at h
 ·cases h
 ·exact h
structure GO (bs:List Bk) (over:Bool) (m:List Bool) (i:Nat) (m':List Bool):Prop where
 len:m'.length=m.length
 mono:∀ j,isM m j=true→isM m' j=true
 self:isM m' i=true
 from_:∀ j,isM m' j=true→isM m j=true∨Reach bs over i j
 closed:∀ j,isM m' j=true→isM m j=false→∀ a∈BV bs over j,isM m' a.toNat=true
theorem GO.same {bs:List Bk} {m:List Bool} (h:isM m i=true):GO bs over m i m :=
 ⟨rfl,fun _ h=>h,h,fun _ h=>.inl h,fun j h1 h2=>by rw [h1] at h2;cases h2⟩
structure ED (bs:List Bk) (over:Bool) (m:List Bool) (i k:Nat) (m':List Bool):Prop where
 len:m'.length=m.length
 mono:∀ j,isM m j=true→isM m' j=true
 self:isM m' i=true
 from_:∀ j,isM m' j=true→isM m j=true∨Reach bs over i j
 closed:∀ j,j≠i→isM m' j=true→isM m j=false→∀ a∈BV bs over j,isM m' a.toNat=true
 args:∀ t,t<k→∀ a,(BV bs over i)[t]?=some a→isM m' a.toNat=true
theorem ED.start {bs:List Bk} {m:List Bool} (hi:i<m.length):ED bs over m i 0 (m.set i true) :=
 ⟨by simp,fun j h=>Ow h,by rw [Ia hi];simp,fun j h=>by
  rw [Ia hi] at h
  simp at h
  rcases h with h|h
  ·exact .inl h
  ·subst h;exact .inr (Reach.refl _),fun j hj h1 h2=>by
  rw [Ia hi,h2] at h1
  simp at h1
  exact absurd h1.symm hj,fun t ht=>by omega⟩
theorem ED.step {bs:List Bk} {m m'':List Bool} {k:Nat} (h:ED bs over m i k m') (ha:(BV bs over i)[k]?=some a) (h2:GO bs over m' a.toNat m''):ED bs over m i (k+1) m'':=by
 have hr:Reach bs over i a.toNat:=Reach.step (Reach.refl i) (gM ha)
 refine ⟨h2.len.trans h.len,fun j hj=>h2.mono j (h.mono j hj),h2.mono i h.self,fun j hj=>?_,fun j hji h1 hm b hb=>?_,fun t ht b hb=>?_⟩
 ·rcases h2.from_ j hj with h3|h3
  ·exact h.from_ j h3
  ·exact .inr (hr.trans h3)
 ·by_cases hmj:isM m' j=true
  ·exact h2.mono _ (h.closed j hji hmj hm b hb)
  ·exact h2.closed j h1 (by simpa using hmj) b hb
 ·by_cases htk:t=k
  ·subst htk
   rw [ha] at hb
   cases hb
   exact h2.self
  ·exact h2.mono _ (h.args t (by omega) b hb)
theorem ED.done {bs:List Bk} {m:List Bool} {k:Nat} (h:ED bs over m i k m') (hk:(BV bs over i).length≤k):GO bs over m i m' :=
 ⟨h.len,h.mono,h.self,h.from_,fun j h1 h2 a ha=>by
  by_cases hji:j=i
  ·subst hji
   obtain ⟨t,ht,rfl⟩:=List.getElem_of_mem ha
   exact h.args t (by omega) _ (gE ht)
  ·exact h.closed j hji h1 h2 a ha⟩
def unM (m:List Bool):Nat:=(m.filter fun b=>!b).length
theorem TQ:∀ {m:List Bool} {i:Nat},i<m.length→isM m i=false→unM (m.set i true)+1=unM m
 | [],i,h,_=>by simp at h
 | b::m,0,_,h=>by
  simp [isM] at h
  subst h
  simp [unM]
 | b::m,i+1,h,h2=>by
  have h3:i<m.length:=by simpa using h
  have h4:isM m i=false:=by simpa [isM] using h2
  have ih:=TQ h3 h4
  unfold unM at ih ⊢
  simp only [df,ll]
  cases b <;> simp <;> omega
theorem Pk:∀ {m m':List Bool},m'.length=m.length→(∀ j,isM m j=true→isM m' j=true)→unM m'≤unM m
 | [],[],_,_=>aa _
 | [],_::_,h,_=>by simp at h
 | _::_,[],h,_=>by simp at h
 | b::m,c::m',hl,h=>by
  have ih:=Pk (m:=m) (m':=m') (by simpa using hl) (fun j hj=>by
   have:=h (j+1) (by simpa [isM] using hj)
   simpa [isM] using this)
  have h0:=h 0
  unfold unM at ih ⊢
  simp only [ll]
  cases b <;> cases c <;> simp [isM] at h0 ⊢ <;> omega
/- The document's way: pass after pass. -/
def GP (bs:List Bk) (over:Bool) (m:List Bool) (i:Nat):List Bool:=if isM m i=true then (BV bs over i).foldl (fun m a=>m.set a.toNat true) m else m
def Wg (bs:List Bk) (over:Bool) (m:List Bool):List Bool:=(List.range bs.length).foldl (GP bs over) m
def EJ (bs:List Bk) (over:Bool):Nat→List Bool→List Bool
 | 0,m=>m
 | k+1,m=>EJ bs over k (Wg bs over m)
theorem Ib:∀ (l:List Int) (m:List Bool) (j:Nat),isM m j=true→isM (l.foldl (fun m a=>m.set a.toNat true) m) j=true
 | [],_,_,h=>h
 | a::l,m,j,h=>Ib l _ j (Ow h)
theorem LJ:∀ (l:List Int) (m:List Bool),(l.foldl (fun m a=>m.set a.toNat true) m).length=m.length
 | [],_=>rfl
 | a::l,m=>by
  show (l.foldl _ (m.set a.toNat true)).length=_
  rw [LJ l]
  simp
theorem LL:∀ (l:List Int) (m:List Bool) (a:Int),a∈l→a.toNat<m.length→isM (l.foldl (fun m a=>m.set a.toNat true) m) a.toNat=true
 | [],_,_,h,_=>by cases h
 | b::l,m,a,h,hl=>by
  rcases List.mem_cons.1 h with rfl|h
  ·exact Ib l _ _ (by rw [Ia hl];simp)
  ·exact LL l _ a h (by simpa using hl)
theorem Ic:∀ (l:List Int) (m:List Bool) (j:Nat),isM (l.foldl (fun m a=>m.set a.toNat true) m) j=true→isM m j=true∨∃ a∈l,a.toNat=j
 | [],_,_,h=>.inl h
 | b::l,m,j,h=>by
  rcases Ic l (m.set b.toNat true) j h with h|⟨a,ha,e⟩
  ·by_cases hb:b.toNat<m.length
   ·rw [Ia hb] at h
    simp at h
    rcases h with h|h
    ·exact .inl h
    ·exact .inr ⟨b,by simp,h⟩
   ·rw [List.set_eq_of_length_le (by omega)] at h
    exact .inl h
  ·exact .inr ⟨a,by simp [ha],e⟩
theorem Wh (bs:List Bk) (over:Bool) (m:List Bool) (i:Nat):(GP bs over m i).length=m.length:=by
 unfold GP
 split
 ·exact LJ _ _
 ·rfl
theorem Sr {bs:List Bk} {m:List Bool} (h:isM m j=true):isM (GP bs over m i) j=true:=by
 unfold GP
 split
 ·exact Ib _ _ _ h
 ·exact h
theorem Ie (bs:List Bk) (over:Bool):∀ (l:List Nat) (m:List Bool),(l.foldl (GP bs over) m).length=m.length
 | [],_=>rfl
 | i::l,m=>by
  show (l.foldl _ (GP bs over m i)).length=_
  rw [Ie bs over l,Wh]
theorem ET {bs:List Bk} {over:Bool}:∀ (l:List Nat) {m:List Bool} {j:Nat},isM m j=true→isM (l.foldl (GP bs over) m) j=true
 | [],_,_,h=>h
 | i::l,_,_,h=>ET l (Sr h)
theorem Ss {bs:List Bk} {over:Bool} {S:Nat→Prop} (hS:∀ i a,S i→a∈BV bs over i→S a.toNat):∀ (l:List Nat) {m:List Bool},(∀ j,isM m j=true→S j)→∀ j,isM (l.foldl (GP bs over) m) j=true→S j
 | [],_,h,j,hj=>h j hj
 | i::l,m,h,j,hj=>by
  refine Ss hS l (m:=GP bs over m i) (fun k hk=>?_) j hj
  unfold GP at hk
  split at hk
  ·rename_i hi
   rcases Ic _ _ _ hk with h1|⟨a,ha,rfl⟩
   ·exact h k h1
   ·exact hS i a (h i hi) ha
  ·exact h k hk
theorem IK (bs:List Bk) (over:Bool):∀ (k:Nat) (m:List Bool),(EJ bs over k m).length=m.length
 | 0,_=>rfl
 | k+1,m=>(IK bs over k _).trans (Ie bs over _ m)
theorem Qz {bs:List Bk} {over:Bool}:∀ (k:Nat) {m:List Bool} {j:Nat},isM m j=true→isM (EJ bs over k m) j=true
 | 0,_,_,h=>h
 | k+1,_,_,h=>Qz k (ET _ h)
theorem QA {bs:List Bk} {over:Bool} {S:Nat→Prop} (hS:∀ i a,S i→a∈BV bs over i→S a.toNat):∀ (k:Nat) {m:List Bool},(∀ j,isM m j=true→S j)→∀ j,isM (EJ bs over k m) j=true→S j
 | 0,_,h=>h
 | k+1,_,h=>QA hS k (Ss hS _ h)
def AmL (bs:List Bk) (over:Bool) (m:List Bool):Prop:=∀ i,isM m i=true→∀ a∈BV bs over i,isM m a.toNat=true
theorem Wi {bs:List Bk} {over:Bool} (hok:Lk bs):∀ (l:List Nat) {m:List Bool},m.length=bs.length→(∀ i∈l,i<bs.length)→(∀ j,isM (l.foldl (GP bs over) m) j=true→isM m j=true)→∀ i∈l,isM m i=true→∀ a∈BV bs over i,isM m a.toNat=true
 | [],_,_,_,_,i,hi=>by cases hi
 | k::l,m,hl,hlt,hfix,i,hi=>by
  rcases List.mem_cons.1 hi with rfl|hi
  ·intro hm a ha
   have hb:=hok i (hlt i (by simp)) a (Fc ha)
   refine hfix _ (ET l ?_)
   unfold GP
   rw [if_pos hm]
   exact LL _ _ a ha (by omega)
  ·have h1:∀ j,isM (GP bs over m k) j=true→isM m j=true:=fun j hj=>hfix j (ET l hj)
   have he:GP bs over m k=m:=Pj (Wh _ _ _ _) (fun j _=>⟨fun h=>h1 j h,fun h=>Sr h⟩)
   exact Wi hok l hl (fun q hq=>hlt q (by simp [hq])) (fun j hj=>hfix j (by show isM (l.foldl _ (GP bs over m k)) j=true;rw [he];exact hj)) i hi
theorem AqR {m:List Bool} (hl:m'.length=m.length) (hm:∀ j,isM m j=true→isM m' j=true) (hne:m'≠m):unM m'<unM m:=by
 have hle:=Pk hl hm
 rcases bf (unM m') (unM m) with h|h
 ·exact h
 ·exfalso
  apply hne
  refine Pj hl fun j hj=>⟨fun hj2=>?_,fun h=>hm j h⟩
  cases hmj:isM m j with
  | true=>exact hmj
  | false =>
   exfalso
   have hjl:j<m.length:=by omega
   have h1:=TQ hjl hmj
   have h2:=Pk (m:=m.set j true) (m':=m') (by simpa using hl) (fun k hk=>by
    rw [Ia hjl] at hk
    simp at hk
    rcases hk with hk|hk
    ·exact hm k hk
    ·subst hk;exact hj2)
   omega
theorem Su {bs:List Bk} {over:Bool}:∀ (k:Nat) {m:List Bool},Wg bs over m=m→EJ bs over k m=m
 | 0,_,_=>rfl
 | k+1,m,h=>by
  show EJ bs over k (Wg bs over m)=m
  rw [h]
  exact Su k h
theorem Sv {bs:List Bk} {over:Bool}:∀ (k:Nat) {m:List Bool},unM m≤k→Wg bs over (EJ bs over k m)=EJ bs over k m
 | 0,m,h=>by
  refine Pj (Ie _ _ _ _) fun j hj=>⟨fun _=>?_,fun h2=>ET _ h2⟩
  have hjl:j<m.length:=by rw [←Ie bs over (List.range bs.length) m];exact hj
  show isM m j=true
  cases hmj:isM m j with
  | true=>rfl
  | false =>
   have:=TQ hjl hmj
   omega
 | k+1,m,h=>by
  by_cases he:Wg bs over m=m
  ·rw [Su (k+1) he]
   exact he
  ·have hlt:=AqR (m':=Wg bs over m) (m:=m) (Ie _ _ _ _) (fun j hj=>ET _ hj) he
   exact Sv k (by omega)
theorem Wj {bs:List Bk} (hok:Lk bs) {m:List Bool} (hl:m.length=bs.length) (j:Nat):isM (EJ bs over bs.length m) j=true ↔∃i,isM m i=true∧Reach bs over i j:=by
 constructor
 ·exact QA (S:=fun j=>∃ i,isM m i=true∧Reach bs over i j) (fun i a ⟨s,hs,hr⟩ ha=>⟨s,hs,hr.step ha⟩) bs.length (fun j hj=>⟨j,hj,Reach.refl j⟩) j
 ·rintro ⟨i,hi,hr⟩
  have hun:unM m≤bs.length:=by
   unfold unM
   have:=gn (fun b=>!b) m
   omega
  have hfix:=Sv (bs:=bs) (over:=over) bs.length hun
  have hcl:AmL bs over (EJ bs over bs.length m):=fun i hi a ha=>by
   have hil:=AdR hi
   rw [IK,hl] at hil
   exact Wi hok (List.range bs.length) (m:=EJ bs over bs.length m) (by rw [IK,hl]) (by simp) (fun q hq=>by
    have hq:isM (Wg bs over (EJ bs over bs.length m)) q=true:=hq
    rw [hfix] at hq
    exact hq) i (by simpa using hil) hi a ha
  induction hr with
  | refl=>exact Qz _ hi
  | step _ ha ih=>exact hcl _ ih _ ha
def Ay (k:Int):Int:=if k=1 then 0 else if k=0∨k=2∨k=5∨k=10∨k=6∨k=11 then 1 else if k=3∨k=4∨k=7∨k=8∨k=9 then 2 else -1
theorem AuH {b:Int} (h:a=b):Ending.returned (.int .i64 a)=.returned (.int .i64 b):=by rw [h]
theorem Fd (k:Int) (w:World):Calls prog 152 #[.int .i64 k] w fun e w'=>e=.returned (.int .i64 (Ay k))∧w=w':=by
 go_enter func152,ntmps152
 go_wp2
 all_goals
  go_ret
  exact ⟨AuH (by simp only [beq_iff_eq,beq_eq_false_iff_ne,ne_eq] at *;simp [Ay, *]),rfl⟩
def DA (num ex:Int):Prop := -2147483648<num∧num<2147483648 ∧ -62≤ex∧ex≤30
instance (num ex:Int):Decidable (DA num ex):=by unfold DA;infer_instance
def Cl (num ex:Int) (used:Bool):Int:=if used=true then (if DA num ex then 0 else 3) else (if num=0∧ex=0 then 0 else 2)
theorem AtV (h:n=0):Ending.returned .nilIface=.returned (EK n):=by rw [h];rfl
theorem AcM {k:Int} (h:n=k) (hk:k≠0):Ending.returned (.iface 85 (.int .i64 k))=.returned (EK n):=by rw [h,Mg hk]
theorem Du (num ex:Int) (used:Bool) (w:World):Calls prog 153 #[.agg #[.int .i64 num,.int .i64 ex],.bool used] w fun e w'=>e=.returned (EK (Cl num ex used))∧Below w.heap.size w w':=by
 cases used with
 | false =>
  go_enter func153,ntmps153
  go_wp2
  all_goals
   go_ret
   first
    | exact ⟨AtV (by simp only [Cl,dn,if_false];split <;> omega),al_ _ _⟩
    | exact ⟨AcM (k:=2) (by simp only [Cl,dn,if_false];split <;> omega) (by decide),al_ _ _⟩
 | true =>
  by_cases hs:DA num ex
  ·have HV:=mi (show Cl num ex true=0 by unfold Cl;rw [if_pos rfl,if_pos hs])
   obtain ⟨h1,h2,h3,h4⟩:=hs
   go_enter func153,ntmps153
   go_wp2
   go_ret
   exact ⟨AtV HV.out,al_ _ _⟩
  ·have HV:=mi (show Cl num ex true=3 by unfold Cl;rw [if_pos rfl,if_neg hs])
   have HS:=mi hs
   clear hs
   go_enter func153,ntmps153
   go_wp2
   all_goals
    go_ret
    first
     | exact ⟨AcM (k:=3) HV.out (by decide),al_ _ _⟩
     | (exfalso;exact HS.out ⟨by omega,by omega,by omega,by omega⟩)
theorem AdS {tmps:Array Value} {b:Nat} {v0 v1:Value} (h2:tmps.getD 2 undef=.pointer (some ⟨b,0,none⟩)) (hB:BQ w b [v0,v1,v2] 43) :
  (results Tryz.f154 tmps).run prog w=.ok (.agg #[v0,v1,v2]) w:=by
 have k0:=hB.cell 0
 have k1:=hB.cell 1
 have k2:=hB.cell 2
 simp at k0 k1 k2
 simp at h2
 simp [results,results154,go_sem,h2,k0,k1,k2]
theorem Wl (num ex:Int) (w:World) (h:DA num ex) (ht:An w):Calls prog 154 #[.agg #[.int .i64 num,.int .i64 ex]] w fun e w'=>∃ v,e=.returned v∧DyR w' w.heap.size w'.heap.size v (Ac num 0 ex).1 (Ac num 0 ex).2∧Below w.heap.size w w':=by
  obtain ⟨h1,h2,h3,h4⟩:=h
  have hln:(Ad num.natAbs).length≤50000:=lT (AC (k:=1) (by omega)) (by decide)
  have b0:Below w.heap.size w ((w.alloc (.cells #[.int .i64 num,.int .i64 ex] 63)).alloc (.cells #[.bool false,.slice none 0 0,.int .i64 0] 43)):=Au (Au (ah _ _) _) _
  have r0:=(BQ.new_ w [.int .i64 num,.int .i64 ex] 63).call (al_ _ (.cells #[.bool false,.slice none 0 0,.int .i64 0] 43))
  have r1:=BQ.new_ (w.alloc (.cells #[.int .i64 num,.int .i64 ex] 63)) [.bool false,.slice none 0 0,.int .i64 0] 43
  rw [show (w.alloc (.cells #[.int .i64 num,.int .i64 ex] 63)).heap.size=w.heap.size+1 by simp] at r1
  have HT:=mi ht
  clear ht
  go_enter func154,ntmps154
  go_wp2_with fail
  obtain ⟨W,hW⟩:∃ W,W=((w.alloc (.cells #[.int .i64 num,.int .i64 ex] 63)).alloc (.cells #[.bool false,.slice none 0 0,.int .i64 0] 43)):=⟨_,rfl⟩
  have hWs:w.heap.size+2≤W.heap.size:=by rw [hW];simp
  rw [←hW]
  rw [←hW] at b0 r0 r1
  clear hW
  have a0:W.cell? ⟨w.heap.size,0,none⟩=some (.int .i64 num):=r0.cell 0
  have a1:W.cell? ⟨w.heap.size,1,none⟩=some (.int .i64 ex):=r0.cell 1
  have hk:SK W (w.heap.size+1) (w.heap.size+1) W:=SK.refl (by omega) ⟨_,_,_,r1⟩
  have HTW:=HT.out.below b0 HT.out.1
  go_region_held3 (fun w'=>(∀ b o,b<w.heap.size+1→w'.cell? ⟨b,o,none⟩=W.cell? ⟨b,o,none⟩)∧SK W (w.heap.size+1) (w.heap.size+1) w')
    (first
      | (refine SK.all ?_
         first
           | assumption
           | exact hk
           | exact hk.drew
           | exact ((SK.set (by assumption) (by omega) _ _).set (by omega) _ _).set (by omega) _ _))
    (first
      | (go_at_call 123;refine (XQ num (by omega) (by omega) _ (HTW.below (ah _ W).drew HTW.1)).mono ?_;(rintro e w5 ⟨v5,rfl,D5,hb5⟩;have hk5:=SK.call hk.drew hb5;have hf5:=hk5.lt;have HT5:=(HTW.below (ah _ W).drew HTW.1).call hb5;obtain ⟨nb5,A5,L5,c5,rfl,_⟩:=D5.form))
      | (go_at_call 27;refine (Nk D5 (aa _) hln (by omega) HT5).mono ?_;(rintro e w6 ⟨v6,rfl,D6,hb6⟩;have hk6:=SK.call hk5 hb6;have hf6:=hk6.lt;obtain ⟨nb6,A9,L9,c9,rfl,_⟩:=D6.form;obtain ⟨z0,z1,z2,rz,k0,k1,k2,kf⟩:=SK.cells hk6)))
  go_wp2_with fail
  refine bodyPost_ret (AdS rfl (((rz.set_ 0 _).set_ 1 _).set_ 2 _)) rfl ⟨_,rfl,?_,(((b0.trans (hk6.is.mono (by omega))).setCell (by simp) _).setCell (by simp) _).setCell (by simp) _⟩
  exact ((((D6.set_ (by omega) 0 _).set_ (by omega) 1 _).set_ (by omega) 2 _).low (by omega)).more (by simp)
def ApP (num ex:Int):Int:=num*2 ^ (ex+62).toNat
def TR (an ae bn be:Int):Int:=sgI (ApP an ae - ApP bn be)
theorem IL {num ex:Int} (h1 : -62≤ex) (h2:ex≤30):(Ac num 0 ex).1*2 ^ 62=ApP num ex*2 ^ (Ac num 0 ex).2:=by
 unfold Ac ApP
 have e:max (-65536) (min ex 65536)=ex:=by omega
 rw [e]
 by_cases h:ex<0
 ·rw [if_pos h]
  obtain ⟨n,hn⟩:∃ n:Nat,ex = -(n:Int):=⟨(-ex).toNat,by omega⟩
  have e1:(-ex).toNat=n:=by omega
  have e2:(ex+62).toNat=62 - n:=by omega
  rw [e1,e2,ax]
  have h3:=Ahm num n
  have h4:(2:Int) ^ 62=2 ^ n*2 ^ (62 - n):=by rw [←bi,show n+(62 - n)=62 by omega]
  rw [h4,←bc,h3,bc,bc,fv (2 ^ _) (2 ^ _)]
 ·rw [if_neg h]
  obtain ⟨n,rfl⟩:=fh (show 0≤ex by omega)
  rw [ar,Ni (by omega),show ((n:Int)+62).toNat=n+62 by omega,bi]
  simp [bc]
theorem AdT {an ae bn be:Int} (h1:DA an ae) (h2:DA bn be):Wd (Ac an 0 ae).1 (Ac an 0 ae).2 (Ac bn 0 be).1 (Ac bn 0 be).2=TR an ae bn be:=by
 have e1:=IL h1.2.2.1 h1.2.2.2 (num:=an)
 have e2:=IL h2.2.2.1 h2.2.2.2 (num:=bn)
 unfold Wd TR
 revert e1 e2
 generalize Ac an 0 ae=p
 generalize Ac bn 0 be=q
 obtain ⟨x,dx⟩:=p
 obtain ⟨y,dy⟩:=q
 generalize ApP an ae=V1
 generalize ApP bn be=V2
 intro e1 e2
 dsimp only at e1 e2 ⊢
 rw [←Gb _ 62,←Gb (V1 - V2) (max dx dy)]
 congr 1
 have f1:(2:Int) ^ max dx dy=2 ^ dx*2 ^ (max dx dy - dx):=by rw [←bi,show dx+(max dx dy - dx)=max dx dy by omega]
 have f2:(2:Int) ^ max dx dy=2 ^ dy*2 ^ (max dx dy - dy):=by rw [←bi,show dy+(max dx dy - dy)=max dx dy by omega]
 rw [Int.sub_mul,Int.sub_mul]
 congr 1
 ·rw [f1,←bc,←e1,bc,bc,fv (2 ^ _) (2 ^ _)]
 ·rw [f2,←bc,←e2,bc,bc,fv (2 ^ _) (2 ^ _)]
theorem AmM {x:Int} (h:0<x):sgI x=1:=by unfold sgI;rw [if_neg (by omega),if_neg (by omega)]
theorem AmN {x:Int} (h:x<0):sgI x = -1:=by unfold sgI;rw [if_neg (by omega),if_pos h]
theorem Eu (x y:Int):sgI (x - y)=if x<y then -1 else if y<x then 1 else 0:=by
 by_cases h:x<y
 ·rw [if_pos h,AmN (by omega)]
 ·rw [if_neg h]
  by_cases h2:y<x
  ·rw [if_pos h2,AmM (by omega)]
  ·rw [if_neg h2,show x - y=0 by omega];rfl
open Go.Deep
theorem TT:(prog.info? 3).map (fun i=>(i.zero,i.size,i.bytes))=some (some (.int .i64 0),1,8):=by kernel_rfl
theorem IM:prog.underlying 24=some (.slice 3):=by kernel_rfl
def Dv (w:World) (base:Nat) (v:Value) (xs:List Int):Prop:=w.ownsRow base 3 1 v xs.length (CR xs)
theorem Dv.nil_ (w:World) (base:Nat):Dv w base (.slice none 0 0) []:=jn w base _ _
theorem Dv.view (h:Dv w base v xs):∃ A c,v=.slice A xs.length c∧(A=none→c=0)∧Aj w w.heap.size A (CR xs):=by
 rcases h.2 with ⟨rfl,h0⟩|⟨g,cap,cur,rfl,hb,hg,hn,hm,hs,ht⟩
 ·have:xs=[]:=bj h0
  subst this
  exact ⟨none,0,rfl,fun _=>rfl,Aj.nil_⟩
 ·have hlt:=(World.ownsRow.lt h g rfl).2
  refine ⟨some ⟨g,0,none⟩,cap,rfl,by simp,fun _=>⟨g,0,rfl,hlt,hlt,fun j u hu=>?_⟩⟩
  have:=World.ownsRow.cells h (g:=g) rfl j u hu
  rcases j with _|j
  ·simpa [Addr.add] using this
  ·simpa [Addr.add] using this
theorem Dv.base_ (h:Dv w base v xs) {base':Nat} (hb:base'≤base):Dv w base' v xs:=by
 refine ⟨h.1,?_⟩
 rcases h.2 with hn|⟨g,cap,cur,rfl,hbg,rest⟩
 ·exact .inl hn
 ·exact .inr ⟨g,cap,cur,rfl,lT hb hbg,rest⟩
theorem AhP {rest:List Oper} {o:Oper} {a:Act} {Q:Exit→Act→World→Prop} (hgd:o.guard=none) (s x:Operand)
  (ho:o.op=.call { callee:=.builtin .append,args:=#[s,x],argTypes:=#[24,24] })
  (base:Nat) (v:Value) (xs ys:List Int) (A:Option Addr) (c m:Nat) (hs:a.eval s=v) (hown:Dv w base v xs) (hx:a.eval x=.slice A ys.length c) (hn:A=none→c=0) (hc:Aj w m A (CR ys))
  (hlen:xs.length+ys.length≤1000000) (hbase:base≤w.heap.size)
  (h:∀ v' w',Dv w' base v' (xs++ys)→w.grownBy w' v.ownBlock→Below base w w'→wpList prog ops Q rest (a.put o.dst v') w'):wpList prog ops Q (o::rest) a w:=by
 obtain ⟨i0,hi,hz0,hz1,hz2⟩:=info_parts TT
 rcases A with _|⟨b,off,l⟩
 ·have hy:ys=[]:=by
   rcases ys with _|⟨y,ys⟩
   ·rfl
   ·obtain ⟨b,off,hA,_⟩:=hc (by simp [CR])
    cases hA
  subst hy
  have hc0:=hn rfl
  subst hc0
  exact wpList_append_own_none hgd s x 24 ho base 3 i0 1 IM hi v xs.length (CR xs) hs hown hx (h v w (by rw [av];exact hown) ⟨rfl,rfl,rfl,aa _,fun _ _ _=>rfl⟩ (ah _ _))
 ·refine wpList_append_own w hgd s x 24 ho base 3 i0 (.int .i64 0) 1 8 IM hi hz0 hz1 hz2 rfl (by decide) v xs.length (CR xs) hs hown ⟨b,off,l⟩ ys.length c (CR ys) hx (by simp [CR]) ?_ ?_ (by unfold maxLen;omega) (by omega) hbase (fun v' w' h1 h2 _=>h v' w' ?_ h2 ((ah base w).grown h2 hbase (fun g hg=>(World.ownsRow.lt hown g hg).1)))
  ·intro j u hu
   obtain ⟨b',off',hA,_,_,hcc⟩:=hc (fun h0=>by rw [h0] at hu;simp at hu)
   cases hA
   have hu':=hcc j u hu
   rcases j with _|j
   ·simpa [Addr.add] using hu'
   ·simpa [Addr.add] using hu'
  ·intro u hu
   obtain ⟨z,_,rfl⟩:=List.mem_map.1 hu
   rfl
  ·have e:CR (xs++ys)=CR xs++CR ys:=by simp [CR]
   unfold Dv
   rw [e,aq]
   exact h1
theorem Dv.alloc (h:Dv w base v xs) (o:Obj):Dv (w.alloc o) base v xs:=World.ownsRow.alloc h o
theorem Pm {rest:List Oper} {o:Oper} {a:Act} {Q:Exit→Act→World→Prop} (hgd:o.guard=none) (s x:Operand)
  (ho:o.op=.call { callee:=.builtin .append,args:=#[s,x],argTypes:=#[24,24] })
  (base:Nat) (v:Value) (xs:List Int) (z:Int) (g:Nat) (hs:a.eval s=v) (hown:Dv w base v xs) (hx:a.eval x=.slice (some ⟨g,0,none⟩) 1 1) (hg:w.cell? ⟨g,0,none⟩=some (.int .i64 z))
  (hlen:xs.length<1000000) (hbase:base≤w.heap.size)
  (h:∀ v' w',Dv w' base v' (xs++[z])→w.grownBy w' v.ownBlock→Below base w w'→wpList prog ops Q rest (a.put o.dst v') w'):wpList prog ops Q (o::rest) a w:=by
 have hgl:g<w.heap.size:=by
  rcases bf g w.heap.size with h|h
  ·exact h
  ·simp [World.cell?,fb h] at hg
 exact AhP hgd s x ho base v xs [z] _ 1 w.heap.size hs hown hx (by simp) (fun _=>⟨g,0,rfl,hgl,hgl,fun j u hu=>by
  rcases j with _|j
  ·simp [CR] at hu;subst hu;exact hg
  ·simp [CR] at hu⟩) (by simp;omega) hbase h
theorem Dv.below {B:Nat} (h:Dv w base v xs) (hb:Below B w w') (hv:∀ g,v.ownBlock=some g→g<B):Dv w' base v xs:=by
 refine ⟨h.1,?_⟩
 rcases h.2 with hn|⟨g,cap,cur,rfl,hbg,hg,rest⟩
 ·exact .inl hn
 ·refine .inr ⟨g,cap,cur,rfl,hbg,?_,rest⟩
  rw [hb.block g (hv g rfl)]
  exact hg
structure Dg where
 A1:Option Addr
 ps:List Prt
 c1:Nat
 A2:Option Addr
 bs:List Bk
 c2:Nat
 A3:Option Addr
 os:List Int
 c3:Nat
def Dg.val (d:Dg):Value:=.agg #[.slice d.A1 d.ps.length d.c1,.slice d.A2 d.bs.length d.c2,.slice d.A3 d.os.length d.c3]
def Bk.val (b:Bk):Value:=.agg #[.int .i64 b.kind,.slice b.A b.args.length b.cap,.int .i64 b.vn,.int .i64 b.ve,.int .i64 b.un,.int .i64 b.ue]
structure AdU (w:World) (m:Nat) (d:Dg):Prop where
 ps:Aj w m d.A1 (Eg Prt.cells d.ps)
 bs:Aj w m d.A2 (Eg Bk.cells d.bs)
 os:Aj w m d.A3 (CR d.os)
 args:∀ b∈d.bs,Aj w m b.A (CR b.args)∧b.args.length≤1000000
 l1:d.ps.length≤1000000
 l2:d.bs.length≤1000000
 l3:d.os.length≤1000000
theorem AdU.below {B:Nat} {d:Dg} (h:AdU w m d) (hb:Below B w w') (hm:m≤B):AdU w' m d :=
 ⟨h.ps.below hb hm,h.bs.below hb hm,h.os.below hb hm,fun b hb'=>⟨(h.args b hb').1.below hb hm,(h.args b hb').2⟩,h.l1,h.l2,h.l3⟩
theorem AdU.blk {d:Dg} (h:AdU w m d) {k:Nat} (hk:k<d.bs.length) :
  ∃ b off kind A args cap vn ve un ue,d.A2=some ⟨b,off,none⟩∧b<m∧b<w.heap.size∧d.bs[k]?=some ⟨kind,A,args,cap,vn,ve,un,ue⟩ ∧
   w.cell? ⟨b,off+k*6,none⟩=some (.int .i64 kind)∧w.cell? ⟨b,off+k*6+1,none⟩=some (.slice A args.length cap)∧w.cell? ⟨b,off+k*6+2,none⟩=some (.int .i64 vn)∧w.cell? ⟨b,off+k*6+3,none⟩=some (.int .i64 ve) ∧
   w.cell? ⟨b,off+k*6+4,none⟩=some (.int .i64 un)∧w.cell? ⟨b,off+k*6+5,none⟩=some (.int .i64 ue)∧Aj w m A (CR args)∧args.length≤1000000:=by
 obtain ⟨b,off,x,hA,hbm,hbs,hx,hc⟩:=h.bs.row (s:=6) (fun _=>rfl) (by omega) hk
 have ha:=h.args x (gM hx)
 obtain ⟨kind,A,args,cap,vn,ve,un,ue⟩:=x
 exact ⟨b,off,kind,A,args,cap,vn,ve,un,ue,hA,hbm,hbs,hx,hc 0 _ rfl,hc 1 _ rfl,hc 2 _ rfl,hc 3 _ rfl,hc 4 _ rfl,hc 5 _ rfl,ha.1,ha.2⟩
theorem Fe {bs:List Bk} {k:Nat} {x:Bk} (h:bs[k]?=some x):AQ bs k=x.kind:=by simp [AQ,h]
theorem AmO {bs:List Bk} {k:Nat} {x:Bk} (h:bs[k]?=some x):Qy bs k=x.args:=by simp [Qy,h]
theorem IO {bs:List Bk} {k:Nat} {x:Bk} (h:bs[k]?=some x):Hl bs k=if x.kind=0 then [] else x.args:=by simp [Hl,Fe h,AmO h]
theorem GR {bs:List Bk} {k:Nat} {x:Bk} (h:bs[k]?=some x):BV bs over k=if x.kind=2∧over=false then [] else if x.kind=0 then [] else x.args:=by simp [BV,Fe h,IO h]
def RetI (m:Nat) (xs:List Int) (w:World) (e:Ending) (w':World):Prop:=∃ A c,e=.returned (.slice A xs.length c)∧Aj w' m A (CR xs)∧Below w.heap.size w w'
theorem AqS (h:p:=by
 go_wp2_with fail
 go_ret
 have HK:BV bs false i=[]:=HS.out
 exact ⟨none,0,by rw [HK];rfl,by rw [HK];exact Aj.nil_,al_ _ _⟩):p:=h
theorem NJ (d:Dg) (i m:Nat) (w:World) (hm:m≤w.heap.size) (hd:AdU w m d) (hi:i<d.bs.length) :
  Calls prog 66 #[d.val,.int .i64 (i:Int)] w (RetI m (BV d.bs false i) w):=by
 obtain ⟨b,off,kind,A,args,cap,vn,ve,un,ue,hA,hbm,hbs,hx,g0,g1,g2,g3,g4,g5,ha,hl⟩:=hd.blk hi
 obtain ⟨A1,ps,c1,A2,bs,c2,A3,os,c3⟩:=d
 have h2:=hd.l2
 dsimp only at hA hx hi h2
 subst hA
 have HS:=mi (GR (over:=false) hx)
 have HA:=mi ha
 have hi':(i:Int)<(bs.length:Int):=by omega
 clear hd hx ha
 simp only [Dg.val]
 go_enter func66,ntmps66
 by_cases k0:kind=0
 ·subst k0
  exact AqS
 ·have n0:(kind == 0)=false:=by simpa using k0
  by_cases k2:kind=2
  ·subst k2
   exact AqS
  ·have n2:(kind == 2)=false:=by simpa using k2
   have HK:Hid (BV bs false i=args):=by
    have h:=HS.out
    rw [h,if_neg (by simp [k2])]
    exact if_neg k0
   clear HS k0 k2
   go_wp2_with fail
   go_ret
   exact ⟨A,cap,by rw [HK.out];rfl,by rw [HK.out];exact HA.out.below (al_ _ _) hm,al_ _ _⟩
def GS (l:List Bool):List Value:=l.map Value.bool
theorem Aj.bool_ {A:Option Addr} {zs:List Bool} (h:Aj w m A (GS zs)) {k:Nat} (hk:k<zs.length) :
  ∃ b off z,A=some ⟨b,off,none⟩∧b<m∧b<w.heap.size∧zs[k]?=some z∧w.cell? ⟨b,off+k,none⟩=some (.bool z):=by
 obtain ⟨b,off,hA,hbm,hbs,hc⟩:=h (by cases zs <;> simp [GS] at hk ⊢)
 exact ⟨b,off,zs[k],hA,hbm,hbs,gE hk,hc k _ (by simp [GS,hk])⟩
def Br (l:List Nat):List Int:=l.map fun n:Nat=>(n:Int)
def fl (p:Nat→Bool) (k:Nat):List Nat:=(List.range k).filter p
theorem ZJ {p:Nat→Bool} {k:Nat} (h:p k=true):fl p (k+1)=fl p k++[k]:=by unfold fl;rw [cr,ks];simp [h]
theorem AhQ {p:Nat→Bool} {k:Nat} (h:p k=false):fl p (k+1)=fl p k:=by unfold fl;rw [cr,ks];simp [h]
theorem AhR (p:Nat→Bool) (k:Nat):(fl p k).length≤k:=by unfold fl;simpa using gn p (List.range k)
theorem AdV {k:Nat} (h:l[k]?=some b):isM l k=b:=by simp [isM,h]
def RetO (xs:List Int) (w:World) (e:Ending) (w':World):Prop:=∃ v,e=.returned v∧Dv w' w.heap.size v xs∧Below w.heap.size w w'
def AuI (w:World) (l:List Bool) (v i:Value) (wr:World):Prop:=∃ k:Nat,k≤l.length∧i=.int .i64 k∧Dv wr w.heap.size v (Br (fl (isM l) k))∧Below w.heap.size w wr
theorem AhS (A:Option Addr) (l:List Bool) (c m:Nat) (w:World) (hm:m≤w.heap.size) (h:Aj w m A (GS l)) (hl:l.length≤1000000) :
  Calls prog 24 #[.slice A l.length c] w (RetO (Br (Wf l)) w):=by
 have H:=mi h
 clear h
 go_enter func24,ntmps24
 go_wp2_with fail
 go_loopw [3,8] (fun v i wr=>AuI w l v i wr) (fun _ i _=>l.length - (intOf i).toNat)
 case atStart=>exact ⟨0,af _,rfl,Dv.nil_ _ _,ah _ _⟩
 case round =>
  obtain ⟨k,hk,rfl,hown,hb⟩:=hrel
  have HO:=mi hown
  clear hown
  by_cases hlt:k<l.length
  ·obtain ⟨b,off,x,rfl,hbm,hbs,hx,hc⟩:=H.out.bool_ hlt
   have hc':=(hb.cell (p:=⟨b,off+k,none⟩) (au hbm hm)).trans hc
   clear hc
   cases x with
   | true =>
    have HX:=mi hx
    clear hx
    have hbz:=hb.size
    go_wp2_with (at_builtin;refine Pm rfl _ _ rfl w.heap.size _ (Br (fl (isM l) k)) (k:Int) wr.heap.size rfl (HO.out.alloc _) rfl (by simp [go_sem]) (by have:=AhR (isM l) k;simp [Br];omega) (by simp;omega) ?_;intro v' w4 hown hg hb4)
    have hst:Below w.heap.size wr w4:=((ah _ wr).alloc hbz _).trans hb4
    exact ⟨⟨k+1,by omega,by go_num,by rw [ZJ (AdV HX.out)];simpa [Br] using hown,hb.trans hst⟩,by simp [intOf];omega⟩
   | false =>
    have HX:=mi hx
    clear hx
    go_wp2_with fail
    exact ⟨⟨k+1,by omega,by go_num,by rw [AhQ (AdV HX.out)];exact HO.out,hb⟩,by simp [intOf];omega⟩
  ·go_wp2_with fail
   have e:k=l.length:=by omega
   subst e
   obtain ⟨A',c',hv,_⟩:=HO.out.view
   subst hv
   go_ret
   exact ⟨_,rfl,HO.out,hb⟩
def DR (bs:List Bk) (i:Nat):Bool:=AQ bs i == 2
open Go.ChangeShapes Go.WideShapes Go.ChangeAt Go.Joins
theorem TU {α:Type} {f:α→List Value} (hf:∀ x,(f x).length=s) (l:List α):(Eg f l).length=l.length*s:=by
 induction l with
 | nil=>simp [Eg]
 | cons x l ih =>
  simp only [Eg,br,gg,aq,hf] at ih ⊢
  rw [ih,cq,Nat.succ_mul,Nat.add_comm]
theorem AhT {cs:List Value} (h:∀ c∈cs,∃z:Int,c=.int .i64 z ∧ -9223372036854775808≤z∧z≤9223372036854775807):∃ zs:List Int,cs=CR zs∧∀ z∈zs,-9223372036854775808≤z∧z≤9223372036854775807:=by
 induction cs with
 | nil=>exact ⟨[],rfl,by simp⟩
 | cons c cs ih =>
  obtain ⟨zs,rfl,hz⟩:=ih (fun c hc=>h c (by simp [hc]))
  obtain ⟨z,rfl,hb⟩:=h c (by simp)
  exact ⟨z::zs,rfl,fun y hy=>by
   rcases List.mem_cons.1 hy with rfl|hy
   ·exact hb
   ·exact hz y hy⟩
section
variable {H:Type} {enc:TypeId × Value→H} {P:Program} {w:World} {spare:Nat→Bool} {held:Bool}
theorem ZK {e:TypeId} {fs:Array Field} {cs:List Value} {x:DataW H × List MemPlace} (hs:P.underlying e=some (.struct fs)) (hone:oneCellFields P fs=true) (hint:∀ (i:Nat) (f:Field),fs[i]?=some f→P.underlying f.type=some (.int .i64)) (hC:P.cellsOf e=fs.size)
  (h:DataW.trod enc P w 0 spare held fuel e cs=some x):∃ zs:List Int,cs=CR zs∧zs.length=fs.size∧∀ z∈zs,-9223372036854775808≤z∧z≤9223372036854775807:=by
 obtain ⟨xs,n,_,_,hlen,hxl,hg⟩:=il hs h
 obtain ⟨zs,rfl,hz⟩:=AhT (cs:=cs) (fun c hc=>by
  obtain ⟨i,hi⟩:=dq hc
  have hil:i<cs.length:=(gS.1 hi).1
  have hif:i<fs.size:=by omega
  have hf:fs[i]?=some fs[i]:=by simp [hif]
  obtain ⟨o0,k0⟩:=hone_of hone i fs[i] hf
  have hgi:=hg i fs[i] hf
  rw [o0,k0,take1_drop cs i undef hil,gE (by omega)] at hgi
  obtain ⟨z,hz,_,hw⟩:=DataW.trod_int (hint i fs[i] hf) hgi
  have hd:cs.getD i undef=c:=by simp [List.getD,hi]
  rw [hd] at hz
  exact ⟨z,by simpa using hz,bounds_i64 hw⟩)
 exact ⟨zs,rfl,by rw [←Pa,hlen,hC],hz⟩
theorem Wm {α:Type} {f:α→List Value} (mk:List Int→α) (hmk:∀ zs,zs.length=s→f (mk zs)=CR zs) (hfl:∀ x,(f x).length=s) (hs0:0<s) {t e:TypeId} {fs:Array Field} {fuel:Nat} {v:Value} {x:DataW H × List MemPlace} (ht:P.underlying t=some (.slice e)) (hs:P.underlying e=some (.struct fs)) (hone:oneCellFields P fs=true) (hint:∀ (i:Nat) (f:Field),fs[i]?=some f→P.underlying f.type=some (.int .i64)) (hC:P.cellsOf e=fs.size) (hsz:fs.size=s)
  (h:DataW.trod enc P w 0 spare held fuel t [v]=some x) :
  ∃ (A:Option Addr) (cap:Nat) (l:List α),v=.slice A l.length cap∧(A=none→cap=0)∧l.length≤cap∧l.length≤maxLen∧Aj w w.heap.size A (Eg f l)∧(∀ x∈l,∃zs,x=mk zs∧zs.length=s∧∀ z∈zs,-9223372036854775808≤z∧z≤9223372036854775807):=by
 rcases open_slice ht h with ⟨hcs,_⟩|⟨a,len,cap,m,n,D,Pl,hcs,_,hl,hm,hmm,_,hx⟩
 ·exact ⟨none,0,[],by simpa using hcs,fun _=>rfl,aa _,af _,Aj.nil_,by simp⟩
 ·have hle:len≤m:=by rw [hmm];split <;> omega
  rw [hC,hsz] at hx
  obtain ⟨R,hR⟩:=choose_lt (α:=List Int) (n:=len) (p:=fun i zs=>zs.length=s∧(∀ z∈zs,-9223372036854775808≤z∧z≤9223372036854775807)∧∀ j,j<s→w.cell? (a.add (i*s+j))=(CR zs)[j]?) (fun i hi=>by
   obtain ⟨cs',h1,h2⟩:=hx i (by omega)
   obtain ⟨zs,rfl,hzl,hzb⟩:=ZK hs hone hint hC h2
   obtain ⟨_,hlen,hcell⟩:=World.cells?_some h1
   exact ⟨zs,hzl.trans hsz,hzb,fun j hj=>by rw [←add_add];exact hcell j hj⟩)
  refine ⟨some a,cap,(List.range len).map (fun i=>mk (R i)),by simpa using hcs,by simp,by simpa using hl,by simp;omega,fun hne=>?_,?_⟩
  ·have hpos:0<len:=by
    rcases co len with h0|h0
    ·subst h0;simp [Eg] at hne
    ·exact h0
   obtain ⟨b,off,spot⟩:=a
   have h00:=(hR 0 hpos).2.2 0 hs0
   have hz0:(CR (R 0))[0]?=some ((CR (R 0))[0]'(by rw [Pa,(hR 0 hpos).1];exact hs0)):=gE _
   rw [hz0] at h00
   have hspot:spot=none:=by simpa [Addr.add] using World.cell?_spot h00
   subst hspot
   have hb:b<w.heap.size:=by
    rcases bf b w.heap.size with h|h
    ·exact h
    ·simp [World.cell?,Addr.add,fb h] at h00
   refine ⟨b,off,rfl,hb,hb,fun j u hu=>?_⟩
   have hjl:j<len*s:=by
    have:=(gS.1 hu).1
    rw [TU hfl] at this
    simpa using this
   have hk:j / s<len:=Nat.div_lt_of_lt_mul (by rw [ay];exact hjl)
   have hr:j % s<s:=fy _ hs0
   have hj:j / s*s+j % s=j:=by rw [ay];exact ek j s
   have hg:((List.range len).map (fun i=>mk (R i)))[j / s]?=some (mk (R (j / s))):=by simp [hk]
   have h1:=IB hfl hg hr
   rw [hj,hu,hmk _ (hR _ hk).1] at h1
   have h2:=(hR _ hk).2.2 (j % s) hr
   rw [hj,←h1] at h2
   rw [←Go.WideShapes.add_plain]
   exact h2
  ·intro y hy
   obtain ⟨i,hi,rfl⟩:=List.mem_map.1 hy
   have:=hR i (by simpa using hi)
   exact ⟨_,rfl,this.1,this.2.1⟩
theorem EP {e:TypeId} {x:DataW H × List MemPlace} (ht:P.underlying t=some (.slice e)) (he:P.underlying e=some (.int .i64)) (hc:P.cellsOf e=1)
  (h:DataW.trod enc P w 0 spare held fuel t [v]=some x) :
  ∃ (A:Option Addr) (cap:Nat) (zs:List Int),v=.slice A zs.length cap∧(A=none→cap=0)∧zs.length≤cap∧zs.length≤maxLen∧Aj w w.heap.size A (CR zs)∧(∀ z∈zs,-9223372036854775808≤z∧z≤9223372036854775807):=by
 obtain ⟨A,cap,zs,hv,h1,h2,h3,h4⟩:=Vs ht he hc h
 refine ⟨A,cap,zs,hv,fun hA=>?_,h1,h2,h3,h4⟩
 subst hA hv
 rcases open_slice ht h with ⟨hcs,_⟩|⟨a,len,cap',m,n,D,Pl,hcs,_⟩
 ·simp at hcs
  exact hcs.2
 ·simp at hcs
end
theorem Ye {e n:Nat} {xs:List Value} (h:w.ownsRow base e 1 (.slice (some ⟨g,0,none⟩) n n) n xs):BQ w g xs e:=by
 obtain ⟨hl,h2⟩:=h
 rcases h2 with ⟨h',_⟩|⟨g',cap',cur,h',hb,hg,hnc,hcm,hcs,htake⟩
 ·simp at h'
 ·simp only [Value.slice.injEq,Option.some.injEq,Addr.mk.injEq,and_true,true_and] at h'
  obtain ⟨rfl,rfl⟩:=h'
  rw [am (by simp;omega)] at htake
  unfold BQ
  rw [hg,←htake]
structure CF (g:Nat) (w w':World):Prop where
 os:w'.os=w.os
 tape:w'.tape=w.tape
 output:w'.output=w.output
 size:w.heap.size≤w'.heap.size
 block:∀ k,k<w.heap.size→k≠g→w'.heap[k]?=w.heap[k]?
theorem CF.refl (g:Nat) (w:World):CF g w w:=⟨rfl,rfl,rfl,aa _,fun _ _ _=>rfl⟩
theorem CF.trans {a b c:World} (h:CF g a b) (k:CF g b c):CF g a c :=
 ⟨k.os.trans h.os,k.tape.trans h.tape,k.output.trans h.output,lT h.size k.size,fun i hi hg=>(k.block i (au hi h.size) hg).trans (h.block i hi hg)⟩
theorem CF.of (h:Below w.heap.size w w'):CF g w w':=⟨h.os,h.tape,h.output,h.size,fun k hk _=>h.block k hk⟩
theorem CF.below (h:CF g w w') (hg:m≤g) (hm:m≤w.heap.size):Below m w w' :=
 ⟨h.os,h.tape,h.output,h.size,fun k hk=>h.block k (au hk hm) (by omega)⟩
theorem CF.set (u:Value):CF g w (w.setCell ⟨g,j,none⟩ u):=by
 have h:Below g w (w.setCell ⟨g,j,none⟩ u):=(ah g w).setCell (aa _) u
 refine ⟨h.os,h.tape,h.output,h.size,fun k hk hg=>?_⟩
 show (w.heap.modify g _)[k]?=w.heap[k]?
 rw [Array.getElem?_modify]
 simp [Ne.symm hg]
theorem BQ.apart {b t:Nat} (h:BQ w b vs t) (ha:CF g w w') (hb:b≠g):BQ w' b vs t:=(ha.block b h.lt hb).trans h
theorem QB (l:List Bool) (i:Nat) (x:Bool):GS (l.set i x)=(GS l).set i (.bool x):=by simp [GS,gj]
theorem Ig (h:i<l.length):(GS l)[i]?=some (.bool (isM l i)):=by simp [GS,isM,h]
def AuJ (bs:List Bk) (over:Bool) (l:List Bool) (i g:Nat) (w:World) (e:Ending) (w':World):Prop :=
 e=.returned (.tuple #[])∧∃ l',GO bs over l i l'∧BQ w' g (GS l') 4∧CF g w w'
def AqT (bs:List Bk) (over:Bool) (l:List Bool) (i g:Nat) (w:World) (vs:List Value) (v:Value) (wr:World):Prop :=
 ∃ k l',k≤(BV bs over i).length∧v=.int .i64 ((k:Nat):Int)∧ED bs over l i k l'∧BQ wr g (GS l') 4∧BQ wr w.heap.size vs 26∧CF g w wr
theorem Aj.below2 {w3 wr:World} {A:Option Addr} {xs:List Value} (h:Aj w3 m A xs) (h3:CF g w w3) (hr:CF g w wr) (hm:m≤g) (hs:m≤w.heap.size):Aj wr m A xs:=fun hx=>by
 obtain ⟨b,off,hA,hbm,hbs,hc⟩:=h hx
 have hb:b<w.heap.size:=by omega
 refine ⟨b,off,hA,hbm,au hb hr.size,fun j u hu=>?_⟩
 rw [(hr.below hm hs).cell (p:=⟨b,off+j,none⟩) hbm,←(h3.below hm hs).cell (p:=⟨b,off+j,none⟩) hbm]
 exact hc j u hu
theorem Wn {bs:List Bk} {k:Nat} {x:Bk} (h:bs[k]?=some x) (hl:x.args.length≤1000000):(BV bs over k).length≤1000000:=by
 rw [GR h]
 split
 ·simp
 ·split
  ·simp
  ·exact hl
theorem ED.un {bs:List Bk} {l':List Bool} {k:Nat} (h:ED bs over l i k l') (hi:i<l.length) (hm:isM l i=false):unM l'<unM l:=by
 have h1:=TQ hi hm
 have h2:=Pk (m:=l.set i true) (m':=l') (by rw [h.len];simp) (fun j hj=>by
  rw [Ia hi] at hj
  simp at hj
  rcases hj with hj|hj
  ·exact h.mono j hj
  ·subst hj;exact h.self)
 omega
theorem AqU (h:p:=by
 go_wp2_with fail
 clear b1 z0 g0 g1 hi'
 go_loopw [39] (fun v wr=>AqT bs true l i g w [.slice A1 ps.length c1,.slice (some ⟨b,off,none⟩) bs.length c2,.slice A3 os.length c3] v wr) (fun v _=>(BV bs true i).length - (intOf v).toNat)
 case atStart=>exact ⟨0,l.set i true,af _,rfl,ED.start hil,R1.out,R0.out,P0.out⟩
 case round =>
  as_aux_lemma =>
   obtain ⟨k,l',hk,rfl,hmid,hrow,hbox,hap⟩:=hrel
   have HM2:=mi hmid
   have HR2:=mi hrow
   have HB2:=mi hbox
   have HP2:=mi hap
   have b0:wr.cell? ⟨w.heap.size,0,none⟩=some (.slice A1 ps.length c1):=hbox.cell 0
   have b1:wr.cell? ⟨w.heap.size,1,none⟩=some (.slice (some ⟨b,off,none⟩) bs.length c2):=hbox.cell 1
   have b2:wr.cell? ⟨w.heap.size,2,none⟩=some (.slice A3 os.length c3):=hbox.cell 2
   have z0:=hbox.lt
   clear hmid hrow hbox hap
   by_cases hlt:k<(BV bs true i).length
   ·have hbw:Below m w wr:=HP2.out.below hmg (by omega)
    obtain ⟨ab,ao,z,rfl,hab,hab2,hz,hzc⟩:=(Aj.below2 HC.out P0.out HP2.out hmg (by omega)).int_ hlt
    have hzb:=HOK.out i hi z (Fc (gM hz))
    obtain ⟨a,rfl⟩:=fh hzb.1
    have ha:a<bs.length:=by have:=hzb.2;omega
    have HZ:=mi hz
    have hun:unM l'<n:=by have:=HM2.out.un hil HM.out;have:=HUN.out;omega
    have HU:=mi hun
    have HLT:=mi hlt
    clear hzb hz hun
    go_wp2_with fail
    go_at_call 23
    refine (HI.out l' a wr HU.out (HM2.out.len.trans HL.out) ha (HD.out.below hbw (aa _)) HR2.out).mono ?_
    rintro e w5 ⟨rfl,l2,hp,hrow',hap'⟩
    have HP5:=mi hp
    have HR5:=mi hrow'
    have HA5:=mi hap'
    clear hp hrow' hap' b0 b1 b2 hzc
    go_wp2_with fail
    exact ⟨⟨k+1,l2,by omega,by go_num,HM2.out.step HZ.out HP5.out,HR5.out,HB2.out.apart HA5.out (by omega),HP2.out.trans HA5.out⟩,by simp [intOf];omega⟩
   ·go_wp2_with fail
    refine bodyPost_ret (v:=.tuple #[]) (by simp [results,results23,go_sem]) rfl ⟨rfl,l',HM2.out.done (by omega),HR2.out,HP2.out⟩):p:=h
theorem AhU (d:Dg) (m g:Nat) (over:Bool) (hmg:m≤g) (hok:Lk d.bs):∀ (n:Nat) (l:List Bool) (i:Nat) (w:World),unM l<n→l.length=d.bs.length→i<d.bs.length→AdU w m d→BQ w g (GS l) 4 →
  Calls prog 23 #[d.val,.slice (some ⟨g,0,none⟩) d.bs.length d.bs.length,.int .i64 (i:Int),.bool over] w (AuJ d.bs over l i g w):=by
 intro n
 induction n with
 | zero=>intro l i w hun;exact absurd hun (fm _)
 | succ n ih =>
  intro l i w hun hll hi hd hrow
  have hgl:=hrow.lt
  have hil:i<l.length:=by omega
  have h2:=hd.l2
  have f0:=hrow.free
  have f1:=hrow.cell i
  rw [Ig hil] at f1
  have HR:=mi hrow
  have HI:=mi ih
  have HD:=mi hd
  have HL:=mi hll
  have HOK:=mi hok
  have HUN:=mi hun
  clear hrow ih hok hll hun
  obtain ⟨A1,ps,c1,A2,bs,c2,A3,os,c3⟩:=d
  dsimp only at h2 hi HI HOK
  simp only [Dg.val] at HI ⊢
  cases hm:isM l i with
  | true =>
   have HM:=mi hm
   rw [hm] at f1
   clear hm hd
   go_enter func23,ntmps23
   go_wp2_with fail
   refine bodyPost_ret (v:=.tuple #[]) (by simp [results,results23,go_sem]) rfl ⟨rfl,l,GO.same HM.out,HR.out.call (al_ _ _),CF.of (al_ _ _)⟩
  | false =>
   have HM:=mi hm
   rw [hm] at f1
   clear hm hd
   have r0:=BQ.new_ (w.setCell ⟨g,i,none⟩ (.bool true)) [.slice A1 ps.length c1,.slice A2 bs.length c2,.slice A3 os.length c3] 26
   rw [show (w.setCell ⟨g,i,none⟩ (.bool true)).heap.size=w.heap.size by simp] at r0
   have r1:=(HR.out.set_ i (.bool true)).call (al_ _ (.cells #[.slice A1 ps.length c1,.slice A2 bs.length c2,.slice A3 os.length c3] 26))
   rw [←QB] at r1
   have p0:CF g w ((w.setCell ⟨g,i,none⟩ (.bool true)).alloc (.cells #[.slice A1 ps.length c1,.slice A2 bs.length c2,.slice A3 os.length c3] 26)):=(CF.set _).trans (CF.of (al_ _ _))
   go_enter func23,ntmps23
   go_wp2_with fail
   obtain ⟨W,hW⟩:∃ W,W=((w.setCell ⟨g,i,none⟩ (.bool true)).alloc (.cells #[.slice A1 ps.length c1,.slice A2 bs.length c2,.slice A3 os.length c3] 26)):=⟨_,rfl⟩
   have hWs:w.heap.size<W.heap.size:=by rw [hW];simp
   rw [←hW]
   rw [←hW] at r0 r1 p0
   clear hW f0 f1
   go_at_call 66
   refine (NJ ⟨A1,ps,c1,A2,bs,c2,A3,os,c3⟩ i m W (by omega) (HD.out.below (p0.below hmg (by omega)) (aa _)) hi).mono ?_
   rintro e w3 ⟨A,c,rfl,hc,hb3⟩
   dsimp only at hc ⊢
   replace r0:=r0.call hb3
   replace r1:=r1.call hb3
   replace p0:=p0.trans (CF.of hb3)
   have hs3:=hb3.size
   clear hb3
   have D3:=HD.out.below (p0.below hmg (by omega)) (aa _)
   obtain ⟨b,off,kind,KA,args,cap,vn,ve,un,ue,hA,hbm,hbs,hx,g0,g1,g2,g3,g4,g5,ha,hl⟩:=D3.blk hi
   dsimp only at hA hx
   subst hA
   have hln:(BV bs over i).length≤1000000:=Wn hx hl
   clear D3 hl g2 g3 g4 g5
   have b1:w3.cell? ⟨w.heap.size,1,none⟩=some (.slice (some ⟨b,off,none⟩) bs.length c2):=r0.cell 1
   have z0:=r0.lt
   have hi':(i:Int)<(bs.length:Int):=by omega
   have R0:=mi r0
   have R1:=mi r1
   have P0:=mi p0
   have HC:=mi hc
   have HA:=mi ha
   have HX:=mi hx
   clear r0 r1 p0 hc ha hx
   cases over with
   | false =>
    go_wp2_with fail
    clear b1 z0 g0 g1 hi'
    go_loopw [39] (fun v wr=>AqT bs false l i g w [.slice A1 ps.length c1,.slice (some ⟨b,off,none⟩) bs.length c2,.slice A3 os.length c3] v wr) (fun v _=>(BV bs false i).length - (intOf v).toNat)
    case atStart=>exact ⟨0,l.set i true,af _,rfl,ED.start hil,R1.out,R0.out,P0.out⟩
    case round =>
     as_aux_lemma =>
      obtain ⟨k,l',hk,rfl,hmid,hrow,hbox,hap⟩:=hrel
      have HM2:=mi hmid
      have HR2:=mi hrow
      have HB2:=mi hbox
      have HP2:=mi hap
      have b0:wr.cell? ⟨w.heap.size,0,none⟩=some (.slice A1 ps.length c1):=hbox.cell 0
      have b1:wr.cell? ⟨w.heap.size,1,none⟩=some (.slice (some ⟨b,off,none⟩) bs.length c2):=hbox.cell 1
      have b2:wr.cell? ⟨w.heap.size,2,none⟩=some (.slice A3 os.length c3):=hbox.cell 2
      have z0:=hbox.lt
      clear hmid hrow hbox hap
      by_cases hlt:k<(BV bs false i).length
      ·have hbw:Below m w wr:=HP2.out.below hmg (by omega)
       obtain ⟨ab,ao,z,rfl,hab,hab2,hz,hzc⟩:=(Aj.below2 HC.out P0.out HP2.out hmg (by omega)).int_ hlt
       have hzb:=HOK.out i hi z (Fc (gM hz))
       obtain ⟨a,rfl⟩:=fh hzb.1
       have ha:a<bs.length:=by have:=hzb.2;omega
       have HZ:=mi hz
       have hun:unM l'<n:=by have:=HM2.out.un hil HM.out;have:=HUN.out;omega
       have HU:=mi hun
       have HLT:=mi hlt
       clear hzb hz hun
       go_wp2_with fail
       go_at_call 23
       refine (HI.out l' a wr HU.out (HM2.out.len.trans HL.out) ha (HD.out.below hbw (aa _)) HR2.out).mono ?_
       rintro e w5 ⟨rfl,l2,hp,hrow',hap'⟩
       have HP5:=mi hp
       have HR5:=mi hrow'
       have HA5:=mi hap'
       clear hp hrow' hap' b0 b1 b2 hzc
       go_wp2_with fail
       exact ⟨⟨k+1,l2,by omega,by go_num,HM2.out.step HZ.out HP5.out,HR5.out,HB2.out.apart HA5.out (by omega),HP2.out.trans HA5.out⟩,by simp [intOf];omega⟩
      ·go_wp2_with fail
       refine bodyPost_ret (v:=.tuple #[]) (by simp [results,results23,go_sem]) rfl ⟨rfl,l',HM2.out.done (by omega),HR2.out,HP2.out⟩
   | true =>
    by_cases hk2:kind=2
    ·subst hk2
     have he:args=BV bs true i:=by
      rw [GR HX.out]
      simp
     have HC:=HA
     clear HX
     subst he
     exact AqU
    ·have he:BV bs false i=BV bs true i:=by
      rw [GR HX.out,GR HX.out]
      simp [hk2]
     have HE:=mi he
     have hkb:(kind == 2)=false:=by simpa using hk2
     rw [he]
     have HC:Hid (Aj w3 m A (CR (BV bs true i))):=by rw [←he];exact HC
     clear he hk2
     exact AqU
theorem Dv.call (h:Dv w base v xs) (hb:Below w.heap.size w w'):Dv w' base v xs:=h.below hb (fun g hg=>(World.ownsRow.lt h g hg).2)
theorem Cb (l:List Nat):(Br l).length=l.length:=by simp [Br]
theorem Ms (l:List Nat) (i:Nat):Br (l++[i])=Br l++[(i:Int)]:=by simp [Br]
theorem Yf (bs:List Bk) (out:List Nat) (i:Nat):rdy bs out i=(!Dd bs out i && (Hl bs i).all fun a=>Dd bs out a.toNat):=rfl
structure LM (bs:List Bk) (out:List Nat):Prop where
 ok:GN bs out
 more:Sq bs bs.length out=Bb bs
theorem LM.nil (bs:List Bk):LM bs []:=⟨GN.nil bs,rfl⟩
theorem LM.push {bs:List Bk} (h:LM bs out) (hn:nxt bs out=some i):LM bs (out++[i]):=by
 refine ⟨h.ok.push hn,?_⟩
 have h1:=We bs.length (bs.length+1) h.ok (by have:=HW bs;omega) (by omega)
 rw [←h.more,h1]
 show _=match nxt bs out with|none=>out|some i=>Sq bs bs.length (out++[i])
 rw [hn]
theorem LM.done {bs:List Bk} (h:LM bs out) (hn:nxt bs out=none):Bb bs=out:=by
 rw [←h.more]
 cases hb:bs.length with
 | zero=>rfl
 | succ f =>
  show (match nxt bs out with|none=>out|some i=>Sq bs f (out++[i]))=out
  rw [hn]
theorem LM.full {bs:List Bk} (h:LM bs out) (hf:Cy bs≤out.length):Bb bs=out:=by
 refine h.done ?_
 cases hn:nxt bs out with
 | none=>rfl
 | some i =>
  have:=(h.ok.push hn).le
  simp at this
  omega
theorem LM.lt {bs:List Bk} (h:LM bs out) (hn:nxt bs out=some i):out.length<Cy bs:=by
 have:=(h.ok.push hn).le
 simp at this
 omega
def Ahg (bs:List Bk) (out:List Nat) (xs:List Int) (t:Nat):Bool:=(xs.take t).all fun a=>Dd bs out a.toNat
theorem Wo {bs:List Bk} {t:Nat} (h:xs[t]?=some a):Ahg bs out xs (t+1)=(Ahg bs out xs t && Dd bs out a.toNat):=by
 unfold Ahg
 rw [ak,h,List.all_append]
 simp
theorem ZL {bs:List Bk} {t:Nat} (h:xs.length≤t):Ahg bs out xs t=xs.all fun a=>Dd bs out a.toNat:=by unfold Ahg;rw [am h]
theorem Wp:(prog.info? 4).map (fun i=>(i.zero,i.size,i.bytes))=some (some (.bool false),1,1):=by kernel_rfl
theorem QC:prog.underlying 80=some (.slice 4):=by kernel_rfl
def Db (bs:List Bk):Int:=if (Bb bs).length=Cy bs then 0 else 24
def AdW (bs:List Bk):List Int:=if Db bs=0 then Br (Bb bs) else []
def OrdP (bs:List Bk) (w:World) (e:Ending) (w':World):Prop:=∃ v,e=.returned (.tuple #[v,EK (Db bs)])∧Dv w' w.heap.size v (AdW bs)∧Below w.heap.size w w'
theorem Sw (n:Nat):(madeCells (Value.bool false).cells (n*1)).toList=GS (List.replicate n false):=by
 simp only [Value.cells,cz,GS,List.map_replicate]
 exact toList_madeCells_one _ _
theorem ZM (w:World) (o:Obj):(w.alloc o).heap.size=w.heap.size+1:=by simp
theorem Dv.setLow (h:Dv w base v xs) (hg:g<base) (j:Nat) (u:Value):Dv (w.setCell ⟨g,j,none⟩ u) base v xs:=by
 refine ⟨h.1,?_⟩
 rcases h.2 with hn|⟨g',cap,cur,he,hbg,hh,rest⟩
 ·exact .inl hn
 ·refine .inr ⟨g',cap,cur,he,hbg,?_,rest⟩
  rw [heap_setCell_other _ _ _ _ (by show g'≠g;omega)]
  exact hh
def Gw (bs:List Bk) (k:Nat):List Bool:=(List.range bs.length).map fun j=>decide (j<k) && DR bs j
def EE (bs:List Bk) (out:List Nat):List Bool:=(List.range bs.length).map (Dd bs out)
theorem QE (bs:List Bk) (k:Nat):(Gw bs k).length=bs.length:=by simp [Gw]
theorem Mt (bs:List Bk) (out:List Nat):(EE bs out).length=bs.length:=by simp [EE]
theorem QF {bs:List Bk} (h:j<bs.length):isM (EE bs out) j=Dd bs out j:=by simp [isM,EE,h]
theorem Sy (bs:List Bk):Gw bs 0=List.replicate bs.length false:=by
 refine gd (by simp [Gw]) fun i h1 h2=>?_
 simp [Gw]
theorem Wq (bs:List Bk):Gw bs bs.length=EE bs []:=by
 refine gd (by simp [Gw,EE]) fun i h1 h2=>?_
 have:i<bs.length:=by rw [QE] at h1;exact h1
 simp [Gw,EE,Dd,DR,this]
theorem Wr {bs:List Bk} {k:Nat} (hd:DR bs k=true):(Gw bs k).set k true=Gw bs (k+1):=by
 refine gd (by simp [Gw]) fun i h1 h2=>?_
 rw [List.getElem_set]
 simp only [Gw,ko,lr]
 by_cases h:k=i
 ·subst h;simp [hd]
 ·rw [if_neg h]
  congr 1
  exact decide_eq_decide.2 (by omega)
theorem ZN {bs:List Bk} {k:Nat} (hd:DR bs k=false):Gw bs (k+1)=Gw bs k:=by
 refine gd (by simp [Gw]) fun i h1 h2=>?_
 simp only [Gw,ko,lr]
 by_cases h:i=k
 ·subst h;simp [hd]
 ·congr 1
  exact decide_eq_decide.2 (by omega)
theorem Sz (bs:List Bk) (out:List Nat) (p:Nat):EE bs (out++[p])=(EE bs out).set p true:=by
 refine gd (by simp [EE]) fun i h1 h2=>?_
 rw [List.getElem_set]
 simp only [EE,ko,lr,Dd]
 by_cases h:p=i
 ·subst h;simp
 ·have h2:¬ i=p:=fun e=>h e.symm
  simp [h,h2]
def Gx (bs:List Bk) (i:Nat):Bool:=AQ bs i != 2
theorem SE (bs:List Bk):(fl (Gx bs) bs.length).length=Cy bs:=rfl
def GT (bs:List Bk) (out:List Nat) (k:Nat):Int:=match (List.range k).find? (rdy bs out) with|none => -1|some p=>(p:Int)
theorem Abz (bs:List Bk) (out:List Nat):GT bs out 0 = -1:=rfl
theorem Ws {bs:List Bk} {k:Nat} (hp:GT bs out k<0) (hr:rdy bs out k=true):GT bs out (k+1)=(k:Int):=by
 unfold GT at hp ⊢
 rw [cr,List.find?_append]
 cases h:(List.range k).find? (rdy bs out) with
 | none=>simp [hr]
 | some p=>rw [h] at hp;simp at hp;omega
theorem IP {bs:List Bk} {k:Nat} (h:0≤GT bs out k∨rdy bs out k=false):GT bs out (k+1)=GT bs out k:=by
 unfold GT at h ⊢
 rw [cr,List.find?_append]
 cases hf:(List.range k).find? (rdy bs out) with
 | none =>
  rw [hf] at h
  rcases h with h|h
  ·simp at h
  ·simp [h]
 | some p=>simp
theorem Yg (bs:List Bk) (out:List Nat) (k:Nat) : -1≤GT bs out k∧GT bs out k<(k:Int):=by
 unfold GT
 cases hf:(List.range k).find? (rdy bs out) with
 | none=>dsimp only;omega
 | some p =>
  have:=List.mem_of_find?_eq_some hf
  simp at this
  dsimp only
  omega
theorem Wt {bs:List Bk} (h:nxt bs out=none):GT bs out bs.length = -1:=by unfold GT;unfold nxt at h;rw [h]
theorem Wu {bs:List Bk} {p:Nat} (h:nxt bs out=some p):GT bs out bs.length=(p:Int):=by unfold GT;unfold nxt at h;rw [h]
theorem Wv {bs:List Bk} {k:Nat} (hd:Dd bs out k=false):rdy bs out k=(BV bs false k).all fun a=>Dd bs out a.toNat:=by
 rw [Yf,hd]
 have hk:AQ bs k≠2:=by
  unfold Dd at hd
  simp at hd
  exact hd.1
 unfold BV
 rw [if_neg (fun h=>hk h.1)]
 simp
def po1 (bs:List Bk) (w:World) (vs:List Value) (L i:Value) (wr:World):Prop :=
 ∃ k:Nat,k≤bs.length∧i=.int .i64 (k:Int)∧L=.int .i64 ((fl (Gx bs) k).length:Int)∧BQ wr (w.heap.size+1) (GS (Gw bs k)) 4∧BQ wr w.heap.size vs 26∧Below w.heap.size w wr
def po2 (bs:List Bk) (w:World) (vs:List Value) (v L:Value) (wr:World):Prop :=
 ∃ (outN:List Nat) (l:Nat),L=.int .i64 (l:Int)∧l+outN.length=Cy bs∧LM bs outN∧Dv wr (w.heap.size+2) v (Br outN)∧BQ wr (w.heap.size+1) (GS (EE bs outN)) 4∧BQ wr w.heap.size vs 26∧Below w.heap.size w wr
def po3 (bs:List Bk) (outN:List Nat) (w:World) (vs:List Value) (v p i:Value) (wr:World):Prop :=
 ∃ k:Nat,k≤bs.length∧i=.int .i64 (k:Int)∧p=.int .i64 (GT bs outN k)∧Dv wr (w.heap.size+2) v (Br outN)∧BQ wr (w.heap.size+1) (GS (EE bs outN)) 4∧BQ wr w.heap.size vs 26∧Below w.heap.size w wr
def po4F (w w5:World) (xs:List Int) (r i:Value) (wr:World):Prop:=∃ t:Nat,t≤xs.length∧i=.int .i64 (t:Int)∧r=.bool false∧wr=w5
def po4T (bs:List Bk) (outN:List Nat) (w w5:World) (xs:List Int) (r i:Value) (wr:World):Prop:=∃ t:Nat,t≤xs.length∧i=.int .i64 (t:Int)∧r=.bool (Ahg bs outN xs t)∧wr=w5
theorem AqV (h:p:=by
  clear hdn
  go_wp2_with fail
  go_at_call 66
  refine (NJ ⟨A1,ps,c1,A2,bs,c2,A3,os,c3⟩ k m wr (by have:=hb.size;omega) (HD.out.below hb hm) hkl).mono ?_
  rintro e w5 ⟨X,cx,rfl,hcx,hb5⟩
  dsimp only at hcx ⊢
  have hln:(BV bs false k).length≤1000000:=HLS.out
  have O5:=mi (HO.out.call hb5)
  have R5:=mi (HR.out.call hb5)
  have B5:=mi (HB.out.call hb5)
  have N5:=mi (hb.trans (hb5.mono hb.size))
  have HCX:=mi hcx
  clear hb5 hb b0 b1 b2 f0 fc z0 z1 hcx
  go_wp2_with fail
  go_loopw [11,58] (fun r i wr=>po4F w w5 (BV bs false k) r i wr) (fun _ i _=>(BV bs false k).length - (intOf i).toNat)
  case atStart=>exact ⟨0,af _,rfl,rfl,rfl⟩
  case round =>
    as_aux_lemma =>
      obtain ⟨t,ht,rfl,rfl,rfl⟩:=hrel
      by_cases hlt:t<(BV bs false k).length
      · obtain ⟨ab,ao,z,rfl,hab,hab2,hz,hzc⟩:=HCX.out.int_ hlt
        clear hz
        go_wp2_with fail
        exact ⟨⟨t+1,by omega,by go_num,rfl,rfl⟩,by simp [intOf];omega⟩
      · go_wp2_with fail
        first
          | exact ⟨⟨k+1,by omega,by go_num,by rw [HNO.out,HP.out],O5.out,R5.out,B5.out,N5.out⟩,by simp [intOf];omega⟩
          | (refine ⟨?_,by simp [intOf];omega⟩
             repeat apply Exists.intro
             exact ⟨⟨k+1,by omega,by go_num,by rw [HNO.out,HP.out],O5.out,R5.out,B5.out,N5.out⟩,rfl⟩)):p:=h
theorem AdX (d:Dg) (m:Nat) (w:World) (hm:m≤w.heap.size) (hd:AdU w m d) (hok:Lk d.bs) :
  Calls prog 65 #[d.val] w (OrdP d.bs w):=by
 have h2:=hd.l2
 have HD:=mi hd
 have HOK:=mi hok
 clear hok hd
 obtain ⟨A1,ps,c1,A2,bs,c2,A3,os,c3⟩:=d
 dsimp only at h2 HOK
 simp only [Dg.val]
 have r0:=BQ.new_ w [.slice A1 ps.length c1,.slice A2 bs.length c2,.slice A3 os.length c3] 26
 have hnd:=HW bs
 obtain ⟨i0,hi,hz0,hz1,hz2⟩:=info_parts Wp
 go_enter func65,ntmps65
 go_wp2_with (with_reducible refine wpList_make_full _ rfl (.tmp 16) (.tmp 16) 80 rfl (w.heap.size+1) 4 i0 (.bool false) 1 QC hi hz0 hz1 .i64 .i64 bs.length bs.length bs.length rfl rfl rfl rfl (by rw [hz2];omega) (by unfold maxLen;omega) (by simp) ?_;intro w2 hown hg;have hst:Below (w.heap.size+1) (w.alloc (.cells #[.slice A1 ps.length c1,.slice A2 bs.length c2,.slice A3 os.length c3] 26)) w2:=(ah _ _).grown hg (by simp) (fun k h=>by simp at h);obtain ⟨hc,hf,hs,hz'⟩:=Zo (m:=w.heap.size+1) hst (by simp) (by simp))
 have hrow:=Ye hown
 rw [Sw,←Sy] at hrow
 simp only [ZM] at hrow
 replace r0:=r0.below hst (by omega)
 have hb2:Below w.heap.size w w2:=(al_ _ _).trans (hst.mono (by omega))
 clear hown hc hf hs hz' hg hst
 go_loopw [6,21] (fun L i wr=>po1 bs w [.slice A1 ps.length c1,.slice A2 bs.length c2,.slice A3 os.length c3] L i wr) (fun _ i _=>bs.length - (intOf i).toNat)
 case atStart=>exact ⟨0,af _,rfl,rfl,hrow,r0,hb2⟩
 case round =>
  as_aux_lemma =>
   clear hrow r0 hb2
   obtain ⟨k,hk,rfl,rfl,hrow,hbox,hb⟩:=hrel
   have HR:=mi hrow
   have HB:=mi hbox
   have f0:=hrow.free
   have z1:=hrow.lt
   have z0:=hbox.lt
   clear hrow hbox
   by_cases hkl:k<bs.length
   ·obtain ⟨b,off,kind,KA,args,cap,vn,ve,un,ue,hA,hbm,hbs,hx,g0,g1,g2,g3,g4,g5,ha,hl⟩:=(HD.out.below hb hm).blk hkl
    dsimp only at hA hx
    subst hA
    have HX:=mi (Fe hx)
    dsimp only at HX
    have fc:wr.cell? ⟨w.heap.size+1,k,none⟩=some (.bool (isM (Gw bs k) k)):=by
     rw [HR.out.cell,Ig (by rw [QE];exact hkl)]
    have hki:(k:Int)<(bs.length:Int):=by omega
    have hfl:=AhR (Gx bs) k
    clear hx ha hl
    by_cases hk2:kind=2
    ·subst hk2
     have HT:Hid (DR bs k=true):=by unfold DR;rw [HX.out];exact mi rfl
     have HT2:Hid (Gx bs k=false):=by unfold Gx;rw [HX.out];exact mi rfl
     go_wp2_with fail
     exact ⟨⟨k+1,by omega,by go_num,by rw [AhQ HT2.out],by rw [←Wr HT.out,QB];exact (HR.out.set_ k (.bool true)).call (al_ _ _),(HB.out.other_ (by omega) k (.bool true)).call (al_ _ _),Au (AcU hb (by simp) _) _⟩,by simp [intOf];omega⟩
    ·have hkb:(kind == 2)=false:=by simpa using hk2
     have HT:Hid (DR bs k=false):=by unfold DR;rw [HX.out];exact mi hkb
     have HT2:Hid (Gx bs k=true):=by unfold Gx;rw [HX.out];exact mi (by simpa using hk2)
     clear hk2
     go_wp2_with fail
     exact ⟨⟨k+1,by omega,by go_num,by rw [ZJ HT2.out,aq];go_num,by rw [ZN HT.out];exact HR.out.call (al_ _ _),HB.out.call (al_ _ _),Au hb _⟩,by simp [intOf];omega⟩
   ·have hkn:k=bs.length:=by omega
    subst hkn
    clear hk hkl f0
    rw [SE]
    rw [Wq] at HR
    go_wp2_with fail
    obtain ⟨w3,hw3⟩:∃ w3,w3=wr:=⟨_,rfl⟩
    rw [←hw3] at HR HB hb
    rw [←hw3]
    clear hw3 z0 z1
    go_loopw [4,6] (fun v L wr=>po2 bs w [.slice A1 ps.length c1,.slice A2 bs.length c2,.slice A3 os.length c3] v L wr) (fun _ L _=>(intOf L).toNat)
    case atStart=>exact ⟨[],Cy bs,rfl,rfl,LM.nil _,Dv.nil_ _ _,HR.out,HB.out,hb⟩
    case round =>
     as_aux_lemma =>
      clear HR HB hb
      obtain ⟨outN,l,rfl,hlen,hord,hown,hrow,hbox,hb⟩:=hrel
      have HLN:=mi hlen
      have hl1:(l:Int)≤1000000:=by omega
      obtain ⟨A,c,rfl,hAc,_⟩:=hown.view
      have HO:=mi hown
      have HR:=mi hrow
      have HB:=mi hbox
      have HORD:=mi hord
      have b1:wr.cell? ⟨w.heap.size,1,none⟩=some (.slice A2 bs.length c2):=hbox.cell 1
      have z1:=hrow.lt
      have z0:=hbox.lt
      clear hown hrow hbox hord hlen hAc
      by_cases hl0:l=0
      ·have hfull:=HORD.out.full (by have:=HLN.out;omega)
       have HF:=mi hfull
       subst hl0
       clear hfull
       go_wp2_with fail
       have he:Db bs=0:=by unfold Db;rw [HF.out,if_pos (by have:=HLN.out;omega)]
       have hv:AdW bs=Br outN:=by unfold AdW;rw [if_pos he,HF.out]
       refine bodyPost_ret (v:=.tuple #[.slice A (Br outN).length c,.nilIface]) (by simp [results,results65,go_sem]) rfl ⟨_,by rw [he];rfl,by rw [hv];exact HO.out.base_ (by omega),hb⟩
      ·obtain ⟨l',rfl⟩:∃ l',l=l'+1:=⟨l - 1,by omega⟩
       have hl2:(l':Int)≤999999:=by omega
       clear hl0 hl1
       have hl3:(0:Int)<((l'+1:Nat):Int):=by omega
       go_wp2_with fail
       clear b1 z0 z1 hl3
       obtain ⟨w4,hw4⟩:∃ w4,w4=wr:=⟨_,rfl⟩
       rw [←hw4] at HO HR HB hb
       rw [←hw4]
       clear hw4
       go_loopw [9,42] (fun p i wr=>po3 bs outN w [.slice A1 ps.length c1,.slice A2 bs.length c2,.slice A3 os.length c3] (.slice A (Br outN).length c) p i wr) (fun _ i _=>bs.length - (intOf i).toNat)
       case atStart=>exact ⟨0,af _,rfl,rfl,HO.out,HR.out,HB.out,hb⟩
       case round =>
        as_aux_lemma =>
         clear HR HB hb HO
         obtain ⟨k,hk,rfl,hp,hown,hrow,hbox,hb⟩:=hrel
         have HO:=mi hown
         have HR:=mi hrow
         have HB:=mi hbox
         have b0:wr.cell? ⟨w.heap.size,0,none⟩=some (.slice A1 ps.length c1):=hbox.cell 0
         have b1:wr.cell? ⟨w.heap.size,1,none⟩=some (.slice A2 bs.length c2):=hbox.cell 1
         have b2:wr.cell? ⟨w.heap.size,2,none⟩=some (.slice A3 os.length c3):=hbox.cell 2
         have f0:=hrow.free
         have z1:=hrow.lt
         have z0:=hbox.lt
         clear hown hrow hbox
         by_cases hkl:k<bs.length
         ·subst hp
          have fc:wr.cell? ⟨w.heap.size+1,k,none⟩=some (.bool (Dd bs outN k)):=by
           rw [HR.out.cell,Ig (by rw [Mt];exact hkl),QF hkl]
          have hki:(k:Int)<(bs.length:Int):=by omega
          have hpr:=Yg bs outN k
          obtain ⟨P,hP⟩:∃ P,P=GT bs outN k:=⟨_,rfl⟩
          rw [←hP] at hpr
          rw [←hP]
          have HP:=mi hP
          clear hP
          have hls:(BV bs false k).length≤1000000:=by
           obtain ⟨_,_,_,_,_,_,_,_,_,_,_,_,_,hx,_,_,_,_,_,_,_,hl⟩:=HD.out.blk hkl
           exact Wn hx hl
          have HLS:=mi hls
          clear hls
          cases hdn:Dd bs outN k with
          | true =>
           rw [hdn] at fc
           have HNO:=mi (IP (bs:=bs) (out:=outN) (k:=k) (.inr (by rw [Yf,hdn];rfl)))
           exact AqV
          | false =>
           rw [hdn] at fc
           by_cases hpn:P<0
           ·have HRD:=mi (Wv hdn)
            clear hdn
            go_wp2_with fail
            go_at_call 66
            refine (NJ ⟨A1,ps,c1,A2,bs,c2,A3,os,c3⟩ k m wr (by have:=hb.size;omega) (HD.out.below hb hm) hkl).mono ?_
            rintro e w5 ⟨X,cx,rfl,hcx,hb5⟩
            dsimp only at hcx ⊢
            have hln:(BV bs false k).length≤1000000:=HLS.out
            have O5:=mi (HO.out.call hb5)
            have R5:=mi (HR.out.call hb5)
            have B5:=mi (HB.out.call hb5)
            have N5:=mi (hb.trans (hb5.mono hb.size))
            have HCX:=mi hcx
            clear hb5 hb b0 b1 b2 f0 fc z0 z1 hcx
            go_wp2_with fail
            go_loopw [11,58] (fun r i wr=>po4T bs outN w w5 (BV bs false k) r i wr) (fun _ i _=>(BV bs false k).length - (intOf i).toNat)
            case atStart=>exact ⟨0,af _,rfl,rfl,rfl⟩
            case round =>
             as_aux_lemma =>
              obtain ⟨t,ht,rfl,rfl,rfl⟩:=hrel
              by_cases hlt:t<(BV bs false k).length
              ·obtain ⟨ab,ao,z,rfl,hab,hab2,hz,hzc⟩:=HCX.out.int_ hlt
               have hzb:=HOK.out k hkl z (Fc (gM hz))
               obtain ⟨a,rfl⟩:=fh hzb.1
               have ha:a<bs.length:=by have:=hzb.2;omega
               have hai:(a:Int)<(bs.length:Int):=by omega
               have HZ:=mi (Wo (bs:=bs) (out:=outN) hz)
               clear hz hzb
               have fd:wr.cell? ⟨w.heap.size+1,a,none⟩=some (.bool (Dd bs outN a)):=by
                rw [R5.out.cell,Ig (by rw [Mt];exact ha),QF ha]
               have z1:=R5.out.lt
               cases hr:Ahg bs outN (BV bs false k) t with
               | false =>
                have HRT:=mi hr
                clear hr
                go_wp2_with fail
                exact ⟨⟨t+1,by omega,by go_num,by rw [HZ.out,HRT.out];rfl,rfl⟩,by simp [intOf];omega⟩
               | true =>
                have HRT:=mi hr
                clear hr
                go_wp2_with fail
                exact ⟨⟨t+1,by omega,by go_num,by rw [HZ.out,HRT.out,ar];rfl,rfl⟩,by simp [intOf];omega⟩
              ·have hrd:rdy bs outN k=Ahg bs outN (BV bs false k) t:=by
                rw [HRD.out,ZL (by omega)]
               cases hr:Ahg bs outN (BV bs false k) t with
               | true =>
                have HNX:=mi (Ws (by rw [←HP.out];exact hpn) (hrd.trans hr))
                clear hr hrd
                go_wp2_with fail
                exact ⟨⟨k+1,by omega,by go_num,by rw [HNX.out],O5.out,R5.out,B5.out,N5.out⟩,by simp [intOf];omega⟩
               | false =>
                have HNO:=mi (IP (.inr (hrd.trans hr)))
                clear hr hrd
                go_wp2_with fail
                exact ⟨⟨k+1,by omega,by go_num,by rw [HNO.out,HP.out],O5.out,R5.out,B5.out,N5.out⟩,by simp [intOf];omega⟩
           ·have HNO:=mi (IP (bs:=bs) (out:=outN) (k:=k) (.inl (by rw [←HP.out];omega)))
            exact AqV
         ·have hkn:k=bs.length:=by omega
          subst hkn
          clear hk hkl
          cases hn:nxt bs outN with
          | none =>
           rw [Wt hn] at hp
           subst hp
           have HF:=mi (HORD.out.done hn)
           clear hn
           go_wp2_with fail
           have he:Db bs=24:=by unfold Db;rw [HF.out,if_neg (by have:=HLN.out;omega)]
           have hv:AdW bs=[]:=by unfold AdW;rw [he];rfl
           refine bodyPost_ret (v:=.tuple #[.slice none 0 0,.iface 85 (.int .i64 24)]) (by simp [results,results65,go_sem]) rfl ⟨_,by rw [he];rfl,by rw [hv];exact Dv.nil_ _ _,hb⟩
          | some q =>
           rw [Wu hn] at hp
           subst hp
           have hq:=(Mr hn).1
           have hqi:(q:Int)<(bs.length:Int):=by omega
           have hlo:=HORD.out.lt hn
           have HN:=mi hn
           clear hn
           have fc:wr.cell? ⟨w.heap.size+1,q,none⟩=some (.bool (Dd bs outN q)):=by
            rw [HR.out.cell,Ig (by rw [Mt];exact hq),QF hq]
           have hlt7:(Br outN).length<1000000:=by rw [Cb];omega
           have hbz:=hb.size
           go_wp2_with (at_builtin;refine Pm rfl _ _ rfl (w.heap.size+2) _ (Br outN) (q:Int) wr.heap.size rfl ((HO.out.setLow (by omega) q (.bool true)).alloc _) rfl (by simp [go_sem]) hlt7 (by simp;omega) ?_;intro v' w6 hown hg hb6)
           have hst:Below (w.heap.size+2) ((wr.setCell ⟨w.heap.size+1,q,none⟩ (.bool true))) w6:=((ah _ _).alloc (by simp;omega) _).trans hb6
           have e1:l'+(outN++[q]).length=Cy bs:=by have:=HLN.out;simp;omega
           have e2:BQ w6 (w.heap.size+1) (GS (EE bs (outN++[q]))) 4:=by rw [Sz,QB];exact (HR.out.set_ q (.bool true)).below hst (by omega)
           have e3:=(HB.out.other_ (k:=w.heap.size+1) (by omega) q (.bool true)).below hst (by omega)
           have e4:Below w.heap.size w w6:=(AcU hb (p:=⟨w.heap.size+1,q,none⟩) (by simp) (.bool true)).trans (hst.mono (by omega))
           have e5:Dv w6 (w.heap.size+2) v' (Br (outN++[q])):=by rw [Ms];exact hown
           refine ⟨⟨outN++[q],l',?_,e1,HORD.out.push HN.out,e5,e2,e3,e4⟩,?_⟩
           ·go_num
           ·first|(simp [intOf];done)|(simp [intOf];omega)
def Ll (n:Nat) (a:Int):Int:=if 0≤a∧a<(n:Int) then 0 else 10
def Hm (k:Int):Bool:=k == 11
def Ox (k:Int):Bool:=k == 11 || k == 1 || k == 2 || k == 6
def Cm (np nb:Nat) (k:Int):Nat:=if k=0 then np else nb
def Be (np nb:Nat) (b:Bk):Int :=
 if Ay b.kind<0 then 7 else if ¬ ((b.args.length:Nat):Int)=Ay b.kind then 11 else if ¬ Ai (b.args.map (Ll (Cm np nb b.kind)))=0 then 10
 else if ¬ Cl b.vn b.ve (Ox b.kind)=0 then Cl b.vn b.ve (Ox b.kind) else if ¬ Cl b.un b.ue (Hm b.kind)=0 then Cl b.un b.ue (Hm b.kind)
 else if Hm b.kind=true∧0<TR b.vn b.ve b.un b.ue then 26 else 0
section
variable {np nb:Nat} {b:Bk}
theorem be1 (h:Ay b.kind<0):Be np nb b=7:=if_pos h
theorem be2 (h:¬ Ay b.kind<0) (h2:¬ ((b.args.length:Nat):Int)=Ay b.kind):Be np nb b=11:=by unfold Be;rw [if_neg h,if_pos h2]
theorem be3 (h:¬ Ay b.kind<0) (h2:((b.args.length:Nat):Int)=Ay b.kind) {M:Nat} (hM:Cm np nb b.kind=M) (h3:¬ Ai (b.args.map (Ll M))=0):Be np nb b=10:=by
 subst hM;unfold Be;rw [if_neg h,if_neg (not_not_intro h2),if_pos h3]
theorem be4 (h:¬ Ay b.kind<0) (h2:((b.args.length:Nat):Int)=Ay b.kind) {M:Nat} (hM:Cm np nb b.kind=M) (h3:Ai (b.args.map (Ll M))=0) {vu:Bool} (hv:Ox b.kind=vu) (h4:¬ Cl b.vn b.ve vu=0):Be np nb b=Cl b.vn b.ve vu:=by
 subst hM hv;unfold Be;rw [if_neg h,if_neg (not_not_intro h2),if_neg (not_not_intro h3),if_pos h4]
theorem be5 (h:¬ Ay b.kind<0) (h2:((b.args.length:Nat):Int)=Ay b.kind) {M:Nat} (hM:Cm np nb b.kind=M) (h3:Ai (b.args.map (Ll M))=0) {vu cu:Bool} (hv:Ox b.kind=vu) (h4:Cl b.vn b.ve vu=0) (hc:Hm b.kind=cu)
  (h5:¬ Cl b.un b.ue cu=0):Be np nb b=Cl b.un b.ue cu:=by
 subst hM hv hc;unfold Be;rw [if_neg h,if_neg (not_not_intro h2),if_neg (not_not_intro h3),if_neg (not_not_intro h4),if_pos h5]
theorem be6 (h:¬ Ay b.kind<0) (h2:((b.args.length:Nat):Int)=Ay b.kind) {M:Nat} (hM:Cm np nb b.kind=M) (h3:Ai (b.args.map (Ll M))=0) {vu cu:Bool} (hv:Ox b.kind=vu) (h4:Cl b.vn b.ve vu=0) (hc:Hm b.kind=cu)
  (h5:Cl b.un b.ue cu=0) (h6:cu=true∧0<TR b.vn b.ve b.un b.ue):Be np nb b=26:=by
 subst hM hv hc;unfold Be;rw [if_neg h,if_neg (not_not_intro h2),if_neg (not_not_intro h3),if_neg (not_not_intro h4),if_neg (not_not_intro h5),if_pos h6]
theorem be7 (h:¬ Ay b.kind<0) (h2:((b.args.length:Nat):Int)=Ay b.kind) {M:Nat} (hM:Cm np nb b.kind=M) (h3:Ai (b.args.map (Ll M))=0) {vu cu:Bool} (hv:Ox b.kind=vu) (h4:Cl b.vn b.ve vu=0) (hc:Hm b.kind=cu)
  (h5:Cl b.un b.ue cu=0) (h6:¬ (cu=true∧0<TR b.vn b.ve b.un b.ue)):Be np nb b=0:=by
 subst hM hv hc;unfold Be;rw [if_neg h,if_neg (not_not_intro h2),if_neg (not_not_intro h3),if_neg (not_not_intro h4),if_neg (not_not_intro h5),if_neg h6]
end
theorem QG (h:Cl n e true=0):DA n e:=by
 unfold Cl at h
 rw [if_pos rfl] at h
 by_cases hs:DA n e
 ·exact hs
 ·rw [if_neg hs] at h;cases h
theorem DH {args:List Int} {M t:Nat} {z:Int} (hz:args[t]?=some z) (hb:¬ (0≤z∧z<(M:Int))) (hf:Ai ((args.map (Ll M)).take t)=0):¬ Ai (args.map (Ll M))=0:=by
 rw [Zq (k:=t) (e:=10) (by rw [ag,hz];exact congrArg some (if_neg hb)) (by decide) hf]
 decide
theorem GU {args:List Int} {M t:Nat} {z:Int} (hz:args[t]?=some z) (hb:0≤z∧z<(M:Int)) (hf:Ai ((args.map (Ll M)).take t)=0):Ai ((args.map (Ll M)).take (t+1))=0 :=
 Ng (by rw [ag,hz];exact congrArg some (if_pos hb)) hf
structure KP (W:World) (m:Nat) (w:World):Prop where
 is:Below m W w
 fits:m≤w.heap.size
theorem KP.drew (h:KP W m w):KP W m w.drew:=⟨h.is.drew,h.fits⟩
theorem KP.call (h:KP W m w) (hb:Below w.heap.size w w'):KP W m w':=⟨h.is.trans (hb.mono h.fits),lT h.fits hb.size⟩
theorem KP.all (h:KP W m w):(∀ b o,b<m→w.cell? ⟨b,o,none⟩=W.cell? ⟨b,o,none⟩)∧KP W m w:=⟨fun _ _ hb=>h.is.cell hb,h⟩
def SF (args:List Int) (M:Nat) (W:World) (i:Value) (wr:World):Prop:=∃ t:Nat,t≤args.length∧i=.int .i64 (t:Int)∧Ai ((args.map (Ll M)).take t)=0∧wr=W
def DI (p:Prt):Int:=if -2147483648≤p.lo∧p.lo≤p.hi∧p.hi<2147483648∧0≤p.fr∧p.fr≤30 then 0 else 3
def CT (ps:List Prt) (bs:List Bk) (os:List Int):Prop:=ps.length≤16∧bs.length≤64∧os.length≤16
def Dc (ps:List Prt) (bs:List Bk) (os:List Int):Int:=Ai (ps.map DI++(bs.map (Be ps.length bs.length)++os.map (Ll bs.length)))
instance (ps:List Prt) (bs:List Bk) (os:List Int):Decidable (CT ps bs os):=by unfold CT;infer_instance
def Av (ps:List Prt) (bs:List Bk) (os:List Int):Int:=if ¬ CT ps bs os then 4 else if ¬ Dc ps bs os=0 then Dc ps bs os else Db bs
theorem BH {l:List Int} (h:Ai l=0):∀ x∈l,x=0:=by
 induction l with
 | nil=>simp
 | cons y l ih =>
  unfold Ai at h
  by_cases hy:y=0
  ·rw [if_pos hy] at h
   intro x hx
   rcases List.mem_cons.1 hx with rfl|hx
   ·exact hy
   ·exact ih h x hx
  ·rw [if_neg hy] at h
   exact absurd h hy
theorem Pn {np nb:Nat} {b:Bk} (h:Be np nb b=0):0≤Ay b.kind∧((b.args.length:Nat):Int)=Ay b.kind∧∀ a∈b.args,0≤a∧a<(Cm np nb b.kind:Int):=by
 unfold Be at h
 by_cases h1:Ay b.kind<0
 ·rw [if_pos h1] at h;cases h
 ·rw [if_neg h1] at h
  by_cases h2:¬ ((b.args.length:Nat):Int)=Ay b.kind
  ·rw [if_pos h2] at h;cases h
  ·rw [if_neg h2] at h
   by_cases h3:¬ Ai (b.args.map (Ll (Cm np nb b.kind)))=0
   ·rw [if_pos h3] at h;cases h
   ·refine ⟨by omega,Decidable.of_not_not h2,fun a ha=>?_⟩
    have:=BH (Decidable.of_not_not h3) (Ll (Cm np nb b.kind) a) (fo ha)
    unfold Ll at this
    by_cases h4:0≤a∧a<(Cm np nb b.kind:Int)
    ·exact h4
    ·rw [if_neg h4] at this;cases this
theorem TV {np:Nat} {bs:List Bk} (h:Ai (bs.map (Be np bs.length))=0):Lk bs:=by
 intro i hi a ha
 have hx:=gE hi
 rw [IO hx] at ha
 by_cases hk:bs[i].kind=0
 ·rw [if_pos hk] at ha;cases ha
 ·rw [if_neg hk] at ha
  have h0:=BH h (Be np bs.length bs[i]) (fo (ff hi))
  have:=(Pn h0).2.2 a ha
  unfold Cm at this
  rw [if_neg hk] at this
  exact this
section
variable {ps:List Prt} {bs:List Bk} {os:List Int}
theorem de0 (h:¬ CT ps bs os):Av ps bs os=4:=if_pos h
theorem de1 (h:CT ps bs os) {e:Int} (h2:Dc ps bs os=e) (h3:¬ e=0):Av ps bs os=e:=by subst h2;unfold Av;rw [if_neg (not_not_intro h),if_pos h3]
theorem de2 (h:CT ps bs os) (h2:Dc ps bs os=0):Av ps bs os=Db bs:=by unfold Av;rw [if_neg (not_not_intro h),if_neg (not_not_intro h2)]
theorem pe1 {k:Nat} {p:Prt} (hp:ps[k]?=some p) (he:DI p=e) (h0:¬ e=0) (hf:Ai ((ps.map DI).take k)=0):Dc ps bs os=e :=
 Vt (pre:=[]) (k:=k) rfl (by rw [ag,hp];exact congrArg some he) h0 hf
theorem pe2 {k:Nat} {b:Bk} (h1:Ai (ps.map DI)=0) (hp:bs[k]?=some b) (he:Be ps.length bs.length b=e) (h0:¬ e=0) (hf:Ai ((bs.map (Be ps.length bs.length)).take k)=0):Dc ps bs os=e :=
 Vt h1 (k:=k) (by rw [ag,hp];exact congrArg some he) h0 hf
theorem pe3 {k:Nat} {o:Int} (h1:Ai (ps.map DI)=0) (h2:Ai (bs.map (Be ps.length bs.length))=0) (hp:os[k]?=some o) (he:Ll bs.length o=e) (h0:¬ e=0) (hf:Ai ((os.map (Ll bs.length)).take k)=0):Dc ps bs os=e:=by
 unfold Dc
 rw [Aw,if_pos h1,Aw,if_pos h2]
 exact Zq (k:=k) (by rw [ag,hp];exact congrArg some he) h0 hf
theorem pe4 (h1:Ai (ps.map DI)=0) (h2:Ai (bs.map (Be ps.length bs.length))=0) (h3:Ai (os.map (Ll bs.length))=0):Dc ps bs os=0:=by
 unfold Dc
 rw [Aw,if_pos h1,Aw,if_pos h2,h3]
theorem fs1 {α:Type} {l:List α} {f:α→Int} {k:Nat} {x:α} (hx:l[k]?=some x) (he:f x=0) (hf:Ai ((l.map f).take k)=0):Ai ((l.map f).take (k+1))=0:=Ng (by rw [ag,hx];exact congrArg some he) hf
end
def AmP (w:World) (vs:List Value) (es:List Int) (i:Value) (wr:World):Prop :=
 ∃ k:Nat,k≤es.length∧i=.int .i64 (k:Int)∧Ai (es.take k)=0∧BQ wr w.heap.size vs 26∧Below w.heap.size w wr
theorem AdY (h:DA n e):(Ad (Ac n 0 e).1.natAbs).length≤50000:=by
 obtain ⟨h1,h2,h3,h4⟩:=h
 unfold Ac
 split
 ·exact lT (Bt (Gm _ _)) (lT (AC (k:=1) (by omega)) (by decide))
 ·refine lT (Bt (Gm _ _)) ?_
  rw [XN]
  refine lT (BO _ _) ?_
  have:=AC (n:=n.natAbs) (k:=1) (by omega)
  omega
theorem AqW (h:p:=by
 go_enter func64,ntmps64
 go_wp2_with (go_at_call 152;refine (Fd _ _).mono ?_;rintro e w1 ⟨rfl,rfl⟩;rw [HKK.out])
 go_ret
 exact ⟨AcM HE.out (by decide),b0⟩):p:=h
theorem AdZ (d:Dg) (b:Bk) (w:World) (h:¬ (0≤Ay b.kind∧((b.args.length:Nat):Int)=Ay b.kind)) (hl:b.args.length≤1000000) :
  Calls prog 64 #[d.val,b.val] w fun e w'=>e=.returned (EK (Be d.ps.length d.bs.length b))∧Below w.heap.size w w':=by
 obtain ⟨A1,ps,c1,A2,bs,c2,A3,os,c3⟩:=d
 obtain ⟨kind,A,args,cap,vn,ve,un,ue⟩:=b
 dsimp only at h hl
 simp only [Dg.val,Bk.val]
 have b0:Below w.heap.size w ((w.alloc (.cells #[.slice A1 ps.length c1,.slice A2 bs.length c2,.slice A3 os.length c3] 26)).alloc (.cells #[.int .i64 kind,.slice A args.length cap,.int .i64 vn,.int .i64 ve,.int .i64 un,.int .i64 ue] 65)):=Au (al_ _ _) _
 obtain ⟨K,hK⟩:∃ K,Ay kind=K:=⟨_,rfl⟩
 have HKK:=mi hK
 by_cases hk0:K<0
 ·have HE:=mi (be1 (np:=ps.length) (nb:=bs.length) (b:=⟨kind,A,args,cap,vn,ve,un,ue⟩) (by show Ay kind<0;omega))
  clear h hK
  exact AqW
 ·have HE:=mi (be2 (np:=ps.length) (nb:=bs.length) (b:=⟨kind,A,args,cap,vn,ve,un,ue⟩) (by show ¬ Ay kind<0;omega) (fun h2=>h ⟨by omega,h2⟩))
  have hne:(((args.length:Nat):Int) != K)=true:=by
   rw [bne_iff_ne]
   intro h2
   exact h ⟨by omega,by omega⟩
  have hk1:0≤K:=by omega
  clear h hK hk0
  exact AqW
theorem Aea (h:p:=by
 clear h4
 go_wp2_with fail
 go_at_call 153
 refine (Du un ue false w5).mono ?_
 rintro e w6 ⟨rfl,hb6⟩
 have N6:=mi (N5.out.trans (hb6.mono (by omega)))
 have r6:=R5.out.call hb6
 have HT6:=mi (HT5.out.below (hb6.mono (B':=1) (by omega)) (by omega))
 have hz6:=hb6.size
 have z6:w.heap.size+1<w6.heap.size:=by omega
 have q2:w6.cell? ⟨w.heap.size+1,2,none⟩=some (.int .i64 vn):=r6.cell 2
 have q3:w6.cell? ⟨w.heap.size+1,3,none⟩=some (.int .i64 ve):=r6.cell 3
 have q6:w6.cell? ⟨w.heap.size+1,4,none⟩=some (.int .i64 un):=r6.cell 4
 have q7:w6.cell? ⟨w.heap.size+1,5,none⟩=some (.int .i64 ue):=r6.cell 5
 clear r6 hb6 q4 q5 z5
 by_cases h5:Cl un ue false=0
 ·rw [h5,Gj]
  have H5:=mi h5
  clear h5
  go_wp2_with fail
  go_quiet (fail)
  go_wp2_with fail
  go_ret
  exact ⟨AtV (HE7.out H4.out H5.out (fun h=>by cases h.1)),by repeat (first|exact N6.out|refine ext_drew ?_|refine Vr ?_ _)⟩
 ·have HE:=mi (HE5.out H4.out h5)
  rw [Mg h5]
  have H5:=mi h5
  clear h5
  go_wp2_with fail
  go_ret
  exact ⟨AcM HE.out H5.out,N6.out⟩):p:=h
theorem OT (h:p:=by
 go_ret
 exact ⟨AcM (k:=10) hE.out (by decide),HB0.out⟩):p:=h
theorem AbA (h:p:=by
 go_wp2_with fail
 all_goals try (exfalso;omega)
 exact ⟨⟨t+1,by omega,by go_num,HZ2.out,rfl⟩,by simp [intOf];omega⟩):p:=h
theorem AbB (h:p:=by
 rw [Mg h4]
 have H4:=mi h4
 clear h4
 go_wp2_with fail
 go_ret
 exact ⟨AcM HE.out H4.out,N5.out⟩):p:=h
theorem AmQ (A1:Option Addr) (ps:List Prt) (c1:Nat) (A2:Option Addr) (bs:List Bk) (c2:Nat) (A3:Option Addr) (os:List Int) (c3:Nat) (A:Option Addr) (args:List Int) (cap:Nat) (vn ve un ue:Int) (m:Nat) (w:World)
  (hk0:¬ Ay 0<0) (hk1:((args.length:Nat):Int)=Ay 0) (hl:args.length≤1000000) (hl1:ps.length≤1000000) (hl2:bs.length≤1000000) (hm:m≤w.heap.size) (ha:Aj w m A (CR args)) (ht:An w) :
  Calls prog 64 #[.agg #[.slice A1 ps.length c1,.slice A2 bs.length c2,.slice A3 os.length c3],.agg #[.int .i64 0,.slice A args.length cap,.int .i64 vn,.int .i64 ve,.int .i64 un,.int .i64 ue]] w fun e w'=>e=.returned (EK (Be ps.length bs.length ⟨0,A,args,cap,vn,ve,un,ue⟩))∧Below w.heap.size w w':=by
 have b0:Below w.heap.size w ((w.alloc (.cells #[.slice A1 ps.length c1,.slice A2 bs.length c2,.slice A3 os.length c3] 26)).alloc (.cells #[.int .i64 0,.slice A args.length cap,.int .i64 vn,.int .i64 ve,.int .i64 un,.int .i64 ue] 65)):=Au (al_ _ _) _
 have r0:=(BQ.new_ w [.slice A1 ps.length c1,.slice A2 bs.length c2,.slice A3 os.length c3] 26).call (al_ _ (.cells #[.int .i64 0,.slice A args.length cap,.int .i64 vn,.int .i64 ve,.int .i64 un,.int .i64 ue] 65))
 have r1:=BQ.new_ (w.alloc (.cells #[.slice A1 ps.length c1,.slice A2 bs.length c2,.slice A3 os.length c3] 26)) [.int .i64 0,.slice A args.length cap,.int .i64 vn,.int .i64 ve,.int .i64 un,.int .i64 ue] 65
 rw [show (w.alloc (.cells #[.slice A1 ps.length c1,.slice A2 bs.length c2,.slice A3 os.length c3] 26)).heap.size=w.heap.size+1 by simp] at r1
 have HT:=mi ht
 have HA:=mi ha
 have HK0:=mi hk0
 have HK1:=mi hk1
 obtain ⟨K,hK⟩:∃ K,Ay 0=K:=⟨_,rfl⟩
 have HKK:=mi hK
 have hne:(((args.length:Nat):Int) != K)=false:=by rw [hk1,hK];simp
 have hkk:0≤K:=by omega
 clear ht ha hk0 hk1 hK
 go_enter func64,ntmps64
 have HM:Hid (Cm ps.length bs.length 0=ps.length):=mi (rfl)
 have HV:Hid (Ox 0=false):=mi (by decide)
 have HU:Hid (Hm 0=false):=mi (by decide)
 go_wp2_with (go_at_call 152;refine (Fd _ _).mono ?_;rintro e w1 ⟨rfl,rfl⟩;rw [HKK.out])
 obtain ⟨W,hW⟩:∃ W,W=((w.alloc (.cells #[.slice A1 ps.length c1,.slice A2 bs.length c2,.slice A3 os.length c3] 26)).alloc (.cells #[.int .i64 0,.slice A args.length cap,.int .i64 vn,.int .i64 ve,.int .i64 un,.int .i64 ue] 65)):=⟨_,rfl⟩
 rw [←hW]
 rw [←hW] at r0 r1 b0
 have hWs:W.heap.size=w.heap.size+2:=by rw [hW];simp
 clear hW
 have HTW:=mi (HT.out.below b0 HT.out.1)
 have q0:W.cell? ⟨w.heap.size+1,0,none⟩=some (.int .i64 0):=r1.cell 0
 have q2:W.cell? ⟨w.heap.size+1,2,none⟩=some (.int .i64 vn):=r1.cell 2
 have q3:W.cell? ⟨w.heap.size+1,3,none⟩=some (.int .i64 ve):=r1.cell 3
 have HB0:=mi b0
 have R1:=mi r1
 have HA2:=mi (HA.out.below b0 hm)
 have hbs1:(W.heap.size:Int)=w.heap.size+2:=by omega
 clear r0 r1 b0
 go_loopw [36] (fun i wr=>SF args ps.length W i wr) (fun i _=>args.length - (intOf i).toNat)
 case atStart=>exact ⟨0,af _,rfl,rfl,rfl⟩
 case round =>
  as_aux_lemma =>
   obtain ⟨t,ht,rfl,hf,rfl⟩:=hrel
   have HF:=mi hf
   clear hf
   by_cases hlt:t<args.length
   ·obtain ⟨ab,ao,z,rfl,hab,hab2,hz,hzc⟩:=HA2.out.int_ hlt
    have HZ:=mi hz
    clear hz
    by_cases h0:z<0
    ·have hE:=mi (be3 (np:=ps.length) (nb:=bs.length) (b:=⟨0,some ⟨ab,ao,none⟩,args,cap,vn,ve,un,ue⟩) (Int.not_lt.2 HK0.out) HK1.out HM.out (DH HZ.out (by omega) HF.out))
     go_wp2_with fail
     exact OT
    ·have h1:0≤z:=by omega
     clear h0
     by_cases h2:z<(ps.length:Int)
     ·have HZ2:=mi (GU HZ.out ⟨h1,h2⟩ HF.out)
      exact AbA
     ·have hE:=mi (be3 (np:=ps.length) (nb:=bs.length) (b:=⟨0,some ⟨ab,ao,none⟩,args,cap,vn,ve,un,ue⟩) (Int.not_lt.2 HK0.out) HK1.out HM.out (DH HZ.out (by omega) HF.out))
      have h3:(ps.length:Int)≤z:=by omega
      clear h2
      go_wp2_with fail
      all_goals try (exfalso;omega)
      exact OT
   ·have P1:=mi (Gi (k:=t) (by rw [ad];omega) HF.out)
    clear HF
    have hE4:=fun h=>be4 (np:=ps.length) (nb:=bs.length) (b:=⟨0,A,args,cap,vn,ve,un,ue⟩) (Int.not_lt.2 HK0.out) HK1.out HM.out P1.out HV.out h
    have hE5:=fun h4 h=>be5 (np:=ps.length) (nb:=bs.length) (b:=⟨0,A,args,cap,vn,ve,un,ue⟩) (Int.not_lt.2 HK0.out) HK1.out HM.out P1.out HV.out h4 HU.out h
    have hE6:=fun h4 h5 h=>be6 (np:=ps.length) (nb:=bs.length) (b:=⟨0,A,args,cap,vn,ve,un,ue⟩) (Int.not_lt.2 HK0.out) HK1.out HM.out P1.out HV.out h4 HU.out h5 h
    have hE7:=fun h4 h5 h=>be7 (np:=ps.length) (nb:=bs.length) (b:=⟨0,A,args,cap,vn,ve,un,ue⟩) (Int.not_lt.2 HK0.out) HK1.out HM.out P1.out HV.out h4 HU.out h5 h
    dsimp only at hE4 hE5 hE6 hE7
    have HE4:=mi hE4
    have HE5:=mi hE5
    have HE6:=mi hE6
    have HE7:=mi hE7
    clear hE4 hE5 hE6 hE7
    go_wp2_with fail
    go_at_call 153
    refine (Du vn ve false wr).mono ?_
    rintro e w5 ⟨rfl,hb5⟩
    have N5:=mi (HB0.out.trans (hb5.mono (by omega)))
    have r5:=R1.out.call hb5
    have HT5:=mi (HTW.out.below (hb5.mono (B':=1) (by omega)) (by omega))
    have hz5:=hb5.size
    have z5:w.heap.size+1<w5.heap.size:=by omega
    have q4:w5.cell? ⟨w.heap.size+1,4,none⟩=some (.int .i64 un):=r5.cell 4
    have q5:w5.cell? ⟨w.heap.size+1,5,none⟩=some (.int .i64 ue):=r5.cell 5
    have R5:=mi r5
    clear r5 hb5 q0 q2 q3 hlt hbs1
    by_cases h4:Cl vn ve false=0
    ·rw [h4,Gj]
     have H4:=mi h4
     exact Aea
    ·have HE:=mi (HE4.out h4)
     exact AbB
theorem AhV (A1:Option Addr) (ps:List Prt) (c1:Nat) (A2:Option Addr) (bs:List Bk) (c2:Nat) (A3:Option Addr) (os:List Int) (c3:Nat) (A:Option Addr) (args:List Int) (cap:Nat) (vn ve un ue:Int) (m:Nat) (w:World)
    (hk0:¬ Ay 11<0) (hk1:((args.length:Nat):Int)=Ay 11) (hl:args.length≤1000000) (hl1:ps.length≤1000000) (hl2:bs.length≤1000000) (hm:m≤w.heap.size) (ha:Aj w m A (CR args)) (ht:An w) :
    Calls prog 64 #[.agg #[.slice A1 ps.length c1,.slice A2 bs.length c2,.slice A3 os.length c3],.agg #[.int .i64 11,.slice A args.length cap,.int .i64 vn,.int .i64 ve,.int .i64 un,.int .i64 ue]] w fun e w'=>e=.returned (EK (Be ps.length bs.length ⟨11,A,args,cap,vn,ve,un,ue⟩))∧Below w.heap.size w w':=by
  have b0:Below w.heap.size w ((w.alloc (.cells #[.slice A1 ps.length c1,.slice A2 bs.length c2,.slice A3 os.length c3] 26)).alloc (.cells #[.int .i64 11,.slice A args.length cap,.int .i64 vn,.int .i64 ve,.int .i64 un,.int .i64 ue] 65)):=Au (al_ _ _) _
  have r0:=(BQ.new_ w [.slice A1 ps.length c1,.slice A2 bs.length c2,.slice A3 os.length c3] 26).call (al_ _ (.cells #[.int .i64 11,.slice A args.length cap,.int .i64 vn,.int .i64 ve,.int .i64 un,.int .i64 ue] 65))
  have r1:=BQ.new_ (w.alloc (.cells #[.slice A1 ps.length c1,.slice A2 bs.length c2,.slice A3 os.length c3] 26)) [.int .i64 11,.slice A args.length cap,.int .i64 vn,.int .i64 ve,.int .i64 un,.int .i64 ue] 65
  rw [show (w.alloc (.cells #[.slice A1 ps.length c1,.slice A2 bs.length c2,.slice A3 os.length c3] 26)).heap.size=w.heap.size+1 by simp] at r1
  have HT:=mi ht
  have HA:=mi ha
  have HK0:=mi hk0
  have HK1:=mi hk1
  obtain ⟨K,hK⟩:∃ K,Ay 11=K:=⟨_,rfl⟩
  have HKK:=mi hK
  have hne:(((args.length:Nat):Int) != K)=false:=by rw [hk1,hK];simp
  have hkk:0≤K:=by omega
  clear ht ha hk0 hk1 hK
  go_enter func64,ntmps64
  have HM:Hid (Cm ps.length bs.length 11=bs.length):=mi (rfl)
  have HV:Hid (Ox 11=true):=mi (by decide)
  have HU:Hid (Hm 11=true):=mi (by decide)
  go_wp2_with (go_at_call 152;refine (Fd _ _).mono ?_;rintro e w1 ⟨rfl,rfl⟩;rw [HKK.out])
  obtain ⟨W,hW⟩:∃ W,W=((w.alloc (.cells #[.slice A1 ps.length c1,.slice A2 bs.length c2,.slice A3 os.length c3] 26)).alloc (.cells #[.int .i64 11,.slice A args.length cap,.int .i64 vn,.int .i64 ve,.int .i64 un,.int .i64 ue] 65)):=⟨_,rfl⟩
  rw [←hW]
  rw [←hW] at r0 r1 b0
  have hWs:W.heap.size=w.heap.size+2:=by rw [hW];simp
  clear hW
  have HTW:=mi (HT.out.below b0 HT.out.1)
  have q0:W.cell? ⟨w.heap.size+1,0,none⟩=some (.int .i64 11):=r1.cell 0
  have q2:W.cell? ⟨w.heap.size+1,2,none⟩=some (.int .i64 vn):=r1.cell 2
  have q3:W.cell? ⟨w.heap.size+1,3,none⟩=some (.int .i64 ve):=r1.cell 3
  have HB0:=mi b0
  have R1:=mi r1
  have HA2:=mi (HA.out.below b0 hm)
  have hbs1:(W.heap.size:Int)=w.heap.size+2:=by omega
  clear r0 r1 b0
  go_loopw [36] (fun i wr=>SF args bs.length W i wr) (fun i _=>args.length - (intOf i).toNat)
  case atStart=>exact ⟨0,af _,rfl,rfl,rfl⟩
  case round =>
    as_aux_lemma =>
      obtain ⟨t,ht,rfl,hf,rfl⟩:=hrel
      have HF:=mi hf
      clear hf
      by_cases hlt:t<args.length
      · obtain ⟨ab,ao,z,rfl,hab,hab2,hz,hzc⟩:=HA2.out.int_ hlt
        have HZ:=mi hz
        clear hz
        by_cases h0:z<0
        · have hE:=mi (be3 (np:=ps.length) (nb:=bs.length) (b:=⟨11,some ⟨ab,ao,none⟩,args,cap,vn,ve,un,ue⟩) (Int.not_lt.2 HK0.out) HK1.out HM.out (DH HZ.out (by omega) HF.out))
          go_wp2_with fail
          exact OT
        · have h1:0≤z:=by omega
          clear h0
          by_cases h2:z<(bs.length:Int)
          · have HZ2:=mi (GU HZ.out ⟨h1,h2⟩ HF.out)
            exact AbA
          · have hE:=mi (be3 (np:=ps.length) (nb:=bs.length) (b:=⟨11,some ⟨ab,ao,none⟩,args,cap,vn,ve,un,ue⟩) (Int.not_lt.2 HK0.out) HK1.out HM.out (DH HZ.out (by omega) HF.out))
            have h3:(bs.length:Int)≤z:=by omega
            clear h2
            go_wp2_with fail
            all_goals try (exfalso;omega)
            exact OT
      · have P1:=mi (Gi (k:=t) (by rw [ad];omega) HF.out)
        clear HF
        have hE4:=fun h=>be4 (np:=ps.length) (nb:=bs.length) (b:=⟨11,A,args,cap,vn,ve,un,ue⟩) (Int.not_lt.2 HK0.out) HK1.out HM.out P1.out HV.out h
        have hE5:=fun h4 h=>be5 (np:=ps.length) (nb:=bs.length) (b:=⟨11,A,args,cap,vn,ve,un,ue⟩) (Int.not_lt.2 HK0.out) HK1.out HM.out P1.out HV.out h4 HU.out h
        have hE6:=fun h4 h5 h=>be6 (np:=ps.length) (nb:=bs.length) (b:=⟨11,A,args,cap,vn,ve,un,ue⟩) (Int.not_lt.2 HK0.out) HK1.out HM.out P1.out HV.out h4 HU.out h5 h
        have hE7:=fun h4 h5 h=>be7 (np:=ps.length) (nb:=bs.length) (b:=⟨11,A,args,cap,vn,ve,un,ue⟩) (Int.not_lt.2 HK0.out) HK1.out HM.out P1.out HV.out h4 HU.out h5 h
        dsimp only at hE4 hE5 hE6 hE7
        have HE4:=mi hE4
        have HE5:=mi hE5
        have HE6:=mi hE6
        have HE7:=mi hE7
        clear hE4 hE5 hE6 hE7
        go_wp2_with fail
        go_at_call 153
        refine (Du vn ve true wr).mono ?_
        rintro e w5 ⟨rfl,hb5⟩
        have N5:=mi (HB0.out.trans (hb5.mono (by omega)))
        have r5:=R1.out.call hb5
        have HT5:=mi (HTW.out.below (hb5.mono (B':=1) (by omega)) (by omega))
        have hz5:=hb5.size
        have z5:w.heap.size+1<w5.heap.size:=by omega
        have q4:w5.cell? ⟨w.heap.size+1,4,none⟩=some (.int .i64 un):=r5.cell 4
        have q5:w5.cell? ⟨w.heap.size+1,5,none⟩=some (.int .i64 ue):=r5.cell 5
        have R5:=mi r5
        clear r5 hb5 q0 q2 q3 hlt hbs1
        by_cases h4:Cl vn ve true=0
        · rw [h4,Gj]
          have H4:=mi h4
          clear h4
          go_wp2_with fail
          go_at_call 153
          refine (Du un ue true w5).mono ?_
          rintro e w6 ⟨rfl,hb6⟩
          have N6:=mi (N5.out.trans (hb6.mono (by omega)))
          have r6:=R5.out.call hb6
          have HT6:=mi (HT5.out.below (hb6.mono (B':=1) (by omega)) (by omega))
          have hz6:=hb6.size
          have z6:w.heap.size+1<w6.heap.size:=by omega
          have q2:w6.cell? ⟨w.heap.size+1,2,none⟩=some (.int .i64 vn):=r6.cell 2
          have q3:w6.cell? ⟨w.heap.size+1,3,none⟩=some (.int .i64 ve):=r6.cell 3
          have q6:w6.cell? ⟨w.heap.size+1,4,none⟩=some (.int .i64 un):=r6.cell 4
          have q7:w6.cell? ⟨w.heap.size+1,5,none⟩=some (.int .i64 ue):=r6.cell 5
          clear r6 hb6 q4 q5 z5
          by_cases h5:Cl un ue true=0
          · rw [h5,Gj]
            have H5:=mi h5
            clear h5
            go_wp2_with fail
            have hk:KP w6 (w.heap.size+2) w6:=⟨ah _ _,by omega⟩
            have s1:=QG H4.out
            have s2:=QG H5.out
            have HS1:=mi s1
            have HS2:=mi s2
            have l1:(Ad (Ac vn 0 ve).1.natAbs).length≤50000:=AdY s1
            have l2:(Ad (Ac un 0 ue).1.natAbs).length≤50000:=AdY s2
            have HL1:=mi l1
            have HL2:=mi l2
            obtain ⟨C,hC⟩:∃ C,TR vn ve un ue=C:=⟨_,rfl⟩
            have HPC:=mi ((AdT s1 s2).trans hC)
            have HC:=mi hC
            clear s1 s2 l1 l2 hC
            go_region_held3 (fun w'=>(∀ b o,b<w.heap.size+2→w'.cell? ⟨b,o,none⟩=w6.cell? ⟨b,o,none⟩)∧KP w6 (w.heap.size+2) w')
              (first
                | (refine KP.all ?_
                   first
                     | assumption
                     | exact hk
                     | exact hk.drew))
              (first
                | (go_at_call_of 154 (Value.agg #[.int .i64 vn,.int .i64 ve]);refine (Wl vn ve _ HS1.out (HT6.out.below (ah _ w6).drew HT6.out.1)).mono ?_;(rintro e w7 ⟨v7,rfl,D7,hb7⟩;have hk7:=hk.drew.call hb7;have HT7:=(HT6.out.below (ah _ w6).drew HT6.out.1).call hb7))
                | (go_at_call_of 154 (Value.agg #[.int .i64 un,.int .i64 ue]);refine (Wl un ue _ HS2.out HT7).mono ?_;(rintro e w8 ⟨v8,rfl,D8,hb8⟩;have hk8:=hk7.call hb8;have D7':=D7.below hb8 (aa _)))
                | (go_at_call 9;refine (ZI (D7'.more hb8.size) D8 (aa _) HL1.out HL2.out).mono ?_;(rintro e w9 ⟨rfl,hb9⟩;have hk9:=hk8.call hb9;rw [HPC.out])))
            have N9:=mi (N6.out.trans (hk9.is.mono (by omega)))
            clear D7 D7' D8 hb7 hb8 hb9 HT7 hk7 hk8 hk9
            by_cases hc:0<C
            · have HE:=mi (HE6.out H4.out H5.out ⟨by trivial,by rw [HC.out];exact hc⟩)
              go_wp2_with fail
              go_ret
              exact ⟨AcM HE.out (by decide),N9.out⟩
            · have HE:=mi (HE7.out H4.out H5.out (fun h=>hc (by rw [←HC.out];exact h.2)))
              go_wp2_with fail
              go_ret
              exact ⟨AtV HE.out,N9.out⟩
          · have HE:=mi (HE5.out H4.out h5)
            rw [Mg h5]
            have H5:=mi h5
            clear h5
            go_wp2_with fail
            go_ret
            exact ⟨AcM HE.out H5.out,N6.out⟩
        · have HE:=mi (HE4.out h4)
          exact AbB
theorem AmR (A1:Option Addr) (ps:List Prt) (c1:Nat) (A2:Option Addr) (bs:List Bk) (c2:Nat) (A3:Option Addr) (os:List Int) (c3:Nat) (A:Option Addr) (args:List Int) (cap:Nat) (vn ve un ue:Int) (m:Nat) (w:World)
  (hk0:¬ Ay 1<0) (hk1:((args.length:Nat):Int)=Ay 1) (hl:args.length≤1000000) (hl1:ps.length≤1000000) (hl2:bs.length≤1000000) (hm:m≤w.heap.size) (ha:Aj w m A (CR args)) (ht:An w) :
  Calls prog 64 #[.agg #[.slice A1 ps.length c1,.slice A2 bs.length c2,.slice A3 os.length c3],.agg #[.int .i64 1,.slice A args.length cap,.int .i64 vn,.int .i64 ve,.int .i64 un,.int .i64 ue]] w fun e w'=>e=.returned (EK (Be ps.length bs.length ⟨1,A,args,cap,vn,ve,un,ue⟩))∧Below w.heap.size w w':=by
 have b0:Below w.heap.size w ((w.alloc (.cells #[.slice A1 ps.length c1,.slice A2 bs.length c2,.slice A3 os.length c3] 26)).alloc (.cells #[.int .i64 1,.slice A args.length cap,.int .i64 vn,.int .i64 ve,.int .i64 un,.int .i64 ue] 65)):=Au (al_ _ _) _
 have r0:=(BQ.new_ w [.slice A1 ps.length c1,.slice A2 bs.length c2,.slice A3 os.length c3] 26).call (al_ _ (.cells #[.int .i64 1,.slice A args.length cap,.int .i64 vn,.int .i64 ve,.int .i64 un,.int .i64 ue] 65))
 have r1:=BQ.new_ (w.alloc (.cells #[.slice A1 ps.length c1,.slice A2 bs.length c2,.slice A3 os.length c3] 26)) [.int .i64 1,.slice A args.length cap,.int .i64 vn,.int .i64 ve,.int .i64 un,.int .i64 ue] 65
 rw [show (w.alloc (.cells #[.slice A1 ps.length c1,.slice A2 bs.length c2,.slice A3 os.length c3] 26)).heap.size=w.heap.size+1 by simp] at r1
 have HT:=mi ht
 have HA:=mi ha
 have HK0:=mi hk0
 have HK1:=mi hk1
 obtain ⟨K,hK⟩:∃ K,Ay 1=K:=⟨_,rfl⟩
 have HKK:=mi hK
 have hne:(((args.length:Nat):Int) != K)=false:=by rw [hk1,hK];simp
 have hkk:0≤K:=by omega
 clear ht ha hk0 hk1 hK
 go_enter func64,ntmps64
 have HM:Hid (Cm ps.length bs.length 1=bs.length):=mi (rfl)
 have HV:Hid (Ox 1=true):=mi (by decide)
 have HU:Hid (Hm 1=false):=mi (by decide)
 go_wp2_with (go_at_call 152;refine (Fd _ _).mono ?_;rintro e w1 ⟨rfl,rfl⟩;rw [HKK.out])
 obtain ⟨W,hW⟩:∃ W,W=((w.alloc (.cells #[.slice A1 ps.length c1,.slice A2 bs.length c2,.slice A3 os.length c3] 26)).alloc (.cells #[.int .i64 1,.slice A args.length cap,.int .i64 vn,.int .i64 ve,.int .i64 un,.int .i64 ue] 65)):=⟨_,rfl⟩
 rw [←hW]
 rw [←hW] at r0 r1 b0
 have hWs:W.heap.size=w.heap.size+2:=by rw [hW];simp
 clear hW
 have HTW:=mi (HT.out.below b0 HT.out.1)
 have q0:W.cell? ⟨w.heap.size+1,0,none⟩=some (.int .i64 1):=r1.cell 0
 have q2:W.cell? ⟨w.heap.size+1,2,none⟩=some (.int .i64 vn):=r1.cell 2
 have q3:W.cell? ⟨w.heap.size+1,3,none⟩=some (.int .i64 ve):=r1.cell 3
 have HB0:=mi b0
 have R1:=mi r1
 have HA2:=mi (HA.out.below b0 hm)
 have hbs1:(W.heap.size:Int)=w.heap.size+2:=by omega
 clear r0 r1 b0
 go_loopw [36] (fun i wr=>SF args bs.length W i wr) (fun i _=>args.length - (intOf i).toNat)
 case atStart=>exact ⟨0,af _,rfl,rfl,rfl⟩
 case round =>
  as_aux_lemma =>
   obtain ⟨t,ht,rfl,hf,rfl⟩:=hrel
   have HF:=mi hf
   clear hf
   by_cases hlt:t<args.length
   ·obtain ⟨ab,ao,z,rfl,hab,hab2,hz,hzc⟩:=HA2.out.int_ hlt
    have HZ:=mi hz
    clear hz
    by_cases h0:z<0
    ·have hE:=mi (be3 (np:=ps.length) (nb:=bs.length) (b:=⟨1,some ⟨ab,ao,none⟩,args,cap,vn,ve,un,ue⟩) (Int.not_lt.2 HK0.out) HK1.out HM.out (DH HZ.out (by omega) HF.out))
     go_wp2_with fail
     exact OT
    ·have h1:0≤z:=by omega
     clear h0
     by_cases h2:z<(bs.length:Int)
     ·have HZ2:=mi (GU HZ.out ⟨h1,h2⟩ HF.out)
      exact AbA
     ·have hE:=mi (be3 (np:=ps.length) (nb:=bs.length) (b:=⟨1,some ⟨ab,ao,none⟩,args,cap,vn,ve,un,ue⟩) (Int.not_lt.2 HK0.out) HK1.out HM.out (DH HZ.out (by omega) HF.out))
      have h3:(bs.length:Int)≤z:=by omega
      clear h2
      go_wp2_with fail
      all_goals try (exfalso;omega)
      exact OT
   ·have P1:=mi (Gi (k:=t) (by rw [ad];omega) HF.out)
    clear HF
    have hE4:=fun h=>be4 (np:=ps.length) (nb:=bs.length) (b:=⟨1,A,args,cap,vn,ve,un,ue⟩) (Int.not_lt.2 HK0.out) HK1.out HM.out P1.out HV.out h
    have hE5:=fun h4 h=>be5 (np:=ps.length) (nb:=bs.length) (b:=⟨1,A,args,cap,vn,ve,un,ue⟩) (Int.not_lt.2 HK0.out) HK1.out HM.out P1.out HV.out h4 HU.out h
    have hE6:=fun h4 h5 h=>be6 (np:=ps.length) (nb:=bs.length) (b:=⟨1,A,args,cap,vn,ve,un,ue⟩) (Int.not_lt.2 HK0.out) HK1.out HM.out P1.out HV.out h4 HU.out h5 h
    have hE7:=fun h4 h5 h=>be7 (np:=ps.length) (nb:=bs.length) (b:=⟨1,A,args,cap,vn,ve,un,ue⟩) (Int.not_lt.2 HK0.out) HK1.out HM.out P1.out HV.out h4 HU.out h5 h
    dsimp only at hE4 hE5 hE6 hE7
    have HE4:=mi hE4
    have HE5:=mi hE5
    have HE6:=mi hE6
    have HE7:=mi hE7
    clear hE4 hE5 hE6 hE7
    go_wp2_with fail
    go_at_call 153
    refine (Du vn ve true wr).mono ?_
    rintro e w5 ⟨rfl,hb5⟩
    have N5:=mi (HB0.out.trans (hb5.mono (by omega)))
    have r5:=R1.out.call hb5
    have HT5:=mi (HTW.out.below (hb5.mono (B':=1) (by omega)) (by omega))
    have hz5:=hb5.size
    have z5:w.heap.size+1<w5.heap.size:=by omega
    have q4:w5.cell? ⟨w.heap.size+1,4,none⟩=some (.int .i64 un):=r5.cell 4
    have q5:w5.cell? ⟨w.heap.size+1,5,none⟩=some (.int .i64 ue):=r5.cell 5
    have R5:=mi r5
    clear r5 hb5 q0 q2 q3 hlt hbs1
    by_cases h4:Cl vn ve true=0
    ·rw [h4,Gj]
     have H4:=mi h4
     exact Aea
    ·have HE:=mi (HE4.out h4)
     exact AbB
theorem AmS (A1:Option Addr) (ps:List Prt) (c1:Nat) (A2:Option Addr) (bs:List Bk) (c2:Nat) (A3:Option Addr) (os:List Int) (c3:Nat) (A:Option Addr) (args:List Int) (cap:Nat) (vn ve un ue:Int) (m:Nat) (w:World)
  (hk0:¬ Ay 2<0) (hk1:((args.length:Nat):Int)=Ay 2) (hl:args.length≤1000000) (hl1:ps.length≤1000000) (hl2:bs.length≤1000000) (hm:m≤w.heap.size) (ha:Aj w m A (CR args)) (ht:An w) :
  Calls prog 64 #[.agg #[.slice A1 ps.length c1,.slice A2 bs.length c2,.slice A3 os.length c3],.agg #[.int .i64 2,.slice A args.length cap,.int .i64 vn,.int .i64 ve,.int .i64 un,.int .i64 ue]] w fun e w'=>e=.returned (EK (Be ps.length bs.length ⟨2,A,args,cap,vn,ve,un,ue⟩))∧Below w.heap.size w w':=by
 have b0:Below w.heap.size w ((w.alloc (.cells #[.slice A1 ps.length c1,.slice A2 bs.length c2,.slice A3 os.length c3] 26)).alloc (.cells #[.int .i64 2,.slice A args.length cap,.int .i64 vn,.int .i64 ve,.int .i64 un,.int .i64 ue] 65)):=Au (al_ _ _) _
 have r0:=(BQ.new_ w [.slice A1 ps.length c1,.slice A2 bs.length c2,.slice A3 os.length c3] 26).call (al_ _ (.cells #[.int .i64 2,.slice A args.length cap,.int .i64 vn,.int .i64 ve,.int .i64 un,.int .i64 ue] 65))
 have r1:=BQ.new_ (w.alloc (.cells #[.slice A1 ps.length c1,.slice A2 bs.length c2,.slice A3 os.length c3] 26)) [.int .i64 2,.slice A args.length cap,.int .i64 vn,.int .i64 ve,.int .i64 un,.int .i64 ue] 65
 rw [show (w.alloc (.cells #[.slice A1 ps.length c1,.slice A2 bs.length c2,.slice A3 os.length c3] 26)).heap.size=w.heap.size+1 by simp] at r1
 have HT:=mi ht
 have HA:=mi ha
 have HK0:=mi hk0
 have HK1:=mi hk1
 obtain ⟨K,hK⟩:∃ K,Ay 2=K:=⟨_,rfl⟩
 have HKK:=mi hK
 have hne:(((args.length:Nat):Int) != K)=false:=by rw [hk1,hK];simp
 have hkk:0≤K:=by omega
 clear ht ha hk0 hk1 hK
 go_enter func64,ntmps64
 have HM:Hid (Cm ps.length bs.length 2=bs.length):=mi (rfl)
 have HV:Hid (Ox 2=true):=mi (by decide)
 have HU:Hid (Hm 2=false):=mi (by decide)
 go_wp2_with (go_at_call 152;refine (Fd _ _).mono ?_;rintro e w1 ⟨rfl,rfl⟩;rw [HKK.out])
 obtain ⟨W,hW⟩:∃ W,W=((w.alloc (.cells #[.slice A1 ps.length c1,.slice A2 bs.length c2,.slice A3 os.length c3] 26)).alloc (.cells #[.int .i64 2,.slice A args.length cap,.int .i64 vn,.int .i64 ve,.int .i64 un,.int .i64 ue] 65)):=⟨_,rfl⟩
 rw [←hW]
 rw [←hW] at r0 r1 b0
 have hWs:W.heap.size=w.heap.size+2:=by rw [hW];simp
 clear hW
 have HTW:=mi (HT.out.below b0 HT.out.1)
 have q0:W.cell? ⟨w.heap.size+1,0,none⟩=some (.int .i64 2):=r1.cell 0
 have q2:W.cell? ⟨w.heap.size+1,2,none⟩=some (.int .i64 vn):=r1.cell 2
 have q3:W.cell? ⟨w.heap.size+1,3,none⟩=some (.int .i64 ve):=r1.cell 3
 have HB0:=mi b0
 have R1:=mi r1
 have HA2:=mi (HA.out.below b0 hm)
 have hbs1:(W.heap.size:Int)=w.heap.size+2:=by omega
 clear r0 r1 b0
 go_loopw [36] (fun i wr=>SF args bs.length W i wr) (fun i _=>args.length - (intOf i).toNat)
 case atStart=>exact ⟨0,af _,rfl,rfl,rfl⟩
 case round =>
  as_aux_lemma =>
   obtain ⟨t,ht,rfl,hf,rfl⟩:=hrel
   have HF:=mi hf
   clear hf
   by_cases hlt:t<args.length
   ·obtain ⟨ab,ao,z,rfl,hab,hab2,hz,hzc⟩:=HA2.out.int_ hlt
    have HZ:=mi hz
    clear hz
    by_cases h0:z<0
    ·have hE:=mi (be3 (np:=ps.length) (nb:=bs.length) (b:=⟨2,some ⟨ab,ao,none⟩,args,cap,vn,ve,un,ue⟩) (Int.not_lt.2 HK0.out) HK1.out HM.out (DH HZ.out (by omega) HF.out))
     go_wp2_with fail
     exact OT
    ·have h1:0≤z:=by omega
     clear h0
     by_cases h2:z<(bs.length:Int)
     ·have HZ2:=mi (GU HZ.out ⟨h1,h2⟩ HF.out)
      exact AbA
     ·have hE:=mi (be3 (np:=ps.length) (nb:=bs.length) (b:=⟨2,some ⟨ab,ao,none⟩,args,cap,vn,ve,un,ue⟩) (Int.not_lt.2 HK0.out) HK1.out HM.out (DH HZ.out (by omega) HF.out))
      have h3:(bs.length:Int)≤z:=by omega
      clear h2
      go_wp2_with fail
      all_goals try (exfalso;omega)
      exact OT
   ·have P1:=mi (Gi (k:=t) (by rw [ad];omega) HF.out)
    clear HF
    have hE4:=fun h=>be4 (np:=ps.length) (nb:=bs.length) (b:=⟨2,A,args,cap,vn,ve,un,ue⟩) (Int.not_lt.2 HK0.out) HK1.out HM.out P1.out HV.out h
    have hE5:=fun h4 h=>be5 (np:=ps.length) (nb:=bs.length) (b:=⟨2,A,args,cap,vn,ve,un,ue⟩) (Int.not_lt.2 HK0.out) HK1.out HM.out P1.out HV.out h4 HU.out h
    have hE6:=fun h4 h5 h=>be6 (np:=ps.length) (nb:=bs.length) (b:=⟨2,A,args,cap,vn,ve,un,ue⟩) (Int.not_lt.2 HK0.out) HK1.out HM.out P1.out HV.out h4 HU.out h5 h
    have hE7:=fun h4 h5 h=>be7 (np:=ps.length) (nb:=bs.length) (b:=⟨2,A,args,cap,vn,ve,un,ue⟩) (Int.not_lt.2 HK0.out) HK1.out HM.out P1.out HV.out h4 HU.out h5 h
    dsimp only at hE4 hE5 hE6 hE7
    have HE4:=mi hE4
    have HE5:=mi hE5
    have HE6:=mi hE6
    have HE7:=mi hE7
    clear hE4 hE5 hE6 hE7
    go_wp2_with fail
    go_at_call 153
    refine (Du vn ve true wr).mono ?_
    rintro e w5 ⟨rfl,hb5⟩
    have N5:=mi (HB0.out.trans (hb5.mono (by omega)))
    have r5:=R1.out.call hb5
    have HT5:=mi (HTW.out.below (hb5.mono (B':=1) (by omega)) (by omega))
    have hz5:=hb5.size
    have z5:w.heap.size+1<w5.heap.size:=by omega
    have q4:w5.cell? ⟨w.heap.size+1,4,none⟩=some (.int .i64 un):=r5.cell 4
    have q5:w5.cell? ⟨w.heap.size+1,5,none⟩=some (.int .i64 ue):=r5.cell 5
    have R5:=mi r5
    clear r5 hb5 q0 q2 q3 hlt hbs1
    by_cases h4:Cl vn ve true=0
    ·rw [h4,Gj]
     have H4:=mi h4
     exact Aea
    ·have HE:=mi (HE4.out h4)
     exact AbB
theorem AmT (A1:Option Addr) (ps:List Prt) (c1:Nat) (A2:Option Addr) (bs:List Bk) (c2:Nat) (A3:Option Addr) (os:List Int) (c3:Nat) (A:Option Addr) (args:List Int) (cap:Nat) (vn ve un ue:Int) (m:Nat) (w:World)
  (hk0:¬ Ay 6<0) (hk1:((args.length:Nat):Int)=Ay 6) (hl:args.length≤1000000) (hl1:ps.length≤1000000) (hl2:bs.length≤1000000) (hm:m≤w.heap.size) (ha:Aj w m A (CR args)) (ht:An w) :
  Calls prog 64 #[.agg #[.slice A1 ps.length c1,.slice A2 bs.length c2,.slice A3 os.length c3],.agg #[.int .i64 6,.slice A args.length cap,.int .i64 vn,.int .i64 ve,.int .i64 un,.int .i64 ue]] w fun e w'=>e=.returned (EK (Be ps.length bs.length ⟨6,A,args,cap,vn,ve,un,ue⟩))∧Below w.heap.size w w':=by
 have b0:Below w.heap.size w ((w.alloc (.cells #[.slice A1 ps.length c1,.slice A2 bs.length c2,.slice A3 os.length c3] 26)).alloc (.cells #[.int .i64 6,.slice A args.length cap,.int .i64 vn,.int .i64 ve,.int .i64 un,.int .i64 ue] 65)):=Au (al_ _ _) _
 have r0:=(BQ.new_ w [.slice A1 ps.length c1,.slice A2 bs.length c2,.slice A3 os.length c3] 26).call (al_ _ (.cells #[.int .i64 6,.slice A args.length cap,.int .i64 vn,.int .i64 ve,.int .i64 un,.int .i64 ue] 65))
 have r1:=BQ.new_ (w.alloc (.cells #[.slice A1 ps.length c1,.slice A2 bs.length c2,.slice A3 os.length c3] 26)) [.int .i64 6,.slice A args.length cap,.int .i64 vn,.int .i64 ve,.int .i64 un,.int .i64 ue] 65
 rw [show (w.alloc (.cells #[.slice A1 ps.length c1,.slice A2 bs.length c2,.slice A3 os.length c3] 26)).heap.size=w.heap.size+1 by simp] at r1
 have HT:=mi ht
 have HA:=mi ha
 have HK0:=mi hk0
 have HK1:=mi hk1
 obtain ⟨K,hK⟩:∃ K,Ay 6=K:=⟨_,rfl⟩
 have HKK:=mi hK
 have hne:(((args.length:Nat):Int) != K)=false:=by rw [hk1,hK];simp
 have hkk:0≤K:=by omega
 clear ht ha hk0 hk1 hK
 go_enter func64,ntmps64
 have HM:Hid (Cm ps.length bs.length 6=bs.length):=mi (rfl)
 have HV:Hid (Ox 6=true):=mi (by decide)
 have HU:Hid (Hm 6=false):=mi (by decide)
 go_wp2_with (go_at_call 152;refine (Fd _ _).mono ?_;rintro e w1 ⟨rfl,rfl⟩;rw [HKK.out])
 obtain ⟨W,hW⟩:∃ W,W=((w.alloc (.cells #[.slice A1 ps.length c1,.slice A2 bs.length c2,.slice A3 os.length c3] 26)).alloc (.cells #[.int .i64 6,.slice A args.length cap,.int .i64 vn,.int .i64 ve,.int .i64 un,.int .i64 ue] 65)):=⟨_,rfl⟩
 rw [←hW]
 rw [←hW] at r0 r1 b0
 have hWs:W.heap.size=w.heap.size+2:=by rw [hW];simp
 clear hW
 have HTW:=mi (HT.out.below b0 HT.out.1)
 have q0:W.cell? ⟨w.heap.size+1,0,none⟩=some (.int .i64 6):=r1.cell 0
 have q2:W.cell? ⟨w.heap.size+1,2,none⟩=some (.int .i64 vn):=r1.cell 2
 have q3:W.cell? ⟨w.heap.size+1,3,none⟩=some (.int .i64 ve):=r1.cell 3
 have HB0:=mi b0
 have R1:=mi r1
 have HA2:=mi (HA.out.below b0 hm)
 have hbs1:(W.heap.size:Int)=w.heap.size+2:=by omega
 clear r0 r1 b0
 go_loopw [36] (fun i wr=>SF args bs.length W i wr) (fun i _=>args.length - (intOf i).toNat)
 case atStart=>exact ⟨0,af _,rfl,rfl,rfl⟩
 case round =>
  as_aux_lemma =>
   obtain ⟨t,ht,rfl,hf,rfl⟩:=hrel
   have HF:=mi hf
   clear hf
   by_cases hlt:t<args.length
   ·obtain ⟨ab,ao,z,rfl,hab,hab2,hz,hzc⟩:=HA2.out.int_ hlt
    have HZ:=mi hz
    clear hz
    by_cases h0:z<0
    ·have hE:=mi (be3 (np:=ps.length) (nb:=bs.length) (b:=⟨6,some ⟨ab,ao,none⟩,args,cap,vn,ve,un,ue⟩) (Int.not_lt.2 HK0.out) HK1.out HM.out (DH HZ.out (by omega) HF.out))
     go_wp2_with fail
     exact OT
    ·have h1:0≤z:=by omega
     clear h0
     by_cases h2:z<(bs.length:Int)
     ·have HZ2:=mi (GU HZ.out ⟨h1,h2⟩ HF.out)
      exact AbA
     ·have hE:=mi (be3 (np:=ps.length) (nb:=bs.length) (b:=⟨6,some ⟨ab,ao,none⟩,args,cap,vn,ve,un,ue⟩) (Int.not_lt.2 HK0.out) HK1.out HM.out (DH HZ.out (by omega) HF.out))
      have h3:(bs.length:Int)≤z:=by omega
      clear h2
      go_wp2_with fail
      all_goals try (exfalso;omega)
      exact OT
   ·have P1:=mi (Gi (k:=t) (by rw [ad];omega) HF.out)
    clear HF
    have hE4:=fun h=>be4 (np:=ps.length) (nb:=bs.length) (b:=⟨6,A,args,cap,vn,ve,un,ue⟩) (Int.not_lt.2 HK0.out) HK1.out HM.out P1.out HV.out h
    have hE5:=fun h4 h=>be5 (np:=ps.length) (nb:=bs.length) (b:=⟨6,A,args,cap,vn,ve,un,ue⟩) (Int.not_lt.2 HK0.out) HK1.out HM.out P1.out HV.out h4 HU.out h
    have hE6:=fun h4 h5 h=>be6 (np:=ps.length) (nb:=bs.length) (b:=⟨6,A,args,cap,vn,ve,un,ue⟩) (Int.not_lt.2 HK0.out) HK1.out HM.out P1.out HV.out h4 HU.out h5 h
    have hE7:=fun h4 h5 h=>be7 (np:=ps.length) (nb:=bs.length) (b:=⟨6,A,args,cap,vn,ve,un,ue⟩) (Int.not_lt.2 HK0.out) HK1.out HM.out P1.out HV.out h4 HU.out h5 h
    dsimp only at hE4 hE5 hE6 hE7
    have HE4:=mi hE4
    have HE5:=mi hE5
    have HE6:=mi hE6
    have HE7:=mi hE7
    clear hE4 hE5 hE6 hE7
    go_wp2_with fail
    go_at_call 153
    refine (Du vn ve true wr).mono ?_
    rintro e w5 ⟨rfl,hb5⟩
    have N5:=mi (HB0.out.trans (hb5.mono (by omega)))
    have r5:=R1.out.call hb5
    have HT5:=mi (HTW.out.below (hb5.mono (B':=1) (by omega)) (by omega))
    have hz5:=hb5.size
    have z5:w.heap.size+1<w5.heap.size:=by omega
    have q4:w5.cell? ⟨w.heap.size+1,4,none⟩=some (.int .i64 un):=r5.cell 4
    have q5:w5.cell? ⟨w.heap.size+1,5,none⟩=some (.int .i64 ue):=r5.cell 5
    have R5:=mi r5
    clear r5 hb5 q0 q2 q3 hlt hbs1
    by_cases h4:Cl vn ve true=0
    ·rw [h4,Gj]
     have H4:=mi h4
     exact Aea
    ·have HE:=mi (HE4.out h4)
     exact AbB
theorem AmU (A1:Option Addr) (ps:List Prt) (c1:Nat) (A2:Option Addr) (bs:List Bk) (c2:Nat) (A3:Option Addr) (os:List Int) (c3:Nat) (kind:Int) (A:Option Addr) (args:List Int) (cap:Nat) (vn ve un ue:Int) (m:Nat) (w:World) (h0:¬ kind=0) (h1:¬ kind=1) (h2:¬ kind=2) (h6:¬ kind=6) (h11:¬ kind=11)
  (hk0:¬ Ay kind<0) (hk1:((args.length:Nat):Int)=Ay kind) (hl:args.length≤1000000) (hl1:ps.length≤1000000) (hl2:bs.length≤1000000) (hm:m≤w.heap.size) (ha:Aj w m A (CR args)) (ht:An w) :
  Calls prog 64 #[.agg #[.slice A1 ps.length c1,.slice A2 bs.length c2,.slice A3 os.length c3],.agg #[.int .i64 kind,.slice A args.length cap,.int .i64 vn,.int .i64 ve,.int .i64 un,.int .i64 ue]] w fun e w'=>e=.returned (EK (Be ps.length bs.length ⟨kind,A,args,cap,vn,ve,un,ue⟩))∧Below w.heap.size w w':=by
 have b0:Below w.heap.size w ((w.alloc (.cells #[.slice A1 ps.length c1,.slice A2 bs.length c2,.slice A3 os.length c3] 26)).alloc (.cells #[.int .i64 kind,.slice A args.length cap,.int .i64 vn,.int .i64 ve,.int .i64 un,.int .i64 ue] 65)):=Au (al_ _ _) _
 have r0:=(BQ.new_ w [.slice A1 ps.length c1,.slice A2 bs.length c2,.slice A3 os.length c3] 26).call (al_ _ (.cells #[.int .i64 kind,.slice A args.length cap,.int .i64 vn,.int .i64 ve,.int .i64 un,.int .i64 ue] 65))
 have r1:=BQ.new_ (w.alloc (.cells #[.slice A1 ps.length c1,.slice A2 bs.length c2,.slice A3 os.length c3] 26)) [.int .i64 kind,.slice A args.length cap,.int .i64 vn,.int .i64 ve,.int .i64 un,.int .i64 ue] 65
 rw [show (w.alloc (.cells #[.slice A1 ps.length c1,.slice A2 bs.length c2,.slice A3 os.length c3] 26)).heap.size=w.heap.size+1 by simp] at r1
 have HT:=mi ht
 have HA:=mi ha
 have HK0:=mi hk0
 have HK1:=mi hk1
 obtain ⟨K,hK⟩:∃ K,Ay kind=K:=⟨_,rfl⟩
 have HKK:=mi hK
 have hne:(((args.length:Nat):Int) != K)=false:=by rw [hk1,hK];simp
 have hkk:0≤K:=by omega
 clear ht ha hk0 hk1 hK
 have e0:(kind == 0)=false:=by simpa using h0
 have e1:(kind == 1)=false:=by simpa using h1
 have e2:(kind == 2)=false:=by simpa using h2
 have e6:(kind == 6)=false:=by simpa using h6
 have e11:(kind == 11)=false:=by simpa using h11
 go_enter func64,ntmps64
 have HM:Hid (Cm ps.length bs.length kind=bs.length):=mi (if_neg h0)
 have HV:Hid (Ox kind=false):=mi (by unfold Ox;rw [e11,e1,e2,e6];rfl)
 have HU:Hid (Hm kind=false):=mi (e11)
 clear h0 h1 h2 h6 h11
 go_wp2_with (go_at_call 152;refine (Fd _ _).mono ?_;rintro e w1 ⟨rfl,rfl⟩;rw [HKK.out])
 obtain ⟨W,hW⟩:∃ W,W=((w.alloc (.cells #[.slice A1 ps.length c1,.slice A2 bs.length c2,.slice A3 os.length c3] 26)).alloc (.cells #[.int .i64 kind,.slice A args.length cap,.int .i64 vn,.int .i64 ve,.int .i64 un,.int .i64 ue] 65)):=⟨_,rfl⟩
 rw [←hW]
 rw [←hW] at r0 r1 b0
 have hWs:W.heap.size=w.heap.size+2:=by rw [hW];simp
 clear hW
 have HTW:=mi (HT.out.below b0 HT.out.1)
 have q0:W.cell? ⟨w.heap.size+1,0,none⟩=some (.int .i64 kind):=r1.cell 0
 have q2:W.cell? ⟨w.heap.size+1,2,none⟩=some (.int .i64 vn):=r1.cell 2
 have q3:W.cell? ⟨w.heap.size+1,3,none⟩=some (.int .i64 ve):=r1.cell 3
 have HB0:=mi b0
 have R1:=mi r1
 have HA2:=mi (HA.out.below b0 hm)
 have hbs1:(W.heap.size:Int)=w.heap.size+2:=by omega
 clear r0 r1 b0
 go_loopw [36] (fun i wr=>SF args bs.length W i wr) (fun i _=>args.length - (intOf i).toNat)
 case atStart=>exact ⟨0,af _,rfl,rfl,rfl⟩
 case round =>
  as_aux_lemma =>
   obtain ⟨t,ht,rfl,hf,rfl⟩:=hrel
   have HF:=mi hf
   clear hf
   by_cases hlt:t<args.length
   ·obtain ⟨ab,ao,z,rfl,hab,hab2,hz,hzc⟩:=HA2.out.int_ hlt
    have HZ:=mi hz
    clear hz
    by_cases h0:z<0
    ·have hE:=mi (be3 (np:=ps.length) (nb:=bs.length) (b:=⟨kind,some ⟨ab,ao,none⟩,args,cap,vn,ve,un,ue⟩) (Int.not_lt.2 HK0.out) HK1.out HM.out (DH HZ.out (by omega) HF.out))
     go_wp2_with fail
     exact OT
    ·have h1:0≤z:=by omega
     clear h0
     by_cases h2:z<(bs.length:Int)
     ·have HZ2:=mi (GU HZ.out ⟨h1,h2⟩ HF.out)
      exact AbA
     ·have hE:=mi (be3 (np:=ps.length) (nb:=bs.length) (b:=⟨kind,some ⟨ab,ao,none⟩,args,cap,vn,ve,un,ue⟩) (Int.not_lt.2 HK0.out) HK1.out HM.out (DH HZ.out (by omega) HF.out))
      have h3:(bs.length:Int)≤z:=by omega
      clear h2
      go_wp2_with fail
      all_goals try (exfalso;omega)
      exact OT
   ·have P1:=mi (Gi (k:=t) (by rw [ad];omega) HF.out)
    clear HF
    have hE4:=fun h=>be4 (np:=ps.length) (nb:=bs.length) (b:=⟨kind,A,args,cap,vn,ve,un,ue⟩) (Int.not_lt.2 HK0.out) HK1.out HM.out P1.out HV.out h
    have hE5:=fun h4 h=>be5 (np:=ps.length) (nb:=bs.length) (b:=⟨kind,A,args,cap,vn,ve,un,ue⟩) (Int.not_lt.2 HK0.out) HK1.out HM.out P1.out HV.out h4 HU.out h
    have hE6:=fun h4 h5 h=>be6 (np:=ps.length) (nb:=bs.length) (b:=⟨kind,A,args,cap,vn,ve,un,ue⟩) (Int.not_lt.2 HK0.out) HK1.out HM.out P1.out HV.out h4 HU.out h5 h
    have hE7:=fun h4 h5 h=>be7 (np:=ps.length) (nb:=bs.length) (b:=⟨kind,A,args,cap,vn,ve,un,ue⟩) (Int.not_lt.2 HK0.out) HK1.out HM.out P1.out HV.out h4 HU.out h5 h
    dsimp only at hE4 hE5 hE6 hE7
    have HE4:=mi hE4
    have HE5:=mi hE5
    have HE6:=mi hE6
    have HE7:=mi hE7
    clear hE4 hE5 hE6 hE7
    go_wp2_with fail
    go_at_call 153
    refine (Du vn ve false wr).mono ?_
    rintro e w5 ⟨rfl,hb5⟩
    have N5:=mi (HB0.out.trans (hb5.mono (by omega)))
    have r5:=R1.out.call hb5
    have HT5:=mi (HTW.out.below (hb5.mono (B':=1) (by omega)) (by omega))
    have hz5:=hb5.size
    have z5:w.heap.size+1<w5.heap.size:=by omega
    have q4:w5.cell? ⟨w.heap.size+1,4,none⟩=some (.int .i64 un):=r5.cell 4
    have q5:w5.cell? ⟨w.heap.size+1,5,none⟩=some (.int .i64 ue):=r5.cell 5
    have R5:=mi r5
    clear r5 hb5 q0 q2 q3 hlt hbs1
    by_cases h4:Cl vn ve false=0
    ·rw [h4,Gj]
     have H4:=mi h4
     exact Aea
    ·have HE:=mi (HE4.out h4)
     exact AbB
theorem Mu (d:Dg) (b:Bk) (m:Nat) (w:World) (hm:m≤w.heap.size) (hb:Aj w m b.A (CR b.args)) (hl:b.args.length≤1000000) (hl1:d.ps.length≤1000000) (hl2:d.bs.length≤1000000) (ht:An w) :
  Calls prog 64 #[d.val,b.val] w fun e w'=>e=.returned (EK (Be d.ps.length d.bs.length b))∧Below w.heap.size w w':=by
 by_cases h:0≤Ay b.kind∧((b.args.length:Nat):Int)=Ay b.kind
 ·obtain ⟨A1,ps,c1,A2,bs,c2,A3,os,c3⟩:=d
  obtain ⟨kind,A,args,cap,vn,ve,un,ue⟩:=b
  dsimp only at h hb hl hl1 hl2
  have hk0:¬ Ay kind<0:=by omega
  by_cases h0:kind=0
  ·subst h0;exact AmQ A1 ps c1 A2 bs c2 A3 os c3 A args cap vn ve un ue m w hk0 h.2 hl hl1 hl2 hm hb ht
  ·by_cases h1:kind=1
   ·subst h1;exact AmR A1 ps c1 A2 bs c2 A3 os c3 A args cap vn ve un ue m w hk0 h.2 hl hl1 hl2 hm hb ht
   ·by_cases h2:kind=2
    ·subst h2;exact AmS A1 ps c1 A2 bs c2 A3 os c3 A args cap vn ve un ue m w hk0 h.2 hl hl1 hl2 hm hb ht
    ·by_cases h6:kind=6
     ·subst h6;exact AmT A1 ps c1 A2 bs c2 A3 os c3 A args cap vn ve un ue m w hk0 h.2 hl hl1 hl2 hm hb ht
     ·by_cases h11:kind=11
      ·subst h11;exact AhV A1 ps c1 A2 bs c2 A3 os c3 A args cap vn ve un ue m w hk0 h.2 hl hl1 hl2 hm hb ht
      ·exact AmU A1 ps c1 A2 bs c2 A3 os c3 kind A args cap vn ve un ue m w h0 h1 h2 h6 h11 hk0 h.2 hl hl1 hl2 hm hb ht
 ·exact AdZ d b w h hl
theorem AmV {p q r:Int} (h:DI ⟨p,q,r⟩=0) : -2147483648≤p∧p≤q∧q<2147483648∧0≤r∧r≤30:=by
 unfold DI at h
 by_cases h2 : -2147483648≤p∧p≤q∧q<2147483648∧0≤r∧r≤30
 ·exact h2
 ·rw [if_neg h2] at h;cases h
theorem AhW {p q r:Int} (h:¬ DI ⟨p,q,r⟩=0):DI ⟨p,q,r⟩=3:=by
 unfold DI at h ⊢
 by_cases h2 : -2147483648≤p∧p≤q∧q<2147483648∧0≤r∧r≤30
 ·exact absurd (if_pos h2) h
 ·exact if_neg h2
theorem Check_any (d:Dg) (m:Nat) (w:World) (hm:m≤w.heap.size) (hd:AdU w m d) (ht:An w) :
    Calls prog 22 #[d.val] w fun e w'=>e=.returned (EK (Av d.ps d.bs d.os))∧Below w.heap.size w w':=by
  have hl1:=hd.l1
  have hl2:=hd.l2
  have hl3:=hd.l3
  have HD:=mi hd
  have HT:=mi ht
  clear hd ht
  obtain ⟨A1,ps,c1,A2,bs,c2,A3,os,c3⟩:=d
  dsimp only at hl1 hl2 hl3
  simp only [Dg.val]
  by_cases hsz:CT ps bs os
  · have HSZ:=mi hsz
    clear hsz
    have l1':(ps.length:Int)≤16:=by have:=HSZ.out.1;omega
    have l2':(bs.length:Int)≤64:=by have:=HSZ.out.2.1;omega
    have l3':(os.length:Int)≤16:=by have:=HSZ.out.2.2;omega
    have r0:=BQ.new_ w [.slice A1 ps.length c1,.slice A2 bs.length c2,.slice A3 os.length c3] 26
    have b0:=al_ w (.cells #[.slice A1 ps.length c1,.slice A2 bs.length c2,.slice A3 os.length c3] 26)
    go_enter func22,ntmps22
    go_wp2_with fail
    all_goals try (exfalso;omega)
    go_loopw [32] (fun i wr=>AmP w [.slice A1 ps.length c1,.slice A2 bs.length c2,.slice A3 os.length c3] (ps.map DI) i wr) (fun i _=>ps.length - (intOf i).toNat)
    case atStart=>exact ⟨0,af _,rfl,rfl,r0,b0⟩
    case round =>
      as_aux_lemma =>
        clear r0 b0
        obtain ⟨k,hk,rfl,hf,hbox,hb⟩:=hrel
        have HF:=mi hf
        have HB:=mi hbox
        have z0:=hbox.lt
        have q1:wr.cell? ⟨w.heap.size,1,none⟩=some (.slice A2 bs.length c2):=hbox.cell 1
        clear hf hbox
        rw [ad] at hk
        by_cases hlt:k<ps.length
        · obtain ⟨b,off,x,rfl,hbm,hbs,hx,hc⟩:=(HD.out.below hb hm).ps.row (s:=3) (fun _=>rfl) (by omega) hlt
          obtain ⟨plo,phi,pfr⟩:=x
          have g0:wr.cell? ⟨b,off+k*3,none⟩=some (.int .i64 plo):=hc 0 _ rfl
          have g1:=hc 1 _ rfl
          have g2:=hc 2 _ rfl
          dsimp only at g1 g2
          have HX:=mi hx
          clear hc hx
          by_cases hp:DI ⟨plo,phi,pfr⟩=0
          · have HPE:=mi hp
            have hp2 : -2147483648≤plo∧plo≤phi∧phi<2147483648∧0≤pfr∧pfr≤30:=AmV hp
            obtain ⟨p1,p2,p3,p4,p5⟩:=hp2
            clear hp
            go_wp2_with fail
            all_goals try (exfalso;omega)
            exact ⟨⟨k+1,by rw [ad];omega,by go_num,fs1 HX.out HPE.out HF.out,HB.out.call (al_ _ _),Au hb _⟩,by simp [intOf];omega⟩
          · have h3:DI ⟨plo,phi,pfr⟩=3:=AhW hp
            have HE:=mi (de1 HSZ.out (pe1 (bs:=bs) (os:=os) HX.out h3 (by decide) HF.out) (by decide))
            have hp2:¬ (-2147483648≤plo∧plo≤phi∧phi<2147483648∧0≤pfr∧pfr≤30):=fun h=>hp (if_pos h)
            have HP2:=mi hp2
            clear hp h3 hp2
            go_wp2_with fail
            all_goals first
              | (go_ret
                 exact ⟨AcM (k:=3) (HE.out) (by decide),Au hb _⟩)
              | (exfalso;exact HP2.out ⟨by omega,by omega,by omega,by omega,by omega⟩)
        · have P1:=mi (Gi (k:=k) (by rw [ad];omega) HF.out)
          clear HF
          go_wp2_with fail
          clear q1 hk hlt
          obtain ⟨w2,hw2⟩:∃ w2,w2=wr:=⟨_,rfl⟩
          rw [←hw2] at HB hb
          rw [←hw2]
          clear hw2 z0
          go_loopw [66] (fun i wr=>AmP w [.slice A1 ps.length c1,.slice A2 bs.length c2,.slice A3 os.length c3] (bs.map (Be ps.length bs.length)) i wr) (fun i _=>bs.length - (intOf i).toNat)
          case atStart=>exact ⟨0,af _,rfl,rfl,HB.out,hb⟩
          case round =>
            as_aux_lemma =>
              clear HB hb
              obtain ⟨k,hk,rfl,hf,hbox,hb⟩:=hrel
              have HF:=mi hf
              have HB:=mi hbox
              have z0:=hbox.lt
              have q0:wr.cell? ⟨w.heap.size,0,none⟩=some (.slice A1 ps.length c1):=hbox.cell 0
              have q1:wr.cell? ⟨w.heap.size,1,none⟩=some (.slice A2 bs.length c2):=hbox.cell 1
              have q2:wr.cell? ⟨w.heap.size,2,none⟩=some (.slice A3 os.length c3):=hbox.cell 2
              clear hf hbox
              rw [ad] at hk
              by_cases hlt:k<bs.length
              · obtain ⟨b,off,kind,KA,args,cap,vn,ve,un,ue,hA,hbm,hbs,hx,g0,g1,g2,g3,g4,g5,ha,hal⟩:=(HD.out.below hb hm).blk hlt
                dsimp only at hA hx
                subst hA
                have HX:=mi hx
                have HA:=mi ha
                clear hx ha
                go_wp2_with fail
                go_at_call 64
                refine (Mu ⟨A1,ps,c1,some ⟨b,off,none⟩,bs,c2,A3,os,c3⟩ ⟨kind,KA,args,cap,vn,ve,un,ue⟩ m _ (by have:=hb.size;simp;omega) (HA.out.below (al_ _ _) (by have:=hb.size;omega)) hal hl1 hl2 ((HT.out.below hb HT.out.1).below (al_ _ _) (HT.out.below hb HT.out.1).1)).mono ?_
                rintro e w5 ⟨rfl,hb5⟩
                dsimp only at hb5 ⊢
                have HB5:=mi ((HB.out.call (al_ _ _)).call hb5)
                have N5:=mi ((Au hb (.cells #[.int .i64 kind,.slice KA args.length cap,.int .i64 vn,.int .i64 ve,.int .i64 un,.int .i64 ue] 65)).trans (hb5.mono (by have:=hb.size;simp;omega)))
                clear hb5 g0 g1 g2 g3 g4 g5 q0 q1 q2
                obtain ⟨E,hE⟩:∃ E,Be ps.length bs.length ⟨kind,KA,args,cap,vn,ve,un,ue⟩=E:=⟨_,rfl⟩
                have HEE:=mi hE
                rw [hE]
                clear hE
                by_cases he0:E=0
                · have HE0:=mi (HEE.out.trans he0)
                  rw [he0,Gj]
                  clear he0
                  go_wp2_with fail
                  exact ⟨⟨k+1,by rw [ad];omega,by go_num,fs1 HX.out HE0.out HF.out,HB5.out,N5.out⟩,by simp [intOf];omega⟩
                · have HE:=mi (de1 HSZ.out (pe2 (os:=os) P1.out HX.out HEE.out he0 HF.out) he0)
                  rw [Mg he0]
                  have HE0:=mi he0
                  clear he0
                  go_wp2_with fail
                  go_ret
                  exact ⟨AcM HE.out HE0.out,N5.out⟩
              · have P2:=mi (Gi (k:=k) (by rw [ad];omega) HF.out)
                clear HF
                go_wp2_with fail
                clear q0 q1 q2 hk hlt
                obtain ⟨w3,hw3⟩:∃ w3,w3=wr:=⟨_,rfl⟩
                rw [←hw3] at HB hb
                rw [←hw3]
                clear hw3 z0
                go_loopw [80] (fun i wr=>AmP w [.slice A1 ps.length c1,.slice A2 bs.length c2,.slice A3 os.length c3] (os.map (Ll bs.length)) i wr) (fun i _=>os.length - (intOf i).toNat)
                case atStart=>exact ⟨0,af _,rfl,rfl,HB.out,hb⟩
                case round =>
                  as_aux_lemma =>
                    clear HB hb
                    obtain ⟨k,hk,rfl,hf,hbox,hb⟩:=hrel
                    have HF:=mi hf
                    have HB:=mi hbox
                    have z0:=hbox.lt
                    have q0:wr.cell? ⟨w.heap.size,0,none⟩=some (.slice A1 ps.length c1):=hbox.cell 0
                    have q1:wr.cell? ⟨w.heap.size,1,none⟩=some (.slice A2 bs.length c2):=hbox.cell 1
                    have q2:wr.cell? ⟨w.heap.size,2,none⟩=some (.slice A3 os.length c3):=hbox.cell 2
                    clear hf hbox
                    rw [ad] at hk
                    by_cases hlt:k<os.length
                    · obtain ⟨b,off,z,rfl,hbm,hbs,hx,hc⟩:=(HD.out.below hb hm).os.int_ hlt
                      have HX:=mi hx
                      clear hx
                      by_cases ho:0≤z∧z<(bs.length:Int)
                      · have HOE := mi (show Ll bs.length z = 0 from if_pos ho)
                        obtain ⟨o1,o2⟩:=ho
                        go_wp2_with fail
                        all_goals try (exfalso;omega)
                        exact ⟨⟨k+1,by rw [ad];omega,by go_num,fs1 HX.out HOE.out HF.out,HB.out,hb⟩,by simp [intOf];omega⟩
                      · have HE:=mi (de1 HSZ.out (pe3 P1.out P2.out HX.out (if_neg ho) (by decide) HF.out) (by decide))
                        have HO:=mi ho
                        clear ho
                        go_wp2_with fail
                        all_goals first
                          | (go_ret
                             exact ⟨AcM (k:=10) (HE.out) (by decide),hb⟩)
                          | (exfalso;exact HO.out ⟨by omega,by omega⟩)
                    · have P3:=mi (Gi (k:=k) (by rw [ad];omega) HF.out)
                      have HE:=mi (de2 HSZ.out (pe4 P1.out P2.out P3.out))
                      have HSO:=mi (TV P2.out)
                      clear HF
                      go_wp2_with fail
                      obtain ⟨w4,hw4⟩:∃ w4,w4=wr:=⟨_,rfl⟩
                      rw [←hw4] at z0 q0 q1 q2 hb
                      rw [←hw4]
                      have HB4:=mi hb
                      clear hw4 HB hb hlt hk
                      go_at_call 65
                      refine (AdX ⟨A1,ps,c1,A2,bs,c2,A3,os,c3⟩ m w4 (by have:=HB4.out.size;omega) (HD.out.below HB4.out hm) HSO.out).mono ?_
                      rintro e w7 ⟨v7,rfl,_,hb7⟩
                      dsimp only
                      go_wp2_with fail
                      go_ret
                      exact ⟨by rw [HE.out];rfl,HB4.out.trans (hb7.mono HB4.out.size)⟩
  · have HE:=mi (de0 hsz)
    have b0:=al_ w (.cells #[.slice A1 ps.length c1,.slice A2 bs.length c2,.slice A3 os.length c3] 26)
    have key:16<(ps.length:Int)∨((ps.length:Int)≤16∧64<(bs.length:Int))∨((ps.length:Int)≤16∧(bs.length:Int)≤64∧16<(os.length:Int)):=by
      unfold CT at hsz
      omega
    clear hsz
    rcases key with k1|⟨k1,k2⟩|⟨k1,k2,k3⟩
    all_goals
      go_enter func22,ntmps22
      go_wp2_with fail
      all_goals try (exfalso;omega)
      go_ret
      exact ⟨AcM (k:=4) (HE.out) (by decide),b0⟩
theorem FK {bs:List Bk} (h:Av ps bs os=0):CT ps bs os∧Dc ps bs os=0∧Db bs=0:=by
 unfold Av at h
 by_cases h1:CT ps bs os
 ·rw [if_neg (not_not_intro h1)] at h
  by_cases h2:Dc ps bs os=0
  ·rw [if_neg (not_not_intro h2)] at h
   exact ⟨h1,h2,h⟩
  ·rw [if_pos h2] at h
   exact absurd h h2
 ·rw [if_pos h1] at h;cases h
theorem QH {bs:List Bk} (h:Dc ps bs os=0):Ai (bs.map (Be ps.length bs.length))=0:=by
 unfold Dc at h
 rw [Aw] at h
 by_cases h1:Ai (ps.map DI)=0
 ·rw [if_pos h1,Aw] at h
  by_cases h2:Ai (bs.map (Be ps.length bs.length))=0
  ·exact h2
  ·rw [if_neg h2] at h;exact h
 ·rw [if_neg h1] at h;exact absurd h h1
theorem Yh {bs:List Bk} (h:Av ps bs os=0):Lk bs:=TV (QH (FK h).2.1)
theorem Aeb (n j:Nat):isM (List.replicate n false) j=false:=by
 unfold isM
 rw [jr]
 split <;> rfl
theorem AqX (m:List Bool):unM m≤m.length:=gn _ _
theorem BQ.al {b t:Nat} (h:BQ w b vs t) (o:Obj):BQ (w.alloc o) b vs t:=h.call (al_ w o)
set_option maxRecDepth 100000
def Ako (z:Int):Prop := -9223372036854775808≤z∧z≤9223372036854775807
def AqY (zs:List Int):Prt:=⟨zs.getD 0 0,zs.getD 1 0,zs.getD 2 0⟩
theorem Yi (zs:List Int) (h:zs.length=3):(AqY zs).cells=CR zs:=by
 match zs,h with
 | [_,_,_],_=>rfl
theorem SI {fs:Array Field} (h:fs.all (fun f=>f.type == 3)=true):∀ (i:Nat) (f:Field),fs[i]?=some f→prog.underlying f.type=some (.int .i64):=by
 intro i f hf
 have hi:=(Array.getElem?_eq_some_iff.1 hf)
 have:=Array.all_eq_true.1 h i hi.1
 rw [hi.2] at this
 have e:f.type=3:=by simpa using this
 rw [e]
 exact underlying3
section
variable {H:Type} {enc:TypeId × Value→H} {w:World} {spare:Nat→Bool} {held:Bool}
def bkB (x:Bk):Prop:=Ako x.kind∧Ako x.vn∧Ako x.ve∧Ako x.un∧Ako x.ue
theorem SJ {cs:List Value} {x:DataW H × List MemPlace} (h:DataW.trod enc prog w 0 spare held fuel 63 cs=some x):∃ n e:Int,cs=[.int .i64 n,.int .i64 e]∧Ako n∧Ako e:=by
 obtain ⟨zs,rfl,hl,hz⟩:=ZK underlying63 (by kernel_rfl) (SI (by kernel_rfl)) (by kernel_rfl) h
 match zs,hl with
 | [n,e],_=>exact ⟨n,e,rfl,hz _ (by simp),hz _ (by simp)⟩
theorem AmW {cs:List Value} {x:DataW H × List MemPlace} (h:DataW.trod enc prog w 0 spare held fuel 65 cs=some x) :
  ∃ b:Bk,cs=b.cells∧(b.A=none→b.cap=0)∧b.args.length≤b.cap∧b.args.length≤maxLen∧Aj w w.heap.size b.A (CR b.args)∧(∀ z∈b.args,Ako z)∧bkB b:=by
 obtain ⟨xs,n,_,_,hlen,hxl,hg⟩:=il underlying65 h
 have hl6:cs.length=6:=hlen.trans (by kernel_rfl)
 match cs,hl6 with
 | [c0,c1,c2,c3,c4,c5],_ =>
  have k1:prog.cellsOf 3=1:=by kernel_rfl
  have k2:prog.cellsOf 24=1:=by kernel_rfl
  have k3:prog.cellsOf 63=2:=by kernel_rfl
  have hx4:xs.length=4:=hxl
  match xs,hx4 with
  | [x0,x1,x2,x3],_ =>
   have g0:DataW.trod enc prog w 0 spare held n 3 (([c0,c1,c2,c3,c4,c5].drop 0).take (prog.cellsOf 3))=some x0:=hg 0 _ rfl
   have g1:DataW.trod enc prog w 0 spare held n 24 (([c0,c1,c2,c3,c4,c5].drop 1).take (prog.cellsOf 24))=some x1:=hg 1 _ rfl
   have g2:DataW.trod enc prog w 0 spare held n 63 (([c0,c1,c2,c3,c4,c5].drop 2).take (prog.cellsOf 63))=some x2:=hg 2 _ rfl
   have g3:DataW.trod enc prog w 0 spare held n 63 (([c0,c1,c2,c3,c4,c5].drop 4).take (prog.cellsOf 63))=some x3:=hg 3 _ rfl
   rw [k1] at g0
   rw [k2] at g1
   rw [k3] at g2 g3
   obtain ⟨kind,hk,_,hkb⟩:=DataW.trod_int underlying3 g0
   obtain ⟨A,cap,args,ha,hA0,hc1,hc2,hc3,hc4⟩:=EP underlying24 underlying3 (by kernel_rfl) g1
   obtain ⟨vn,ve,hv,b1,b2⟩:=SJ g2
   obtain ⟨un,ue,hu,b3,b4⟩:=SJ g3
   refine ⟨⟨kind,A,args,cap,vn,ve,un,ue⟩,?_,hA0,hc1,hc2,hc3,hc4,bounds_i64 hkb,b1,b2,b3,b4⟩
   have e0:[c0]=[Value.int .i64 kind]:=hk
   have e2:[c2,c3]=[Value.int .i64 vn,Value.int .i64 ve]:=hv
   have e3:[c4,c5]=[Value.int .i64 un,Value.int .i64 ue]:=hu
   simp only [List.cons.injEq,and_true] at e0 e2 e3
   rw [e0,ha,e2.1,e2.2,e3.1,e3.2]
   rfl
instance:Inhabited Bk:=⟨bk0⟩
end
/- Light. -/
theorem TW {α:Type} {p:α→Bool} {l:List α} {k:Nat} {x:α} (hx:l[k]?=some x) (h:(l.take k).all p=true) (hp:p x=true):(l.take (k+1)).all p=true:=by
 rw [ak,hx,List.all_append,h]
 simp [hp]
theorem Pr {xs:List Value} (h:AP (Ba w S) (vs.map .val) xs):xs=vs:=by
 induction vs generalizing xs with
 | nil=>exact h.unnil
 | cons v vs ih =>
  obtain ⟨x,xs',rfl,h1,h2⟩:=(show AP (Ba w S) (D.val v::vs.map .val) xs from h).uncons
  cases h1
  rw [ih h2]
theorem GV (h:∀ v∈vs,v.oneCell'=true):AP (Ba w S) (vs.map .val) vs :=
 ⟨by simp,fun j d v hd hv=>by
  simp only [ag,hv,bp,Option.some.injEq] at hd
  subst hd
  exact .val (h v (gM hv))⟩
theorem ZO (hlt:∀ t b,S t b→b<w.heap.size) {t:Bool} {s n:Nat} {cs:List D} {v:Value} (h:Ba w S (.row t s n cs) v) :
  ∃ A c xs,v=.slice A n c∧(A=none→c=0)∧n≤c∧cs.length=n*s∧AP (Ba w S) cs xs∧Aj w w.heap.size A xs:=by
 cases h with
 | @row _ _ _ c _ A xs hc hA hl hx hm hr =>
  refine ⟨A,c,xs,rfl,hA,hc,hl,⟨hx,hr⟩,fun hne=>?_⟩
  obtain ⟨b,off,h1,h2,h3⟩:=hm (fun h0=>hne (by rw [h0] at hx;exact bj (by simpa using hx.symm)))
  exact ⟨b,off,h1,hlt _ _ h2,hlt _ _ h2,h3⟩
theorem Ps (hlt:∀ t b,S t b→b<w.heap.size) {t:Bool} {s n:Nat} {vs:List Value} {v:Value} (h:Ba w S (.row t s n (vs.map .val)) v) :
  ∃ A c,v=.slice A n c∧(A=none→c=0)∧n≤c∧vs.length=n*s∧Aj w w.heap.size A vs:=by
 obtain ⟨A,c,xs,h1,h2,h3,h4,h5,h6⟩:=ZO hlt h
 rw [Pr h5] at h6
 exact ⟨A,c,h1,h2,h3,by simpa using h4,h6⟩
theorem Ww (xs:List Int):xs.map dI=(CR xs).map .val:=by simp [CR,dI]
theorem Mv (hlt:∀ t b,S t b→b<w.heap.size) {t:Bool} {xs:List Int} {v:Value} (h:Ba w S (AM t xs) v):∃ A c,v=.slice A xs.length c∧(A=none→c=0)∧xs.length≤c∧Aj w w.heap.size A (CR xs):=by
 unfold AM at h
 rw [Ww] at h
 obtain ⟨A,c,h1,h2,h3,_,h4⟩:=Ps hlt h
 exact ⟨A,c,h1,h2,h3,h4⟩
theorem Aec {e n:Nat} {xs:List Value} (h:w'.ownsRow w.heap.size e s v n xs) (h1:∀ u∈xs,u.oneCell'=true):Ba w' (VW w w') (.row false s n (xs.map .val)) v:=by
 have hl:=h.1
 rcases h.2 with ⟨rfl,rfl⟩|⟨g,cap,cur,rfl,hb,hg,hnc,hcm,hcs,htk⟩
 ·have:xs=[]:=bj (by simpa using hl)
  subst this
  exact .row [] (aa _) (fun _=>rfl) (by simp) rfl (fun h=>absurd rfl h) (fun j u x h=>by simp at h)
 ·have hlt:=(Array.getElem?_eq_some_iff.1 hg).1
  refine .row xs hnc (by simp) (by simpa using hl) (by simp) (fun _=>⟨g,0,rfl,⟨rfl,hb,hlt⟩,fun j x hj=>?_⟩) (GV h1).2
  rw [ax,Pc h (gS.1 hj).1]
  exact hj
theorem NK (h:Dv w' w.heap.size v xs):Ba w' (VW w w') (AM false xs) v:=by
 unfold AM
 rw [Ww]
 exact Aec h (fun u hu=>by obtain ⟨z,_,rfl⟩:=List.mem_map.1 hu;rfl)
def AmX (p:Prt):List D:=[dI p.lo,dI p.hi,dI p.fr]
def dBk (t:Bool) (b:Bk):List D:=[dI b.kind,AM t b.args,dI b.vn,dI b.ve,dI b.un,dI b.ue]
def Vm (x:Ins):List D:=[dI x.op,dI x.dst,dI x.a,dI x.b,dI x.sa,dI x.sb,dI x.imm]
def CU (t:Bool) (ps:List Prt):D:=.row t 3 ps.length (Ar AmX ps)
def Dw (t:Bool) (bs:List Bk):D:=.row t 6 bs.length (Ar (dBk t) bs)
def Ahh (t:Bool) (xs:List Ins):D:=.row t 7 xs.length (Ar Vm xs)
def dDg (t:Bool) (ps:List Prt) (bs:List Bk) (os:List Int):List D:=[CU t ps,Dw t bs,AM t os]
def aDg (t:Bool) (ps:List Prt) (bs:List Bk) (os:List Int):A:=.agg (dDg t ps bs os)
def aE (n:Int):A:=.one (.val (EK n))
theorem ZP (n:Int):(EK n).oneCell'=true:=by unfold EK;split <;> rfl
theorem Gy {α:Type} {f:α→List D} {g:α→List Value} (h:∀ x,f x=(g x).map .val) (l:List α):Ar f l=(Eg g l).map .val:=by
 induction l with
 | nil=>rfl
 | cons x l ih =>
  simp only [Ar,Eg,br,gg,ct] at ih ⊢
  rw [ih,h]
theorem Mw (p:Prt):AmX p=(Prt.cells p).map .val:=rfl
theorem Aed (p:Ins):Vm p=(Ins.cells p).map .val:=rfl
def Bk.z (b:Bk):Bk:={ b with A:=none,cap:=0 }
section
variable (bs:List Bk)
theorem bk_z (i:Nat):((bs.map Bk.z)[i]?.getD bk0)=(bs[i]?.getD bk0).z:=by
 rw [ag]
 cases bs[i]? <;> rfl
theorem Pt:AQ (bs.map Bk.z)=AQ bs:=funext fun i=>by unfold AQ;rw [bk_z];rfl
theorem AhX:Qy (bs.map Bk.z)=Qy bs:=funext fun i=>by unfold Qy;rw [bk_z];rfl
theorem Aee:Hl (bs.map Bk.z)=Hl bs:=funext fun i=>by unfold Hl;rw [Pt,AhX]
theorem AmY:Dd (bs.map Bk.z)=Dd bs:=funext fun o=>funext fun j=>by unfold Dd;rw [Pt]
theorem AuK:rdy (bs.map Bk.z)=rdy bs:=funext fun o=>funext fun j=>by unfold rdy;rw [AmY,Aee]
theorem AuL:nxt (bs.map Bk.z)=nxt bs:=funext fun o=>by unfold nxt;rw [AuK,ad]
theorem Akp:∀ f o,Sq (bs.map Bk.z) f o=Sq bs f o
 | 0,o=>rfl
 | f+1,o=>by
  unfold Sq
  rw [AuL]
  cases nxt bs o with
  | none=>rfl
  | some i=>exact Akp f _
theorem AqZ:Bb (bs.map Bk.z)=Bb bs:=by unfold Bb;rw [Akp,ad]
theorem AhY:Cy (bs.map Bk.z)=Cy bs:=by unfold Cy;rw [Pt,ad]
theorem AhZ:Db (bs.map Bk.z)=Db bs:=by unfold Db;rw [AqZ,AhY]
theorem Aef (ps:List Prt) (os:List Int):Av ps (bs.map Bk.z) os=Av ps bs os:=by
 have h1:CT ps (bs.map Bk.z) os=CT ps bs os:=by unfold CT;rw [ad]
 have h2:Dc ps (bs.map Bk.z) os=Dc ps bs os:=by
  unfold Dc
  rw [ad,bw]
  rfl
 unfold Av
 simp only [h1,h2,AhZ]
end
theorem Aeg {w:World} {S:Dm} {t:Bool} (hlt:∀ t b,S t b→b<w.heap.size):∀ {bs:List Bk} {xs:List Value},AP (Ba w S) (Ar (dBk t) bs) xs→∃ bs',xs=Eg Bk.cells bs'∧bs'.map Bk.z=bs.map Bk.z∧∀ b∈bs',Aj w w.heap.size b.A (CR b.args)
 | [],xs,h=>by
  have:=(show AP (Ba w S) [] xs from h).unnil
  exact ⟨[],this,rfl,by simp⟩
 | b::bs,xs,h=>by
  have h':AP (Ba w S) (dI b.kind::AM t b.args::dI b.vn::dI b.ve::dI b.un::dI b.ue::Ar (dBk t) bs) xs:=h
  obtain ⟨v0,x1,rfl,q0,h⟩:=h'.uncons
  obtain ⟨v1,x2,rfl,q1,h⟩:=h.uncons
  obtain ⟨v2,x3,rfl,q2,h⟩:=h.uncons
  obtain ⟨v3,x4,rfl,q3,h⟩:=h.uncons
  obtain ⟨v4,x5,rfl,q4,h⟩:=h.uncons
  obtain ⟨v5,x6,rfl,q5,h⟩:=h.uncons
  obtain ⟨bs',rfl,h2,h3⟩:=Aeg hlt h
  obtain ⟨A,c,rfl,_,_,hc⟩:=Mv hlt q1
  cases q0;cases q2;cases q3;cases q4;cases q5
  refine ⟨⟨b.kind,A,b.args,c,b.vn,b.ve,b.un,b.ue⟩::bs',rfl,?_,fun x hx=>?_⟩
  ·simp only [br,h2]
   rfl
  ·rcases List.mem_cons.1 hx with rfl|hx
   ·exact hc
   ·exact h3 x hx
structure EF (ps:List Prt) (bs:List Bk) (os:List Int):Prop where
 l1:ps.length≤1000000
 l2:bs.length≤1000000
 l3:os.length≤1000000
 la:∀ b∈bs,b.args.length≤1000000
theorem AmZ (hlt:∀ t b,S t b→b<w.heap.size) {t:Bool} {ps:List Prt} {bs:List Bk} {os:List Int} {v:Value} (h:EA w S (aDg t ps bs os) v) (hl:EF ps bs os) :
  ∃ d:Dg,v=d.val∧AdU w w.heap.size d∧d.ps=ps∧d.bs.map Bk.z=bs.map Bk.z∧d.os=os∧(d.A1=none→d.c1=0)∧(d.A3=none→d.c3=0):=by
 obtain ⟨xs,rfl,hl0⟩:=h
 obtain ⟨v0,x1,rfl,q0,h⟩:=AP.uncons hl0
 obtain ⟨v1,x2,rfl,q1,h⟩:=h.uncons
 obtain ⟨v2,x3,rfl,q2,h⟩:=h.uncons
 have:=h.unnil
 subst this
 unfold CU at q0
 rw [Gy Mw] at q0
 obtain ⟨A1,c1,rfl,n1,_,_,k1⟩:=Ps hlt q0
 obtain ⟨A2,c2,ys,rfl,_,_,hlen,hr,k2⟩:=ZO hlt q1
 obtain ⟨bs',rfl,h2,h3⟩:=Aeg hlt hr
 obtain ⟨A3,c3,rfl,n3,_,k3⟩:=Mv hlt q2
 have hbl:bs'.length=bs.length:=by have:=congrArg List.length h2;simpa using this
 refine ⟨⟨A1,ps,c1,A2,bs',c2,A3,os,c3⟩,?_,⟨k1,k2,k3,fun b hb=>⟨h3 b hb,?_⟩,hl.l1,by show bs'.length≤_;rw [hbl];exact hl.l2,hl.l3⟩,rfl,h2,rfl,n1,n3⟩
 ·simp [Dg.val,hbl]
 ·have hz:b.z∈bs.map Bk.z:=by rw [←h2];exact fo hb
  obtain ⟨b0,hb0,he⟩:=List.mem_map.1 hz
  have:b.args=b0.args:=(congrArg Bk.args he).symm
  rw [this]
  exact hl.la b0 hb0
theorem TX (w w':World) (h:Below w.heap.size w w') (ht:An w):An w':=ht.call h
theorem TY {x y:A} {a b:Value} (h1:EA w S x a) (h2:EA w S y b):Ahf w S [x,y] (.tuple #[a,b]):=⟨[a,b],rfl,.cons_ h1 (.cons_ h2 .nil_)⟩
theorem CG {x:A} (h:AP (EA w S) [x] vs):∃ v,vs=[v]∧EA w S x v:=by
 obtain ⟨v,vs',rfl,h1,h2⟩:=h.uncons
 rw [h2.unnil]
 exact ⟨v,rfl,h1⟩
theorem Gc {t:Bool} {bs:List Bk} {k:Nat} {y:Bk} (h:bs[k]?=some y):((Ar (dBk t) bs).drop (k*6)).take 6=dBk t y:=EO (f:=dBk t) (s:=6) (fun _=>rfl) h
theorem Gz {k:Nat} {y:Prt} (h:ps[k]?=some y):((Ar AmX ps).drop (k*3)).take 3=AmX y:=EO (f:=AmX) (s:=3) (fun _=>rfl) h
theorem Akq {xs:List Ins} {k:Nat} {y:Ins} (h:xs[k]?=some y):((Ar Vm xs).drop (k*7)).take 7=Vm y:=EO (f:=Vm) (s:=7) (fun _=>rfl) h
theorem AF {k:Nat} {z:Int} (h:xs[k]?=some z):((xs.map dI).drop (k*1)).take 1=[dI z]:=ZC h
theorem ZQ (xs:List Int):Dn (AM false xs):=.row fun d hd=>by obtain ⟨z,_,rfl⟩:=List.mem_map.1 hd;exact .val _
theorem Ce {α:Type} {f:α→List D} (hf:∀ x,∀ d∈f x,Dn d) (l:List α):∀ d∈Ar f l,Dn d:=fun d hd=>by
 obtain ⟨ds,h1,h2⟩:=List.mem_flatten.1 hd
 obtain ⟨x,_,rfl⟩:=List.mem_map.1 h1
 exact hf x d h2
theorem TZ (x:Prt):∀ d∈AmX x,Dn d:=fun d hd=>by simp only [AmX,et,ew,or_false] at hd;rcases hd with rfl|rfl|rfl <;> exact .val _
theorem ZR (x:Ins):∀ d∈Vm x,Dn d:=fun d hd=>by simp only [Vm,et,ew,or_false] at hd;rcases hd with rfl|rfl|rfl|rfl|rfl|rfl|rfl <;> exact .val _
section
variable {P:Program} {G:World→Prop} {o:Oper} {F:Frm} {H:List Ob}
theorem Bn {x:Operand} (ho:o.op=.binOp .neq t x (.const .nilIface) t') (ht:TyI P t) (hx:F.ev x=.one (.d (.val (EK E)))) (hb:(E != 0)=b):AU P G o F H (.one (.d (.val (.bool b)))) []:=by
 by_cases h:E=0
 ·refine TI ho ht hx (.inr (.inl ⟨rfl,?_,?_⟩))
  ·rw [h,Gj]
  ·rw [←hb,OS h]
 ·refine TI ho ht hx (.inr (.inr (.inr ⟨rfl,⟨_,_,Mg h⟩,?_⟩)))
  rw [←hb,GM h]
theorem De {x:Operand} (ho:o.op=.binOp .eql t x (.const .nilIface) t') (ht:TyI P t) (hx:F.ev x=.one (.d (.val (EK E)))) (hb:(E == 0)=b):AU P G o F H (.one (.d (.val (.bool b)))) []:=by
 by_cases h:E=0
 ·refine TI ho ht hx (.inl ⟨rfl,?_,?_⟩)
  ·rw [h,Gj]
  ·rw [←hb,Qu h]
 ·refine TI ho ht hx (.inr (.inr (.inl ⟨rfl,⟨_,_,Mg h⟩,?_⟩)))
  rw [←hb,VY h]
theorem AcN {t:Tmp} (hF:F t=.one (.d (.val (EK E)))) (hz:E=E'):RV P F H (.tmp t) (aE E'):=.tmp (by rw [hF,hz];exact .one (.d fun _=>.val _))
theorem Fv {t:Tmp} (hF:F t=.one (.d (.val .nilIface))) (hz:E'=0):RV P F H (.tmp t) (aE E'):=.tmp (by rw [hF,hz];exact .one (.d fun _=>.val _))
theorem AbC {t:Tmp} (hF:F t=.one (.d (.val (.iface 85 (.int .i64 n))))) (h0:n≠0) (hz:E'=n):RV P F H (.tmp t) (aE E'):=.tmp (by rw [hF,hz,←Mg h0];exact .one (.d fun _=>.val _))
theorem ZS {t:Tmp} {ty ty' k:Nat} {cs:List C} {ds:List D} {y:A} (hF:F t=.one (.ref id 0 none)) (hH:H[id]?=some (.box ty' cs)) (hk:TyK P ty true k) (hi:cs.length=k) (hy:y=.agg ds) (h:AP (FA false H) cs ds):RV P F H (.cell t ty) y:=by
 obtain ⟨d,h1,h2⟩:=hk.h
 rw [hy]
 exact .cellA hF hH h1 h2 (by rw [hk.s,hi]) h
end
structure Hd9 (p:Prop):Prop where
 o:p
theorem qq {p':Prop} (k:p') (h:p'→p:=by first|exact qa|exact qb|exact qc|exact qd|exact qe|exact qf|exact qg|exact qh|exact qi|exact qj|exact qk|exact ql rfl|exact qm rfl|exact qn rfl|exact Je):p:=h k
theorem cvz {c:Code} {N:Nat} {args res:List A} (hf:prog.funcs[f]?=some fn) (hN:fn.ntmps=N) (k:CW prog An N c (F0 args) [] (Aqu prog fn res)) (hb:fn.body=some c:=by exact rfl) (ha:args.length≤N:=by exact bl rfl):CV prog An f args res:=Amv TX hf hb hN ha k
section
variable {P:Program} {G:World→Prop} {o:Oper} {F:Frm} {H:List Ob}
theorem xNE {x:Operand} (ht:TyI P t) (ho:o.op=.binOp .neq t x (.const .nilIface) t':=by with_unfolding_all exact rfl) (hx:F.ev x=.one (.d (.val (EK E))):=by with_unfolding_all exact rfl) (hb:(E != 0)=b:=by first|exact OS rfl|exact OS (by omega)|exact GM (by first|assumption|omega)|exact rfl):AU P G o F H (.one (.d (.val (.bool b)))) []:=Bn ho ht hx hb
theorem xNt {x:Operand} (ho:o.op=.unOp .not t x:=by with_unfolding_all exact rfl) (hx:F.ev x=.one (.d (.val (.bool b))):=by with_unfolding_all exact rfl):AU P G o F H (.one (.d (.val (.bool (!b))))) []:=Adv ho hx
theorem xNg {x:Operand} {p:Int} (ho:o.op=.unOp .neg t x:=by with_unfolding_all exact rfl) (hx:F.ev x=.one (.d (.val (.int .i64 p))):=by with_unfolding_all exact rfl) (hb : -9223372036854775807≤p∧p≤9223372036854775807:=by omega):AU P G o F H (.one (.d (.val (.int .i64 (-p))))) []:=TG ho hx hb
theorem xM1 {x:Operand} {c:C} (ho:o.op=.move x:=by with_unfolding_all exact rfl) (hx:F.ev x=.one c:=by with_unfolding_all exact rfl):AU P G o F H (.one c) []:=Qt ho hx
theorem xMt {x:Operand} {l:List A} (ho:o.op=.move x:=by with_unfolding_all exact rfl) (hx:F.ev x=.tup l:=by with_unfolding_all exact rfl):AU P G o F H (.tup l) []:=ZD ho hx
theorem xAl {z:Value} {k by_:Nat} (hz:TyZ P t z k by_) (ho:o.op=.alloc t:=by with_unfolding_all exact rfl):AU P G o F H (.one (.ref H.length 0 none)) [.box t (DW z.cells.toList)]:=Ahy ho hz
end
end Go.Proofs.YtjlkgfeepocjfaaGreatDoor
