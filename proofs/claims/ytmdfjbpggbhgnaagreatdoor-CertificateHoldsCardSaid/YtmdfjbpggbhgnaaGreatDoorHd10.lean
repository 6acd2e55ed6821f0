/- What the proofs of this claim share, part 10. No conditions. -/
import Derived.Test.YtmdfjbpggbhgnaaGreatDoorHd9
import Derived.Test.YtmdfjbpggbhgnaaGreatDoorHd6
import Derived.Test.YtmdfjbpggbhgnaaGreatDoorHd3
import Derived.Defers
import Derived.Recover
import Derived.Deep.RegionHeld3
import Derived.Test.YtmdfjbpggbhgnaaGreatDoorRows
import Derived.Laws.AppendOwnNone
import Derived.Laws.OwnMore
set_option maxRecDepth 100000
set_option maxHeartbeats 4000000
set_option linter.all false
open Go.Proofs.Tryz
namespace Go.Proofs.YtmdfjbpggbhgnaaGreatDoor
open Go.RowKit
variable {f:FuncId} {fn:Func} {xs:Array Operand} {ts:Array TypeId} {t t':TypeId} {F:Frm} {fuel i id:Nat} {E E' e n y z:Int} {v:Value} {w:World} {out:List Nat} {p:Prop} {ps:List Prt} {os:List Int} {S:DH} {vs:List Value} {b:Bool}
section
variable (P:Program) (G:World→Prop)
def AhE (o:Oper) (F:Frm) (H:List Ob) (chain:List PanicEntry):Prop :=
 ∀ (b0:Nat) (m:Mm) (a:Act),m.H=H→Cx b0 m→G m.w→b0≤m.w.heap.size→Ama m F a o →
  ∀ (K:Act→World→Prop) (Q:Exit→Act→World→Prop),(∀ w',Below m.w.heap.size m.w w'→Q (.panic chain) a w')→o.wp P a m.w K Q
def CVP (f:FuncId) (args:List A) (chain:List PanicEntry):Prop :=
 ∀ (w:World) (S:DH) (vs:List Value),G w→(∀ t b,S t b→b<w.heap.size)→Ba (EK w S) args vs →
  Calls P f vs.toArray w fun e w'=>e=.panicked chain∧Below w.heap.size w w'
end
section
variable {P:Program} {G:World→Prop} {o:Oper} {F:Frm} {H:List Ob} {chain:List PanicEntry}
theorem Amw {c:Code} (ho:o.op=.call { callee:=.value (.func f),args:=xs,argTypes:=ts })
  (hf : P.funcs[f]? = some fn) (hn : (fn.name == "runtime.NumGoroutine") = false) (hb : fn.body = some c) {args : List A} (h : CVP P G f args chain) (ha : Ba (fun x y => Lj true H (F.ev x) y) xs.toList args) :
  AhE P G o F H chain:=by
 intro b0 m a hH hx hg hb0 hor K Q hK
 have hxs:∀ x∈xs.toList,Fh m (F.ev x) (a.eval x):=fun x hm=>Be hor (by
  rw [ho]
  simp only [Op.operands,Call.operands,im,eo]
  exact .inr hm)
 let Sx:DH:=fun t b=>m.S t b∨(t=true∧∃ id e,m.E id=some e∧e.own=some b)
 have hcalls:=h m.w Sx (xs.toList.map a.eval) hg (fun t b hb=>by
  rcases hb with hb|⟨_,id,e,he,hown⟩
  ·exact hx.lt t b hb
  ·exact (Et.lt (hx.each id e he).1 hown).2) ⟨by rw [af];exact ha.1.symm,fun j y v hy hv=>by
   simp only [ag,dk] at hv
   obtain ⟨x,hxj,rfl⟩:=hv
   exact Lj.rel hx (fun b hb=>.inl hb) (fun _ b hb=>.inl hb) (fun id e g he hg=>.inr ⟨rfl,id,e,he,hg⟩) (hH ▸ ha.2 j x y hxj hy) (hxs x (gM hxj))⟩
 unfold Oper.wp execOp
 simp only [ho,resolve,Act.eval,Deferred.ofValue,ai,bl,az,invoke]
 rw [DW hf hn hb]
 rw [gl]
 have he:((#[]:Array Value)++xs.map a.eval++#[])=(xs.toList.map a.eval).toArray:=fw (by simp)
 simp only [he]
 refine hcalls.mono fun e w' ⟨hev,hbel⟩=>?_
 subst hev
 exact hK w' hbel
theorem AhF {x:Operand} {u:Value} (ho:o.op=.panic x) (hx:F.ev x=.one (.d (.val (.iface t u)))):AhE P G o F H [{ v:=.iface t u,recovered:=false }]:=by
 intro b0 m a hH hcx hg hb0 hor K Q hK
 have ex:=Df (m:=m) (v:=a.eval x) (by rw [←hx];exact Be hor (by rw [ho];simp [Op.operands]))
 unfold Oper.wp execOp
 simp only [ho,ex]
 exact hK m.w (ab _ _)
theorem XF {x:Operand} {d:TypeDesc} (ho:o.op=.makeInterface t x) (hx:F.ev x=.agg []) (hu:P.underlying t=some d) (hd:(match d with|.interface _=>false|_=>true)=true):Bd P G o F H (.one (.d (.val (.iface t (.agg #[]))))) []:=Cb fun b0 m a _ _ hor=>by
 have ex:a.eval x=.agg #[]:=by
  have h:Fh m (.agg []) (a.eval x):=by rw [←hx];exact Be hor (by rw [ho];simp [Op.operands])
  obtain ⟨xs,h1,h2⟩:=h
  rw [h2.unnil] at h1
  exact h1
 refine ⟨.iface t (.agg #[]),?_,Bo.val rfl⟩
 unfold execOp
 cases d <;> simp_all [Instr.makeInterface,run_underlying hu]
theorem AqK (hG:∀ w w',Below w.heap.size w w'→G w→G w') {f:FuncId} {fn:Func} {c:Code} {N:Nat} {args:List A} (hf:P.funcs[f]?=some fn) (hb:fn.body=some c) (hN:fn.ntmps=N) (ha:args.length≤N)
  (h:CW P G N c (F0 args) [] fun e _ _=>e=.panic chain):CVP P G f args chain:=by
 intro w S vs hg hlt hargs
 refine calls_of_wp hf hb ?_
 have hst:=MP (N:=N) (fn:=fn) hN ha hlt hargs
 refine wp_mono (h w.heap.size w ⟨S,[]⟩ _ ⟨w,S,[],fun _=>none⟩ (fun w' hb'=>hG w w' hb' hg) rfl hst) fun e a' w' ⟨F',m',hw,hs,hret⟩=>?_
 subst hw
 subst hret
 exact ⟨hs.defers,rfl,hs.below⟩
end
section
variable {P:Program} {G:World→Prop} {N:Nat}
theorem Amx {b0:Nat} {w0:World} {S0:SD} {a:Act} {m:Mm} {w':World} (hs:St b0 N w0 S0 F a m) (hb:Below m.w.heap.size m.w w'):St b0 N w0 S0 F a (m.plus w' m.H.length []):=by
 have hn:AlZ b0 m m.H.length [] w' []:=⟨rfl,hb,fun k e hk=>by simp at hk,List.Pairwise.nil⟩
 have hE:∀ k,k<([]:List Et).length→m.E (m.H.length+k)=none:=fun k hk=>by simp at hk
 have hle:=Me hb hs.cx.lt hE
 refine ⟨hs.cx.plus hn (fun k ob hk=>by simp at hk) hE,fun id ob hob hk=>?_,fun t=>(hs.frame t).le hle,hs.size,hs.defers,hs.below.trans (hb.mono (lT hs.base hs.below.size)),hs.base,fun b hb'=>?_,hle.T.trans hs.T⟩
 ·show (if m.H.length≤id∧id<m.H.length+0 then _ else m.E id).isSome=true
  rw [if_neg (by omega)]
  exact hs.tot id ob hob hk
 ·rcases hb' with h|⟨_,h,_⟩
  ·exact hs.S b h
  ·exact .inr (lT (lT hs.base hs.below.size) h)
theorem Adr {b0:Nat} {w0:World} {S0:SD} {ops:Array Oper} (hG:∀ w',Below b0 w0 w'→G w') {Q:Exit→Act→World→Prop} {r:List Oper} :
  ∀ (l:List Oper) (F:Frm) (a:Act) (m:Mm) (K:Frm→List Ob→Prop),Pn N l=true→St b0 N w0 S0 F a m→Ti P G ops l F m.H K→(∀ F' a' m',St b0 N w0 S0 F' a' m'→K F' m'.H→wpList P ops Q r a' m'.w)→wpList P ops Q (l++r) a m.w
 | [],F,a,m,K,_,hs,h,hq=>hq F a m hs h
 | o::l,F,a,m,K,hd,hs,h,hq=>by
  have hd0:=Qm hd (o:=o) (by simp)
  have hd1:Pn N l=true:=by
   unfold Pn at hd ⊢
   simp only [kc,aj] at hd
   exact hd.2
  rw [List.cons_append]
  unfold wpList
  rcases h with ⟨hw,h⟩|⟨hw,x,H2,hok,h⟩
  ·rw [if_neg (by rw [hw.is (m:=m) (tmps:=a.tmps) fun t _=>hs.frame t];simp)]
   exact Adr hG l _ _ m K hd1 ⟨hs.cx,hs.tot,Hn (x:=.tup []) hs.size hd0 (Le.refl m) hs.frame ⟨[],rfl,.nil_⟩,by rw [Er];exact hs.size,by rw [CG];exact hs.defers,hs.below,hs.base,hs.S,hs.T⟩ h hq
  ·rw [if_pos (hw.is (m:=m) (tmps:=a.tmps) fun t _=>hs.frame t)]
   refine .inl (hok b0 m a rfl hs.cx hs.tot (hG _ hs.below) (lT hs.base hs.below.size) (fun t _=>hs.frame t) _ _ fun v m' hH hx ht hle hb hS hv=>?_)
   subst hH
   exact Adr hG l _ _ m' K hd1 ⟨hx,ht,Hn hs.size hd0 hle hs.frame hv,by rw [Er];exact hs.size,by rw [CG];exact hs.defers,hs.below.trans hb,hs.base,fun b hb'=>(hS b hb').elim (hs.S b) .inr,hle.T.trans hs.T⟩ h hq
theorem Ads {H:List Ob} {Q:UU} {l:List Oper} (n:Nat) {o:Oper} {chain:List PanicEntry} (hd:Pn N (l.take n)=true) (hl:l=l.take n++[o]) (hg:o.guard=none)
  (h:Ti P G l.toArray (l.take n) F H fun F' H'=>AhE P G o F' H' chain∧Q (.panic chain) F' H'):CW P G N (.region id l.toArray false) F H Q:=fun b0 w0 S0 a m hG hH hs=>by
 subst hH
 refine wp_region_lit ?_
 have key:wpList P l.toArray (fun e a w=>∃ F' m',m'.w=w∧St b0 N w0 S0 F' a m'∧Q e F' m'.H) (l.take n++[o]) a m.w:=by
  refine Adr hG (l.take n) F a m _ hd hs h fun F' a' m' h1 h2=>?_
  unfold wpList
  have hw:CO l.toArray o F' true:=by unfold CO;rw [hg]
  rw [if_pos (hw.is (m:=m') (tmps:=a'.tmps) fun t _=>h1.frame t)]
  exact .inl (h2.1 b0 m' a' rfl h1.cx (hG _ h1.below) (lT h1.base h1.below.size) (fun t _=>h1.frame t) _ _ fun w' hb=>⟨F',m'.plus w' m'.H.length [],rfl,Amx h1 hb,h2.2⟩)
 rw [←hl] at key
 exact key
def RK (md:Region.Mode) (ops:Array Oper) (p:Nat):Nat→Nat→Bool
 | 0,_=>false
 | n+1,i=>match ops[i]? with
  | none=>false
  | some o=>o.after.any fun e=>Region.binds md e && (Nat.beq e.on p || RK md ops p n e.on)
section
variable (P G)
def ChP (ops:Array Oper) (p:Nat) (chain:List PanicEntry):Nat→List Oper→Frm→List Ob→Prop
 | _,[],_,_=>True
 | i,o::l,F,H=>o.guard=none∧((RK .any ops p ops.size i=true∧ChP ops p chain (i+1) l (F.put o.dst .any) H)∨(i=p∧AhE P G o F H chain∧ChP ops p chain (i+1) l (F.put o.dst .any) H) ∨
   (Nat.beq i p=false∧∃ x,Bd P G o F H x []∧ChP ops p chain (i+1) l (F.put o.dst x) H))
end
theorem ChP.seq {ops:Array Oper} {p:Nat} {chain:List PanicEntry}:∀ {l:List Oper} {i:Nat} {F:Frm} {H:List Ob},ChP P G ops p chain i l F H →
  ∃ (Fs:Nat→Frm) (xs:Nat→X),Fs 0=F∧∀ (k:Nat) (o:Oper),l[k]?=some o→o.guard=none∧Fs (k+1)=(Fs k).put o.dst (xs k) ∧
   (RK .any ops p ops.size (i+k)=true∨(i+k=p∧AhE P G o (Fs k) H chain)∨(i+k≠p∧Bd P G o (Fs k) H (xs k) []))
 | [],i,F,H,h=>⟨fun _=>F,fun _=>.any,rfl,fun k o hk=>by simp at hk⟩
 | o::l,i,F,H,h=>by
  obtain ⟨hg,h⟩:=h
  have key:∃ x,(RK .any ops p ops.size i=true∨(i=p∧AhE P G o F H chain)∨(i≠p∧Bd P G o F H x []))∧ChP P G ops p chain (i+1) l (F.put o.dst x) H:=by
   rcases h with ⟨h1,h2⟩|⟨h1,h2,h3⟩|⟨h1,x,h2,h3⟩
   ·exact ⟨.any,.inl h1,h2⟩
   ·exact ⟨.any,.inr (.inl ⟨h1,h2⟩),h3⟩
   ·exact ⟨x,.inr (.inr ⟨fun hi=>(by subst hi;rw [en] at h1;cases h1),h2⟩),h3⟩
  obtain ⟨x,hx,hc⟩:=key
  obtain ⟨Fs,xs,h1,h2⟩:=ChP.seq hc
  refine ⟨fun k=>match k with|0=>F|k+1=>Fs k,fun k=>match k with|0=>x|k+1=>xs k,rfl,fun k o' hk=>?_⟩
  rcases k with _|k
  ·simp only [gk,Option.some.injEq] at hk
   subst hk
   exact ⟨hg,by rw [←h1],hx⟩
  ·simp only [fh] at hk
   have:=h2 k o' hk
   rw [show i+1+k=i+(k+1) by omega] at this
   exact this
def fgt (l:List Oper) (F:Frm):Frm:=fun t=>match l.any (fun o=>match o.dst with|some d=>Nat.beq d t|none=>false) with|true=>.any|false=>F t
structure AhG (b0 N:Nat) (w0:World) (S0:SD) (ops:Array Oper) (p:Nat) (Fs:Nat→Frm) (H:List Ob) (listed:Array Bool) (a:Act) (m:Mm):Prop where
 H:m.H=H
 cx:Cx b0 m
 tot:Tot m
 frame:∀ t,(∀ (i:Nat) (o:Oper),ops[i]?=some o→listed.getD i true=false→o.dst≠some t)→Fh m (Fs ops.size t) (a.tmps.getD t undef)
 size:a.tmps.size=N
 defers:a.defers=S0.ds
 below:Below b0 w0 m.w
 base:b0≤w0.heap.size
 S:∀ b,m.S false b→S0 false b∨b0≤b
 T:m.S true=S0 true
 ls:listed.size=ops.size
 un:∀ n i,(i=p∨RK .any ops p n i=true)→i<ops.size→listed.getD i true=false
theorem AhH {b0:Nat} {w0:World} {S0:SD} {ops:Array Oper} (hG:∀ w',Below b0 w0 w'→G w') {Q:Exit→Act→World→Prop} {chain:List PanicEntry} (hC:RE .any ops=true) (hd:Pn N ops.toList=true)
  {Fs:Nat→Frm} {H:List Ob} {xs:Nat→X} {p:Nat} (hp:p<ops.size)
  (hs:∀ (i:Nat) (o:Oper),ops[i]?=some o→o.guard=none∧Fs (i+1)=(Fs i).put o.dst (xs i)∧(RK .any ops p ops.size i=true∨(i=p∧AhE P G o (Fs i) H chain)∨(i≠p∧Bd P G o (Fs i) H (xs i) [])))
  (hq:∀ a m w',m.H=H→St b0 N w0 S0 (fgt ops.toList (Fs 0)) a m→Below m.w.heap.size m.w w'→Q (.panic chain) a w') :
  ∀ (f:Nat) (listed:Array Bool) (a:Act) (m:Mm),AhG b0 N w0 S0 ops p Fs H listed a m→AcT listed≤f→wpAny P .any ops Q f listed a m.w:=by
 have opAt:∀ i,i<ops.size→∃ o,ops[i]?=some o:=fun i hi=>⟨_,ik hi⟩
 have keep:∀ t d i,i+d≤ops.size→(∀ (k:Nat) (o:Oper),i≤k→k<i+d→ops[k]?=some o→o.dst≠some t)→Fs (i+d) t=Fs i t:=fun t d=>by
  induction d with
  | zero=>intro i _ _;rfl
  | succ d ih =>
   intro i hi hk
   obtain ⟨o,ho⟩:=opAt (i+d) (by omega)
   rw [show i+(d+1)=i+d+1 by omega,(hs _ o ho).2.1,Gq,if_neg (hk (i+d) o (by omega) (by omega) ho)]
   exact ih i (by omega) fun k o' h1 h2=>hk k o' h1 (by omega)
 have look:∀ i o t,ops[i]?=some o→t∈o.looksAt ops→Fs ops.size t=Fs i t:=fun i o t ho ht=>by
  have hi:=(Array.getElem?_eq_some_iff.1 ho).1
  have:=keep t (ops.size - i) i (by omega) fun k o' h1 _ hk hdst=>by
   have:=((Dp hC ho).2 k o' t hk hdst).1 ht
   omega
  rwa [show i+(ops.size - i)=ops.size by omega] at this
 have out:∀ i o t,ops[i]?=some o→o.dst=some t→Fs ops.size t=xs i:=fun i o t ho ht=>by
  have hi:=(Array.getElem?_eq_some_iff.1 ho).1
  have:=keep t (ops.size - (i+1)) (i+1) (by omega) fun k o' h1 _ hk hdst=>((Dp hC ho).2 k o' t hk hdst).2 (by omega) ht
  rw [show i+1+(ops.size - (i+1))=ops.size by omega,(hs i o ho).2.1,Gq,if_pos ht] at this
  exact this
 have fin:∀ (listed:Array Bool) (a:Act) (m:Mm),AhG b0 N w0 S0 ops p Fs H listed a m→Region.ready .any ops listed=[]→False:=fun listed a m inv hr=>by
  have all:∀ i,i<ops.size→listed.getD i true=true:=by
   intro i
   induction i using Nat.strongRecOn with
   | _ i ih =>
    intro hi
    cases hl:listed.getD i true with
    | true=>rfl
    | false =>
     exfalso
     obtain ⟨o,ho⟩:=opAt i hi
     have:i∈Region.ready .any ops listed:=mem_ready.2 ⟨hl,o,ho,fun e he hb=>by
      have hlt:=(Dp hC ho).1 e he hb
      have:=ih e.on hlt (by omega)
      have hsz:=inv.ls
      rw [←Eq (by omega)]
      exact this⟩
     rw [hr] at this
     cases this
  have:=inv.un 0 p (.inl rfl) hp
  rw [all p hp] at this
  cases this
 have fgtAt:∀ t,(∃ (i:Nat) (o:Oper),ops[i]?=some o∧o.dst=some t)∨(fgt ops.toList (Fs 0) t=Fs ops.size t∧∀ (i:Nat) (o:Oper),ops[i]?=some o→o.dst≠some t):=fun t=>by
  by_cases h:∃ (i:Nat) (o:Oper),ops[i]?=some o∧o.dst=some t
  ·exact .inl h
  ·refine .inr ⟨?_,fun i o ho hdst=>h ⟨i,o,ho,hdst⟩⟩
   have h1:=keep t ops.size 0 (by omega) fun k o _ _ ho hdst=>h ⟨k,o,ho,hdst⟩
   rw [bf] at h1
   rw [h1]
   unfold fgt
   have:ops.toList.any (fun o=>match o.dst with|some d=>Nat.beq d t|none=>false)=false:=by
    rw [List.any_eq_false]
    intro o ho
    obtain ⟨i,hi⟩:=List.mem_iff_getElem?.1 ho
    cases hdst:o.dst with
    | none=>simp
    | some d =>
     simp only [bc]
     cases hb:Nat.beq d t with
     | false=>rfl
     | true=>exact absurd ⟨i,o,by simpa using hi,by rw [hdst,eh hb]⟩ h
   rw [this]
 have anyAt:∀ (t i:Nat) (o:Oper),ops[i]?=some o→o.dst=some t→fgt ops.toList (Fs 0) t=.any:=fun t i o ho hdst=>by
  unfold fgt
  have:ops.toList.any (fun o=>match o.dst with|some d=>Nat.beq d t|none=>false)=true :=
   List.any_eq_true.2 ⟨o,by simpa using mc ho,by rw [hdst];exact en t⟩
  rw [this]
 have next:∀ (listed:Array Bool) (i:Nat) (a:Act) (m:Mm),AhG b0 N w0 S0 ops p Fs H listed a m→i∈Region.ready .any ops listed→∀ K:Act→World→Prop,
   (∀ a' m',AhG b0 N w0 S0 ops p Fs H (listed.setIfInBounds i true) a' m'→K a' m'.w)→wpOp P ops Q i K a m.w:=fun listed i a m inv hr K hK=>by
  obtain ⟨hun,o,ho,hall⟩:=mem_ready.1 hr
  have hi:=(Array.getElem?_eq_some_iff.1 ho).1
  have hd0:∀ d,o.dst=some d→d<N:=Qm hd (by simpa using mc ho)
  have getSet:∀ j,j≠i→(listed.setIfInBounds i true).getD j true=listed.getD j true:=fun j hj=>getD_set_ne true (Ne.symm hj)
  have hlook:∀ t∈o.looksAt ops,Fh m (Fs i t) (a.tmps.getD t undef):=fun t ht=>by
   rw [←look i o t ho ht]
   refine inv.frame t fun k ok hok hkl hdst=>?_
   obtain ⟨h1,e,he,hb,hon⟩:=((Dp hC ho).2 k ok t hok hdst).1 ht
   have h2:=hall e he hb
   rw [hon] at h2
   have hsz:=inv.ls
   rw [←Eq (by have:=(Array.getElem?_eq_some_iff.1 hok).1;omega),hkl] at h2
   cases h2
  have live:∀ n,RK .any ops p n i=false:=fun n=>by
   cases hdd:RK .any ops p n i with
   | false=>rfl
   | true =>
    exfalso
    cases n with
    | zero=>cases hdd
    | succ n =>
     simp only [RK,ho,Array.any_eq_true',aj,eg] at hdd
     obtain ⟨e,he,hb,hon⟩:=hdd
     have hlt:=(Dp hC ho).1 e he hb
     have h2:=hall e he hb
     have hsz:=inv.ls
     have h3:=inv.un n e.on (hon.imp eh id) (by omega)
     rw [←Eq (by omega),h3] at h2
     cases h2
  have reFrame:∀ (m':Mm) (v:Value),Le m m'→Fh m' (xs i) v→∀ t,(∀ (k:Nat) (ok:Oper),ops[k]?=some ok→(listed.setIfInBounds i true).getD k true=false→ok.dst≠some t)→Fh m' (Fs ops.size t) ((a.put o.dst v).tmps.getD t undef):=fun m' v hle hv t ht=>by
   rw [MM inv.size hd0]
   split
   ·rename_i hdst
    rw [out i o t ho hdst]
    exact hv
   ·rename_i hdst
    refine (inv.frame t fun k ok hok hkl=>?_).le hle
    by_cases hki:k=i
    ·subst hki
     rw [ho] at hok
     cases hok
     exact hdst
    ·exact ht k ok hok (by rw [getSet k hki];exact hkl)
  obtain ⟨hgd,hF,hcase⟩:=hs i o ho
  have hw:CO ops o (Fs i) true:=by unfold CO;rw [hgd]
  unfold wpOp
  simp only [ho]
  rw [if_pos (hw.is (m:=m) (tmps:=a.tmps) hlook)]
  refine .inl ?_
  rcases hcase with h|⟨hip,hpn⟩|⟨hip,hok⟩
  ·rw [live] at h;cases h
  ·refine hpn b0 m a inv.H inv.cx (hG _ inv.below) (lT inv.base inv.below.size) (fun t ht=>hlook t (MO ht)) _ _ fun w' hb=>?_
   refine hq a m w' inv.H ⟨inv.cx,inv.tot,fun t=>?_,inv.size,inv.defers,inv.below,inv.base,inv.S,inv.T⟩ hb
   rcases fgtAt t with ⟨k,ok,hok,hdst⟩|⟨h1,h2⟩
   ·rw [anyAt t k ok hok hdst];trivial
   ·rw [h1]
    exact inv.frame t fun k ok hok _=>h2 k ok hok
  ·refine (hok.tok0) b0 m a inv.H inv.cx inv.tot (hG _ inv.below) (lT inv.base inv.below.size) (fun t ht=>hlook t (MO ht)) _ _ fun v m' hH hx ht' hle hb hS hv=>?_
   refine hK _ m' ⟨hH,hx,ht',reFrame m' v hle hv,by rw [Er];exact inv.size,by rw [CG];exact inv.defers,inv.below.trans hb,inv.base,fun b hb'=>(hS b hb').elim (inv.S b) .inr,hle.T.trans inv.T,by simp [inv.ls],fun n j hj hjs=>?_⟩
   have hji:j≠i:=by
    rintro rfl
    rcases hj with hj|hj
    ·exact hip hj
    ·rw [live] at hj;cases hj
   rw [getSet j hji]
   exact inv.un n j hj hjs
 intro f
 induction f with
 | zero =>
  intro listed a m inv hc
  have hr:Region.ready .any ops listed=[]:=by
   cases hr:Region.ready .any ops listed with
   | nil=>rfl
   | cons i r =>
    have h1:=(mem_ready.1 (show i∈Region.ready .any ops listed by rw [hr];simp)).1
    have:=IK h1
    omega
  exact (fin listed a m inv hr).elim
 | succ f ih =>
  intro listed a m inv hc
  refine ⟨fun hr=>(fin listed a m inv hr).elim,fun i hi=>next listed i a m inv hi _ fun a' m' inv'=>ih _ a' m' inv' ?_⟩
  have:=IK (mem_ready.1 hi).1
  omega
theorem Adt {H:List Ob} {Q:UU} {l:List Oper} (p:Nat) {chain:List PanicEntry} (hm:P.follows .mixedOrders=true) (hB:(Pn N l && RE .any l.toArray && Nat.ble (p+1) l.length)=true)
  (h:ChP P G l.toArray p chain 0 l F H) (hQ:Q (.panic chain) (fgt l F) H):CW P G N (.region id l.toArray true) F H Q:=fun b0 w0 S0 a m hG hH hs=>by
 subst hH
 simp only [aj] at hB
 obtain ⟨⟨hd,hC⟩,hp⟩:=hB
 have hp:p<l.length:=bg hp
 refine wp_region_any hm ?_
 obtain ⟨Fs,xs,h1,h2⟩:=h.seq
 have hs':=hs.drew
 refine AhH (G:=G) (w0:=w0) (S0:=S0) (b0:=b0) (N:=N) (chain:=chain) hG hC (by simpa using hd) (Fs:=Fs) (xs:=xs) (H:=m.H) (p:=p) (by simpa using hp) (fun i o hi=>?_) (fun a' m' w' hH' hst hb=>?_) l.toArray.size (Array.replicate l.toArray.size false) a { m with w:=m.w.drew } ?_ (by simp [AcT])
 ·have:=h2 i o (by simpa using hi)
  rw [bf] at this
  exact this
 ·have hst':St b0 N w0 S0 (fgt l F) a' m':=by rw [h1] at hst;simpa using hst
  exact ⟨_,m'.plus w' m'.H.length [],rfl,Amx hst' hb,by show Q _ _ m'.H;rw [hH'];exact hQ⟩
 ·refine ⟨rfl,hs'.cx,hs'.tot,fun t ht=>?_,hs'.size,hs'.defers,hs'.below,hs'.base,hs'.S,hs'.T,by simp,fun n i _ hi=>by simpa [Array.getD] using hi⟩
  have keep:∀ k,k≤l.length→Fs k t=F t:=fun k hk=>by
   induction k with
   | zero=>rw [h1]
   | succ k ih =>
    have ho:l[k]?=some (l[k]'(by omega)):=gE (by omega)
    rw [(h2 k _ ho).2.1,Gq,if_neg (ht k _ (by simp [ho]) (by have:=(gS.1 ho).1;simpa [Array.getD] using this))]
    exact ih (by omega)
  rw [show Fs l.toArray.size t=F t from keep l.length (aa _)]
  exact hs'.frame t
end
def FU (g:Nat):Value:=.pointer (some ⟨g,0,none⟩)
def Amy (fc:FuncId) (g1 g2 g3:Nat):Deferred:={ target:=.fn (.func fc) #[FU g1,FU g2,FU g3],args:=#[] }
abbrev Amz (i1 i2 i3 g1 g2 g3:Nat):X:=.pin [(i1,g1),(i2,g2),(i3,g3)]
def CWD (P:Program) (G:World→Prop) (N:Nat) (fc:FuncId) (i1 i2 i3:Nat) (c:Code) (F:Frm) (H:List Ob) (Q QD:UU):Prop :=
 ∀ (b0:Nat) (w0:World) (S0:SD) (a:Act) (m:Mm),(∀ w',Below b0 w0 w'→G w')→S0.ds=[]→m.H=H→St b0 N w0 S0 F a m →
  c.wp P (fun e a w=>∃ F' m',m'.w=w∧((St b0 N w0 S0 F' a m'∧Q e F' m'.H)∨∃ g1 g2 g3,St b0 N w0 ⟨S0.S,[Amy fc g1 g2 g3]⟩ F' a m'∧F' N=Amz i1 i2 i3 g1 g2 g3∧QD e F' m'.H)) a m.w
section
variable {P:Program} {G:World→Prop} {N:Nat} {fc:FuncId} {i1 i2 i3:Nat} {F:Frm} {H:List Ob} {Q QD:UU}
theorem Gg {x y:Code} (h:CW P G N x F H (TE (fun F' H'=>CWD P G N fc i1 i2 i3 y F' H' Q QD) Q)):CWD P G N fc i1 i2 i3 (.seq x y) F H Q QD:=fun b0 w0 S0 a m hG hd hH hs =>
 wp_seq (wp_mono (h b0 w0 S0 a m hG hH hs) fun e a w ⟨F',m',h1,h2,h3⟩=>by
  cases e with
  | normal=>subst h1;exact h3 b0 w0 S0 a m' hG hd rfl h2
  | exit id=>exact ⟨F',m',h1,.inl ⟨h2,h3⟩⟩
  | goto l=>exact ⟨F',m',h1,.inl ⟨h2,h3⟩⟩
  | ret=>exact ⟨F',m',h1,.inl ⟨h2,h3⟩⟩
  | panic ch=>exact ⟨F',m',h1,.inl ⟨h2,h3⟩⟩
  | outgrown=>exact ⟨F',m',h1,.inl ⟨h2,h3⟩⟩)
theorem Adu {o1 o2:Oper} {y:Code} {t1 t2 t3 d:Nat} {ty1 ty2 ty3:TypeId} {cs1 cs2 cs3:List C}
  (h:∀ g1 g2 g3,CW P G N y ((F.put (some d) .any).put (some N) (Amz i1 i2 i3 g1 g2 g3)) H fun e F' H'=>F' N=Amz i1 i2 i3 g1 g2 g3∧QD e F' H')
  (h1:o1.op=.makeFunc (.func fc) #[] #[.tmp t1,.tmp t2,.tmp t3]:=by with_unfolding_all exact rfl) (hd1:o1.dst=some d:=by with_unfolding_all exact rfl) (hg1:o1.guard=none:=by with_unfolding_all exact rfl) (hdN:Nat.ble (d+1) N=true:=by with_unfolding_all exact rfl)
  (h2:o2.op=.defer { callee:=.value (.tmp d),args:=#[],argTypes:=#[] }:=by with_unfolding_all exact rfl) (hd2:o2.dst=none:=by with_unfolding_all exact rfl) (hg2:o2.guard=none:=by with_unfolding_all exact rfl)
  (e1:F t1=.one (.ref i1 0 none):=by with_unfolding_all exact rfl) (e2:F t2=.one (.ref i2 0 none):=by with_unfolding_all exact rfl) (e3:F t3=.one (.ref i3 0 none):=by with_unfolding_all exact rfl)
  (b1:H[i1]?=some (.box ty1 cs1):=by with_unfolding_all exact rfl) (b2:H[i2]?=some (.box ty2 cs2):=by with_unfolding_all exact rfl) (b3:H[i3]?=some (.box ty3 cs3):=by with_unfolding_all exact rfl) :
  CWD P G N fc i1 i2 i3 (.seq (.region id #[o1,o2] false) y) F H Q QD:=fun b0 w0 S0 a m hG hds hH hs=>by
 subst hH
 have hdN:d<N:=bg hdN
 have p1:=hs.frame t1;rw [e1] at p1
 have p2:=hs.frame t2;rw [e2] at p2
 have p3:=hs.frame t3;rw [e3] at p3
 obtain ⟨g1,_,q1,_⟩:=Gr hs.cx p1 b1
 obtain ⟨g2,_,q2,_⟩:=Gr hs.cx p2 b2
 obtain ⟨g3,_,q3,_⟩:=Gr hs.cx p3 b3
 refine wp_seq (wp_region_lit (l:=[o1,o2]) ?_)
 have hw1:Region.wanted o1 (yielded [o1,o2].toArray a.tmps)=true:=by unfold Region.wanted;rw [hg1]
 unfold wpList
 rw [if_pos hw1]
 refine .inl ?_
 have hx1:(execOp a.eval o1).run P m.w=.ok (.value (.func (.func fc) #[] #[FU g1,FU g2,FU g3])) m.w:=by
  unfold execOp
  simp only [h1,Instr.makeFunc,Act.eval,q1,q2,q3,ai,bl,az,FU,jz,bp,fv]
 unfold Oper.wp
 rw [hx1,Oper.upon_value,hd1]
 have hw2:∀ tmps,Region.wanted o2 (yielded [o1,o2].toArray tmps)=true:=fun tmps=>by unfold Region.wanted;rw [hg2]
 unfold wpList
 rw [if_pos (hw2 _)]
 refine .inl ?_
 have hget:(a.put (some d) (.func (.func fc) #[] #[FU g1,FU g2,FU g3])).tmps.getD d undef=.func (.func fc) #[] #[FU g1,FU g2,FU g3]:=by
  rw [MM hs.size (fun d' h=>by cases h;exact hdN),if_pos rfl]
 have hx2:(execOp (a.put (some d) (.func (.func fc) #[] #[FU g1,FU g2,FU g3])).eval o2).run P m.w=.ok (.defer (Amy fc g1 g2 g3)) m.w:=by
  unfold execOp
  simp only [h2,resolve,Act.eval,hget,Deferred.ofValue,ai,bl,az,Amy,Array.map_empty,Array.append_empty]
 unfold Oper.wp
 rw [hx2,Oper.upon_defer,hd2]
 unfold wpList
 have hst:St b0 N w0 ⟨S0.S,[Amy fc g1 g2 g3]⟩ ((F.put (some d) .any).put (some N) (Amz i1 i2 i3 g1 g2 g3)) ({ (a.put (some d) (.func (.func fc) #[] #[FU g1,FU g2,FU g3])) with defers:=Amy fc g1 g2 g3::(a.put (some d) (.func (.func fc) #[] #[FU g1,FU g2,FU g3])).defers }) m:=by
  refine ⟨hs.cx,hs.tot,fun t=>?_,?_,?_,hs.below,hs.base,hs.S,hs.T⟩
  ·rw [Gq]
   split
   ·intro p hp
    simp only [bz,ce,or_false] at hp
    rcases hp with rfl|rfl|rfl
    ·exact q1 ▸ p1
    ·exact q2 ▸ p2
    ·exact q3 ▸ p3
   ·exact Hn hs.size (fun d' h=>by cases h;exact hdN) (Le.refl m) hs.frame (x:=.any) trivial t
  ·show (a.put (some d) _).tmps.size=N
   rw [Er]
   exact hs.size
  ·show _::(a.put (some d) _).defers=_
   rw [CG,hs.defers,hds]
 refine wp_mono (h g1 g2 g3 b0 w0 ⟨S0.S,[Amy fc g1 g2 g3]⟩ _ m hG rfl hst) fun e a' w' ⟨F',m',k1,k2,k3,k4⟩=>?_
 exact ⟨F',m',k1,.inr ⟨g1,g2,g3,k2,k3,k4⟩⟩
end
theorem AqL {P:Program} {G:World→Prop} (hG:∀ w w',Below w.heap.size w w'→G w→G w') {f:FuncId} {fn:Func} {c:Code} {N:Nat} {args:List A} {d1 d2 d3:D} {f1 f2 f3:A} (hf:P.funcs[f]?=some fn) (hb:fn.body=some c) (hN:fn.ntmps=N) (ha:args.length≤N)
  {fc : FuncId} {fnc : Func} {cc : Code} (hfc : P.funcs[fc]? = some fnc) (hnc : (fnc.name == "runtime.NumGoroutine") = false) (hbc : fnc.body = some cc) {i1 i2 i3 t1 t2 t3 : Nat} {ty1 ty2 ty3 : TypeId} {dd1 dd2 dd3 : TypeDesc} {r1 r2 r3 : Value} {chain : List PanicEntry}
  (hres:fn.results=#[.cell t1 ty1,.cell t2 ty2,.cell t3 ty3]) (hu1:P.underlying ty1=some dd1) (hu2:P.underlying ty2=some dd2) (hu3:P.underlying ty3=some dd3) (hr1:dd1.isRow=false) (hr2:dd2.isRow=false) (hr3:dd3.isRow=false)
  (hid:i1≠i2∧i1≠i3∧i2≠i3)
  (hret:∀ w g1 g2 g3,CallsD P fc #[FU g1,FU g2,FU g3] .returning w fun e u' w'=>(∃ v,e=.returned v)∧u'=.returning∧Below w.heap.size w w')
  (hpan:∀ b0 w g1 g2 g3 v1 v2 v3,b0≤g1→b0≤g2→b0≤g3→g1≠g2→g1≠g3→g2≠g3→b0≤w.heap.size→w.heap[g1]?=some (.cells #[v1] ty1 (0,0))→w.heap[g2]?=some (.cells #[v2] ty2 (0,0))→w.heap[g3]?=some (.cells #[v3] ty3 (0,0)) →
   CallsD P fc #[FU g1,FU g2,FU g3] (.panicking chain) w fun e u' w'=>(∃ v,e=.returned v)∧settle u'=.returning∧Below b0 w w'∧w'.cell? ⟨g1,0,none⟩=some r1∧w'.cell? ⟨g2,0,none⟩=some r2∧w'.cell? ⟨g3,0,none⟩=some r3)
  (hv1:∀ w S,Bo w S d1 r1) (hv2:∀ w S,Bo w S d2 r2) (hv3:∀ w S,Bo w S d3 r3)
  (h:CWD P G N fc i1 i2 i3 c (F0 args) [] (Aqm P fn [f1,f2,f3]) fun e F H=>Aqm P fn [f1,f2,f3] e F H∨(e=.panic chain∧(f1=.one d1∧f2=.one d2∧f3=.one d3)∧(F t1=.one (.ref i1 0 none)∧F t2=.one (.ref i2 0 none)∧F t3=.one (.ref i3 0 none)) ∧
   (∃ c1,H[i1]?=some (.box ty1 [c1]))∧(∃ c2,H[i2]?=some (.box ty2 [c2]))∧(∃ c3,H[i3]?=some (.box ty3 [c3])))):CV P G f args [f1,f2,f3]:=by
 intro w S vs hg hlt hargs
 refine calls_of_wp_defers hf hb ?_
 refine wp_mono (h w.heap.size w ⟨S,[]⟩ _ ⟨w,S,[],fun _=>none⟩ (fun w' hb'=>hG w w' hb' hg) rfl rfl (MP hN ha hlt hargs)) fun e a' w' ⟨F',m',hw,hs⟩=>?_
 subst hw
 have inv:∀ (g1 g2 g3:Nat) (w:World),(invoke (Target.fn (.func fc) #[FU g1,FU g2,FU g3]) #[]).run P w=.ok (.enter fc #[FU g1,FU g2,FU g3]) w:=fun g1 g2 g3 w=>by
  simp only [invoke]
  rw [DW hfc hnc hbc]
  rfl
 rcases hs with ⟨hs,he,hrv⟩|⟨g1,g2,g3,hs,hpin,hq⟩
 ·obtain ⟨v,k1,k2⟩:=Od hs hrv
  have hd:a'.defers=[]:=hs.defers
  rcases he with rfl|rfl
  ·show Leaves P fn a'.tmps _ a'.defers .returning m'.w
   rw [hd];exact ⟨v,k1,v,rfl,k2,hs.below⟩
  ·show Leaves P fn a'.tmps _ a'.defers .returning m'.w
   rw [hd];exact ⟨v,k1,v,rfl,k2,hs.below⟩
 ·have hd:a'.defers=[Amy fc g1 g2 g3]:=hs.defers
  rcases hq with ⟨he,hrv⟩|⟨he,⟨rfl,rfl,rfl⟩,⟨q1,q2,q3⟩,⟨c1,b1⟩,⟨c2,b2⟩,⟨c3,b3⟩⟩
  ·have key:Leaves P fn a'.tmps (fun e w'=>∃ v,e=.returned v∧Ahc w' (Ahb S w w') [f1,f2,f3] v∧Below w.heap.size w w') a'.defers .returning m'.w:=by
    rw [hd]
    refine leaves_cons (by simp) (inv g1 g2 g3 m'.w) ((hret m'.w g1 g2 g3).mono ?_)
    rintro e u' w' ⟨⟨v,rfl⟩,rfl,hbel⟩
    show Leaves P fn a'.tmps _ [] .returning w'
    have hs2:=Amx hs hbel
    obtain ⟨v,k1,k2⟩:=Od hs2 hrv
    exact ⟨v,k1,v,rfl,k2,hs2.below⟩
   rcases he with rfl|rfl <;> exact key
  ·subst he
   have p1:=hs.frame t1;rw [q1] at p1
   have p2:=hs.frame t2;rw [q2] at p2
   have p3:=hs.frame t3;rw [q3] at p3
   have z:=hs.frame N
   rw [hpin] at z
   have z1:=z (i1,g1) (by simp)
   have z2:=z (i2,g2) (by simp)
   have z3:=z (i3,g3) (by simp)
   obtain ⟨k1,u1,l1,m1,n1,o1,s1⟩:=Gr hs.cx z1 b1
   obtain ⟨k2,u2,l2,m2,n2,o2,s2⟩:=Gr hs.cx z2 b2
   obtain ⟨k3,u3,l3,m3,n3,o3,s3⟩:=Gr hs.cx z3 b3
   cases l1;cases l2;cases l3
   obtain ⟨v1,us1,rfl,_,x1⟩:=s1.uncons
   obtain ⟨v2,us2,rfl,_,x2⟩:=s2.uncons
   obtain ⟨v3,us3,rfl,_,x3⟩:=s3.uncons
   have x1:=x1.unnil;subst x1
   have x2:=x2.unnil;subst x2
   have x3:=x3.unnil;subst x3
   have same:∀ {t i g:Nat} {vs:List Value} {ty:TypeId} {c:C},Vl m' i 0 none (a'.tmps.getD t undef)→m'.H[i]?=some (.box ty [c])→m'.E i=some (.box g vs ty)→a'.tmps.getD t undef=FU g:=fun hp hb hE=>by
    obtain ⟨k,u,l,m,_⟩:=Gr hs.cx hp hb
    rw [hE] at m
    cases m
    exact l
   have y1:=same p1 b1 m1
   have y2:=same p2 b2 m2
   have y3:=same p3 b3 m3
   have ap:∀ {i j g g':Nat} {vs vs':List Value} {ty ty':TypeId},i≠j→m'.E i=some (.box g vs ty)→m'.E j=some (.box g' vs' ty')→g≠g':=fun hij hi hj hgg=>by
    have:=hs.cx.apart _ _ _ _ hij hi hj _ rfl
    exact this (by rw [hgg];rfl)
   show Leaves P fn a'.tmps _ a'.defers (.panicking chain) m'.w
   rw [hd]
   refine leaves_cons (by simp) (inv g1 g2 g3 m'.w) ((hpan w.heap.size m'.w g1 g2 g3 v1 v2 v3 n1 n2 n3 (ap hid.1 m1 m2) (ap hid.2.1 m1 m3) (ap hid.2.2 m2 m3) hs.below.size o1 o2 o3).mono ?_)
   rintro e u' w' ⟨⟨v,rfl⟩,hset,hbel,hc1,hc2,hc3⟩
   show Leaves P fn a'.tmps _ [] (settle u') w'
   rw [hset]
   have hrr:∀ {t g:Nat} {ty:TypeId} {dd:TypeDesc} {r:Value} {d:D},a'.tmps.getD t undef=FU g→P.underlying ty=some dd→dd.isRow=false→w'.cell? ⟨g,0,none⟩=some r→(∀ w S,Bo w S d r)→∃ v,(Vm a'.tmps (.cell t ty)).run P w'=.ok v w'∧EK w' (Ahb S w w') (.one d) v:=fun ht hu hr hc hv=>by
    refine ⟨_,?_,hv _ _⟩
    simp only [Vm,ht,FU,asAddr,ai,bl,az]
    exact Fk hu hr hc
   obtain ⟨v,k1,k2⟩:=Qn (P:=P) (fn:=fn) (tmps:=a'.tmps) (w:=w') (Sx:=Ahb S w w') (res:=[.one d1,.one d2,.one d3]) (by
    rw [hres]
    exact Ba.cons_ (hrr y1 hu1 hr1 hc1 hv1) (Ba.cons_ (hrr y2 hu2 hr2 hc2 hv2) (Ba.cons_ (hrr y3 hu3 hr3 hc3 hv3) Ba.nil_)))
   exact ⟨v,k1,v,rfl,k2,hs.below.trans hbel⟩
section
variable {P:Program} {G:World→Prop} {o:Oper} {F:Frm} {H:List Ob}
theorem VG {ty:TypeId} {ds:List D} (hH:H[id]?=some (.box ty (ds.map C.d))):Lj true H (.one (.ref id 0 none)) (.one (.ptr true ds)) :=
 .one (.ref rfl hH (by simp) fun j c d hc hd=>by
  simp only [ji,ag,hd,bo,Option.some.injEq] at hc
  subst hc
  exact .d fun h=>by cases h)
theorem xMf (rs:List (Nat × Nat × Option Nat)) {fn:Fn} {caps:Array Operand} (ho:o.op=.makeFunc fn #[] caps:=by with_unfolding_all exact rfl) (hc:caps.toList.map F.ev=rs.map (fun p=>X.one (.ref p.1 p.2.1 p.2.2)):=by with_unfolding_all exact rfl):Bd P G o F H (.one (.clo fn rs)) [] :=
 CS ho ⟨by have:=congrArg List.length hc;simpa using this,fun j x p hx hp=>by
  have h1:=congrArg (fun l=>l[j]?) hc
  simp only [ag,hx,hp,bo,Option.some.injEq] at h1
  exact h1⟩
theorem xCc {cd : Code} {r : Operand} {rs : List (Nat × Nat × Option Nat)} {l args cargs res : List A} {x : X} (h1 : P.funcs[f]? = some fn) (h : CV P G f l res) (hl : l = args ++ cargs) (h2 : (fn.name == "runtime.NumGoroutine") = false := by kernel_rfl) (h3 : fn.body = some cd := by with_unfolding_all exact rfl)
  (ho:o.op=.call { callee:=.value r,args:=xs,argTypes:=ts }:=by with_unfolding_all exact rfl) (hr:F.ev r=.one (.clo (.func f) rs):=by with_unfolding_all exact rfl)
  (ha:Ba (fun x y=>Lj true H (F.ev x) y) xs.toList args:=by with_unfolding_all first|((repeat' first|exact BJ rfl rfl|refine AZ rfl rfl ?_ ?_|refine EP rfl rfl ?_|refine CZ rfl rfl ?_|exact Bs rfl (fun h=>by cases h)|exact EQ rfl rfl|exact cexp_e rfl rfl|refine Dx rfl rfl rfl ?_) <;> fail)|fail)
  (hcl:Ba (fun (p:Nat × Nat × Option Nat) y=>Lj true H (.one (.ref p.1 p.2.1 p.2.2)) y) rs cargs:=by with_unfolding_all first|((repeat' first|exact BJ rfl rfl|refine AZ rfl rfl ?_ ?_|exact VG rfl) <;> fail)|fail)
  (hx:Ami res=x:=by with_unfolding_all exact rfl):Bd P G o F H x []:=hx ▸ AaL ho hr h1 h2 h3 (hl ▸ h) ha hcl
end
section
variable {P:Program} {F:Frm} {H:List Ob}
theorem rvB {t:Tmp} {ty ty':Nat} {c:C} {x:D} (hk:TyK P ty false 1) (h:FD false H c x) (hF:F t=.one (.ref id 0 none):=by with_unfolding_all exact rfl) (hH:H[id]?=some (.box ty' [c]):=by with_unfolding_all exact rfl):RV P F H (.cell t ty) (.one x):=by
 obtain ⟨⟨d,hu,hd⟩,_⟩:=hk
 exact .cell1 hF hH hu hd h
end
section
variable {P:Program} {G:World→Prop} {o:Oper} {F:Frm} {H:List Ob} {chain:List PanicEntry} {ops:Array Oper} {p i:Nat} {l:List Oper} {d:Tmp} {xx:X}
theorem Pe:ChP P G ops p chain i [] F H:=trivial
theorem Po (h:Bd P G o F H xx []) (k:ChP P G ops p chain (i+1) l (F.put (some d) xx) H) (hg:o.guard=none:=by with_unfolding_all exact rfl) (hd:o.dst=some d:=by with_unfolding_all exact rfl) (hi:Nat.beq i p=false:=by with_unfolding_all exact rfl):ChP P G ops p chain i (o::l) F H :=
 ⟨hg,.inr (.inr ⟨hi,xx,h,by rw [hd];exact k⟩)⟩
theorem Pp (h:AhE P G o F H chain) (k:ChP P G ops p chain (i+1) l (F.put (some d) .any) H) (hg:o.guard=none:=by with_unfolding_all exact rfl) (hd:o.dst=some d:=by with_unfolding_all exact rfl) (hi:i=p:=by with_unfolding_all exact rfl):ChP P G ops p chain i (o::l) F H :=
 ⟨hg,.inr (.inl ⟨hi,h,by rw [hd];exact k⟩)⟩
theorem Pd {dd:Option Tmp} (k:ChP P G ops p chain (i+1) l (F.put dd .any) H) (hg:o.guard=none:=by with_unfolding_all exact rfl) (hd:o.dst=dd:=by with_unfolding_all exact rfl) (hi:RK .any ops p ops.size i=true:=by kernel_rfl):ChP P G ops p chain i (o::l) F H :=
 ⟨hg,.inl ⟨hi,by rw [hd];exact k⟩⟩
theorem xPn {cd : Code} {args : List A} (h1 : P.funcs[f]? = some fn) (h : CVP P G f args chain) (h2 : (fn.name == "runtime.NumGoroutine") = false := by kernel_rfl) (h3 : fn.body = some cd := by with_unfolding_all exact rfl) (ho : o.op = .call { callee := .value (.func f), args := xs, argTypes := ts } := by with_unfolding_all exact rfl) (ha : Ba (fun x y => Lj true H (F.ev x) y) xs.toList args := by with_unfolding_all first | ((repeat' first | exact BJ rfl rfl | refine AZ rfl rfl ?_ ?_ | refine EP rfl rfl ?_ | refine CZ rfl rfl ?_ | exact Bs rfl (fun h => by cases h) | exact EQ rfl rfl | exact cexp_e rfl rfl | refine Dx rfl rfl rfl ?_) <;> fail) | fail) : AhE P G o F H chain := Amw ho h1 h2 h3 h ha
end
def AbY (x:Int) (dx:Nat) (y:Int) (dy:Nat):Int:=sgI (x*2 ^ (max dx dy - dx) - y*2 ^ (max dx dy - dy))
theorem Hu (x:Int) (k:Nat):sgI (x*2 ^ k)=sgI x:=by
 have hp:(0:Int)<2 ^ k:=iq (by decide)
 unfold sgI
 by_cases h:x=0
 ·subst h;simp
 ·have h1:¬ x*2 ^ k=0:=by
   intro h0
   rcases Int.mul_eq_zero.1 h0 with h2|h2
   ·exact h h2
   ·omega
  rw [if_neg h,if_neg h1]
  by_cases h2:x<0
  ·rw [if_pos h2,if_pos (ks h2 hp)]
  ·have:=gu (show 0≤x by omega) (ay hp)
   rw [if_neg h2,if_neg (by omega)]
theorem AjX {x:Int} (h:sgI x<sgI y):sgI (x - y) = -1:=by
 have:x<y:=by
  unfold sgI at h
  split at h <;> split at h <;> (try split at h) <;> (try split at h) <;> omega
 unfold sgI
 rw [if_neg (by omega),if_pos (by omega)]
theorem AqM {x:Int} (h:sgI y<sgI x):sgI (x - y)=1:=by
 have:=AjX h
 have h2:y<x:=by
  unfold sgI at h
  split at h <;> split at h <;> (try split at h) <;> (try split at h) <;> omega
 unfold sgI
 rw [if_neg (by omega),if_neg (by omega)]
theorem AhI (x:Int):sgI (-x) = -sgI x:=by
 unfold sgI
 by_cases h:x=0
 ·subst h;rfl
 ·by_cases h2:x<0
  ·rw [if_neg (by omega),if_neg (by omega),if_neg h,if_pos h2];rfl
  ·rw [if_neg (by omega),if_pos (by omega),if_neg h,if_neg h2]
theorem Zk (x:Int) (k:Nat):((x.natAbs*2 ^ k:Nat):Int)=(if x<0 then -(x*2 ^ k) else x*2 ^ k):=by
 have e:((x.natAbs*2 ^ k:Nat):Int)=(x.natAbs:Int)*2 ^ k:=by simp
 rw [e]
 by_cases h:x<0
 ·rw [if_pos h,show (x.natAbs:Int) = -x by omega,cz]
 ·rw [if_neg h,show (x.natAbs:Int)=x by omega]
theorem QI (x:Int) : -1≤sgI x∧sgI x≤1:=by
 unfold sgI
 split
 ·omega
 ·split <;> omega
theorem AmA {v2:Value} {x:Int} {dx dy lo1 lo2 m:Nat} (D1:DyR w lo1 m v x dx) (D2:DyR w lo2 m v2 y dy) (hm:m≤w.heap.size) (l1:(Ae x.natAbs).length≤50000) (l2:(Ae y.natAbs).length≤50000) :
  Calls prog 56 #[v,v2] w fun e w'=>∃ u1 u2 D,e=.returned (.tuple #[.bool (decide (x<0)),u1,.bool (decide (y<0)),u2,.int .i64 (D:Int)]) ∧
   WdR w' w'.heap.size u1 (x.natAbs*2 ^ (max dx dy - dx))∧WdR w' w'.heap.size u2 (y.natAbs*2 ^ (max dx dy - dy))∧Below w.heap.size w w':=by
 have hd1:=D1.bound.1
 have hd2:=D2.bound.1
 obtain ⟨nb1,A1,L1,c1,rfl,HD1⟩:=D1.form
 obtain ⟨nb2,A2,L2,c2,rfl,HD2⟩:=D2.form
 have b0:Below w.heap.size w ((w.alloc (.cells #[.bool nb1,.slice A1 L1 c1,.int .i64 (dx:Int)] 43)).alloc (.cells #[.bool nb2,.slice A2 L2 c2,.int .i64 (dy:Int)] 43)):=Aq (Aq (ab _ _) _) _
 have r0:=(Cj.new_ w [.bool nb1,.slice A1 L1 c1,.int .i64 (dx:Int)] 43).call (al_ _ (.cells #[.bool nb2,.slice A2 L2 c2,.int .i64 (dy:Int)] 43))
 have r1:=Cj.new_ (w.alloc (.cells #[.bool nb1,.slice A1 L1 c1,.int .i64 (dx:Int)] 43)) [.bool nb2,.slice A2 L2 c2,.int .i64 (dy:Int)] 43
 rw [show (w.alloc (.cells #[.bool nb1,.slice A1 L1 c1,.int .i64 (dx:Int)] 43)).heap.size=w.heap.size+1 by simp] at r1
 have D1':=mz D1
 have D2':=mz D2
 obtain ⟨D,hD⟩:∃ D:Nat,D=max dx dy:=⟨_,rfl⟩
 have hDD:max (dx:Int) (dy:Int)=(D:Int):=by omega
 obtain ⟨p,hp⟩:∃ p:Nat,p=D - dx:=⟨_,rfl⟩
 obtain ⟨q,hq⟩:∃ q:Nat,q=D - dy:=⟨_,rfl⟩
 have hpp:(D:Int) - (dx:Int)=(p:Int):=by omega
 have hqq:(D:Int) - (dy:Int)=(q:Int):=by omega
 have hp6:p≤1000000:=by omega
 have hq6:q≤1000000:=by omega
 rw [←hD,←hp,←hq]
 clear D1 D2 hD hp hq
 go_enter func56,ntmps56
 go_wp2_with fail
 go_at_call 69
 refine (GO (D1'.out.below b0 hm) (by simp;omega) (by omega)).mono ?_
 rintro e w1 ⟨nb',A',L',c',he,rfl,hb1⟩
 cases he
 have s1:=r1.below hb1 (by simp)
 have b1:=b0.trans (hb1.mono (by simp;omega))
 have k0:w1.cell? ⟨w.heap.size+1,0,none⟩=some (.bool nb2):=s1.cell 0
 have k1:w1.cell? ⟨w.heap.size+1,1,none⟩=some (.slice A2 L2 c2):=s1.cell 1
 have k2:w1.cell? ⟨w.heap.size+1,2,none⟩=some (.int .i64 (dy:Int)):=s1.cell 2
 clear hb1 r0 r1 b0
 go_wp2_with fail
 go_at_call 69
 have hs1:=b1.size
 refine (GO (D2'.out.below b1 hm) (by omega) (by omega)).mono ?_
 rintro e w2 ⟨nb',A',L',c',he,rfl,hb2⟩
 cases he
 have b2:=b1.trans (hb2.mono hs1)
 have X1:=(D1'.out.below b2 hm).words
 have X2:=mz (D2'.out.below b2 hm).words
 clear hb2 b1 k0 k1 k2 s1
 go_wp2_with fail
 go_at_call 70
 have hs2:=b2.size
 refine (Xs X1 (by omega) (by omega) hp6).mono ?_
 rintro e w3 ⟨v3,rfl,Y1,hb3⟩
 have b3:=b2.trans (hb3.mono hs2)
 have X2':=X2.out.below hb3 (by omega)
 obtain ⟨A3,L3,c3,rfl⟩:=Y1.form
 clear hb3 b2 X1 X2 hs2 hs1
 go_wp2_with fail
 go_at_call 70
 have hs3:=b3.size
 refine (Xs X2' (by omega) (by omega) hq6).mono ?_
 rintro e w4 ⟨v4,rfl,Y2,hb4⟩
 obtain ⟨A4,L4,c4,rfl⟩:=Y2.form
 go_wp2_with fail
 refine bodyPost_ret (v:=.tuple #[.bool nb1,.slice A3 L3 c3,.bool nb2,.slice A4 L4 c4,.int .i64 (D:Int)]) (by simp [results,results56,go_sem]) rfl ⟨.slice A3 L3 c3,.slice A4 L4 c4,D,by rw [HD1.out.1,HD2.out.1],(Y1.below hb4 (aa _)).more hb4.size,Y2,b3.trans (hb4.mono hs3)⟩
theorem AhJ {v2:Value} {x:Int} {dx dy lo1 lo2 m:Nat} (D1:DyR w lo1 m v x dx) (D2:DyR w lo2 m v2 y dy) (hm:m≤w.heap.size) (l1:(Ae x.natAbs).length≤50000) (l2:(Ae y.natAbs).length≤50000) :
    Calls prog 15 #[v,v2] w fun e w'=>e=.returned (.int .i64 (AbY x dx y dy))∧Below w.heap.size w w':=by
  have hd1:=D1.bound.1
  have hd2:=D2.bound.1
  obtain ⟨nb1,A1,L1,c1,rfl,HD1⟩:=D1.form
  obtain ⟨nb2,A2,L2,c2,rfl,HD2⟩:=D2.form
  have b0:Below w.heap.size w ((w.alloc (.cells #[.bool nb1,.slice A1 L1 c1,.int .i64 (dx:Int)] 43)).alloc (.cells #[.bool nb2,.slice A2 L2 c2,.int .i64 (dy:Int)] 43)):=Aq (Aq (ab _ _) _) _
  have r0:=(Cj.new_ w [.bool nb1,.slice A1 L1 c1,.int .i64 (dx:Int)] 43).call (al_ _ (.cells #[.bool nb2,.slice A2 L2 c2,.int .i64 (dy:Int)] 43))
  have r1:=Cj.new_ (w.alloc (.cells #[.bool nb1,.slice A1 L1 c1,.int .i64 (dx:Int)] 43)) [.bool nb2,.slice A2 L2 c2,.int .i64 (dy:Int)] 43
  rw [show (w.alloc (.cells #[.bool nb1,.slice A1 L1 c1,.int .i64 (dx:Int)] 43)).heap.size=w.heap.size+1 by simp] at r1
  have D1':=D1.below b0 hm
  have D2':=D2.below b0 hm
  clear D1 D2
  go_enter func15,ntmps15
  go_wp2_with fail
  obtain ⟨W,hW⟩:∃ W,W=((w.alloc (.cells #[.bool nb1,.slice A1 L1 c1,.int .i64 (dx:Int)] 43)).alloc (.cells #[.bool nb2,.slice A2 L2 c2,.int .i64 (dy:Int)] 43)):=⟨_,rfl⟩
  have hWs:W.heap.size=w.heap.size+2:=by rw [hW];simp
  rw [←hW]
  rw [←hW] at b0 D1' D2' r0 r1
  clear hW
  have a0:W.cell? ⟨w.heap.size,0,none⟩=some (.bool nb1):=r0.cell 0
  have a1:W.cell? ⟨w.heap.size,1,none⟩=some (.slice A1 L1 c1):=r0.cell 1
  have a2:W.cell? ⟨w.heap.size,2,none⟩=some (.int .i64 (dx:Int)):=r0.cell 2
  have e0:W.cell? ⟨w.heap.size+1,0,none⟩=some (.bool nb2):=r1.cell 0
  have e1:W.cell? ⟨w.heap.size+1,1,none⟩=some (.slice A2 L2 c2):=r1.cell 1
  have e2:W.cell? ⟨w.heap.size+1,2,none⟩=some (.int .i64 (dy:Int)):=r1.cell 2
  have hz:w.heap.size+2≤W.heap.size:=by omega
  have hle:m≤w.heap.size+2:=by omega
  obtain ⟨sx,hsx⟩:∃ sx,sx=sgI x:=⟨_,rfl⟩
  obtain ⟨sy,hsy⟩:∃ sy,sy=sgI y:=⟨_,rfl⟩
  have HSX:=mz hsx
  have HSY:=mz hsy
  have hrx:=QI x
  have hry:=QI y
  rw [←hsx] at hrx
  rw [←hsy] at hry
  have hc1:∀ u:Sa W (w.heap.size+2),Calls prog 55 #[.agg #[.bool nb1,.slice A1 L1 c1,.int .i64 (dx:Int)]] u.val fun e w'=>e=.returned (.int .i64 sx)∧Below u.val.heap.size u.val w':=fun u=>by
    rw [hsx];exact AcC (D1'.below u.is hle) (lT hle u.fits) (by omega)
  have hc2:∀ u:Sa W (w.heap.size+2),Calls prog 55 #[.agg #[.bool nb2,.slice A2 L2 c2,.int .i64 (dy:Int)]] u.val fun e w'=>e=.returned (.int .i64 sy)∧Below u.val.heap.size u.val w':=fun u=>by
    rw [hsy];exact AcC (D2'.below u.is hle) (lT hle u.fits) (by omega)
  have HC1:=mz hc1
  have HC2:=mz hc2
  clear hsx hsy hc1 hc2 hWs
  refine RD (w.heap.size+2) hz (by kernel_rfl) (by kernel_rfl) ?_
  intro _
  repeat (go_big_quiet_step ((first
    | (go_at_call_of 55 (Value.agg #[.bool nb1,.slice A1 L1 c1,.int .i64 (dx:Int)]);exact MH (HC1.out _))
    | (go_at_call_of 55 (Value.agg #[.bool nb2,.slice A2 L2 c2,.int .i64 (dy:Int)]);exact MH (HC2.out _)))))
  refine wpQuiet_nil ?_
  intro w2 hw'
  obtain ⟨⟨_,hb2,hz2⟩,rfl⟩:=hw'
  have s0:=r0.below hb2 (by omega)
  have s1:=r1.below hb2 (by omega)
  have b2:=b0.trans (hb2.mono (by omega))
  replace D1':=D1'.below hb2 hle
  replace D2':=D2'.below hb2 hle
  clear r0 r1 b0 a0 a1 a2 e0 e1 e2 hz hb2 HC1 HC2
  have a0:w2.cell? ⟨w.heap.size,0,none⟩=some (.bool nb1):=s0.cell 0
  have a1:w2.cell? ⟨w.heap.size,1,none⟩=some (.slice A1 L1 c1):=s0.cell 1
  have a2:w2.cell? ⟨w.heap.size,2,none⟩=some (.int .i64 (dx:Int)):=s0.cell 2
  have e0:w2.cell? ⟨w.heap.size+1,0,none⟩=some (.bool nb2):=s1.cell 0
  have e1:w2.cell? ⟨w.heap.size+1,1,none⟩=some (.slice A2 L2 c2):=s1.cell 1
  have e2:w2.cell? ⟨w.heap.size+1,2,none⟩=some (.int .i64 (dy:Int)):=s1.cell 2
  by_cases hne:sx=sy
  · have hnb:(sx != sy)=false:=by rw [hne];simp
    have HNE:=mz hne
    clear hne
    go_wp2_with fail
    go_at_call 56
    refine (AmA D1' D2' (by omega) l1 l2).mono ?_
    rintro e w3 ⟨u1,u2,D,rfl,Y1,Y2,hb3⟩
    have b3:=b2.trans (hb3.mono (by omega))
    obtain ⟨A3,L3,c3,rfl⟩:=Y1.form
    obtain ⟨A4,L4,c4,rfl⟩:=Y2.form
    have hla:(Ae (x.natAbs*2 ^ (max dx dy - dx))).length≤100000:=by
      have:=BG x.natAbs (max dx dy - dx)
      omega
    have hlb:(Ae (y.natAbs*2 ^ (max dx dy - dy))).length≤100000:=by
      have:=BG y.natAbs (max dx dy - dy)
      omega
    have HLA:=mz hla
    have HLB:=mz hlb
    have Y1':=mz Y1
    have Y2':=mz Y2
    obtain ⟨cv,hcv⟩:∃ cv,cv=sgI (((x.natAbs*2 ^ (max dx dy - dx):Nat):Int) - ((y.natAbs*2 ^ (max dx dy - dy):Nat):Int)):=⟨_,rfl⟩
    have hcr:=QI (((x.natAbs*2 ^ (max dx dy - dx):Nat):Int) - ((y.natAbs*2 ^ (max dx dy - dy):Nat):Int))
    rw [←hcv] at hcr
    have HCV:=mz hcv
    have hres:AbY x dx y dy=if x<0 then -cv else cv:=by
      have hs:(x<0) ↔ (y<0):=by
        have h5:=HNE.out
        rw [HSX.out,HSY.out] at h5
        unfold sgI at h5
        constructor <;> intro h6 <;> (repeat (first|split at h5|omega))
      have hz:(x=0) ↔ (y=0):=by
        have h5:=HNE.out
        rw [HSX.out,HSY.out] at h5
        unfold sgI at h5
        constructor <;> intro h6 <;> (repeat (first|split at h5|omega))
      rw [hcv,Zk,Zk]
      unfold AbY
      by_cases h:x<0
      · rw [if_pos h,if_pos h,if_pos (hs.1 h),←AhI]
        congr 1
        omega
      · rw [if_neg h,if_neg h,if_neg (fun h2=>h (hs.2 h2))]
    have HRES:=mz hres
    clear hla hlb Y1 Y2 hcv hres hb3 b2
    cases hdx:decide (x<0) with
    | true =>
      have HXN := mz (show x < 0 by simpa using hdx)
      clear hdx
      go_wp2_with (go_at_call 57;refine (NW Y1'.out Y2'.out HLA.out HLB.out).mono ?_;rintro e w4 ⟨rfl,hb4⟩;rw [←HCV.out])
      go_ret
      exact ⟨by rw [HRES.out,if_pos HXN.out];rfl,b3.trans (hb4.mono (by have:=b3.size;omega))⟩
    | false =>
      have HXN := mz (show ¬ x < 0 by simpa using hdx)
      clear hdx
      go_wp2_with (go_at_call 57;refine (NW Y1'.out Y2'.out HLA.out HLB.out).mono ?_;rintro e w4 ⟨rfl,hb4⟩;rw [←HCV.out])
      go_ret
      exact ⟨by rw [HRES.out,if_neg (by have:=HXN.out;omega)];rfl,b3.trans (hb4.mono (by have:=b3.size;omega))⟩
  · have hnb:(sx != sy)=true:=by simpa using hne
    by_cases hlt:sx<sy
    · have HV := mz (show AbY x dx y dy = -1 by unfold AbY; refine AjX ?_; rw [Hu, Hu, ← HSX.out, ← HSY.out]; exact hlt)
      have hltb:decide (sx<sy)=true:=decide_eq_true hlt
      clear hne
      go_wp2_with fail
      go_ret
      exact ⟨by rw [HV.out];rfl,b2⟩
    · have HV := mz (show AbY x dx y dy = 1 by unfold AbY; refine AqM ?_; rw [Hu, Hu, ← HSX.out, ← HSY.out]; omega)
      have hltb:decide (sx<sy)=false:=decide_eq_false hlt
      clear hne
      go_wp2_with fail
      go_ret
      exact ⟨by rw [HV.out];rfl,b2⟩
structure Bk where
 kind:Int
 A:Option Addr
 args:List Int
 cap:Nat
 vn:Int
 ve:Int
 un:Int
 ue:Int
def Bk.cells (b:Bk):List Value:=[.int .i64 b.kind,.slice b.A b.args.length b.cap,.int .i64 b.vn,.int .i64 b.ve,.int .i64 b.un,.int .i64 b.ue]
def bk0:Bk:=⟨0,none,[],0,0,0,0,0⟩
def AK (bs:List Bk) (i:Nat):Int:=(bs[i]?.getD bk0).kind
def Su (bs:List Bk) (i:Nat):List Int:=(bs[i]?.getD bk0).args
def Lk (bs:List Bk) (i:Nat):List Int:=if AK bs i=0 then [] else Su bs i
theorem AqN:∀ {l1 l2:List Nat},l1.Nodup→(∀ x∈l1,x∈l2)→l1.length≤l2.length
 | [],_,_,_=>ad _
 | x::l,l2,hn,hs=>by
  have hx:=hs x (by simp)
  have hn':=List.nodup_cons.1 hn
  have:=AqN (l1:=l) (l2:=l2.erase x) hn'.2 (fun y hy=>(List.mem_erase_of_ne (fun h=>hn'.1 (by rw [←h];exact hy))).2 (hs y (by simp [hy])))
  rw [List.length_erase_of_mem hx] at this
  have hp:0<l2.length:=List.length_pos_of_mem hx
  simp
  omega
/- The order. -/
def Gh (bs:List Bk) (out:List Nat) (j:Nat):Bool:=AK bs j == 2 || out.contains j
def rdy (bs:List Bk) (out:List Nat) (i:Nat):Bool:=!Gh bs out i && (Lk bs i).all fun a=>Gh bs out a.toNat
def nxt (bs:List Bk) (out:List Nat):Option Nat:=(List.range bs.length).find? (rdy bs out)
def Zl (bs:List Bk):Nat→List Nat→List Nat
 | 0,out=>out
 | f+1,out=>match nxt bs out with
  | none=>out
  | some i=>Zl bs f (out++[i])
def EB (bs:List Bk):Nat:=((List.range bs.length).filter fun i=>AK bs i != 2).length
def Bn (bs:List Bk):List Nat:=Zl bs bs.length []
def AI (bs:List Bk):List Nat:=(List.range bs.length).filter fun i=>AK bs i == 2
structure Gi (bs:List Bk) (out:List Nat):Prop where
 nodup:out.Nodup
 mem:∀ j∈out,j<bs.length∧AK bs j≠2
theorem TQ {bs:List Bk} (h:nxt bs out=some i):i<bs.length∧rdy bs out i=true:=by
 have h1:=List.find?_some h
 have h2:=List.mem_of_find?_eq_some h
 exact ⟨by simpa using h2,h1⟩
theorem Gi.nil (bs:List Bk):Gi bs []:=⟨List.nodup_nil,by simp⟩
theorem Gi.push {bs:List Bk} (h:Gi bs out) {i:Nat} (hn:nxt bs out=some i):Gi bs (out++[i]):=by
 obtain ⟨h1,h2⟩:=TQ hn
 simp only [rdy,Gh,aj,mb,iu,beq_eq_false_iff_ne] at h2
 refine ⟨List.nodup_append.2 ⟨h.nodup,by simp,fun x hx y hy=>?_⟩,fun j hj=>?_⟩
 ·simp at hy
  subst hy
  intro he
  subst he
  have:=h2.1.2
  simp [hx] at this
 ·rcases List.mem_append.1 hj with hj|hj
  ·exact h.mem j hj
  ·simp at hj
   subst hj
   exact ⟨h1,h2.1.1⟩
theorem Gi.le {bs:List Bk} (h:Gi bs out):out.length≤EB bs:=by
 have hs:out ⊆ (List.range bs.length).filter fun i=>AK bs i != 2:=fun j hj=>by
  have:=h.mem j hj
  simp [this.1,this.2]
 exact AqN h.nodup hs
theorem QJ (bs:List Bk):EB bs≤bs.length:=by
 unfold EB
 have:=kt (fun i=>AK bs i != 2) (List.range bs.length)
 simpa using this
theorem GR {bs:List Bk}:∀ (f:Nat) {out:List Nat},Gi bs out→Gi bs (Zl bs f out)
 | 0,_,h=>h
 | f+1,out,h=>by
  unfold Zl
  split
  ·exact h
  ·rename_i i hi
   exact GR f (h.push hi)
theorem VH {bs:List Bk}:∀ (f g:Nat) {out:List Nat},Gi bs out→EB bs - out.length≤f→f≤g→Zl bs f out=Zl bs g out
 | 0,g,out,h,hf,_=>by
  have hfull:out.length=EB bs:=by have:=h.le;omega
  cases g with
  | zero=>rfl
  | succ g =>
   show out=match nxt bs out with|none=>out|some i=>Zl bs g (out++[i])
   cases hn:nxt bs out with
   | none=>rfl
   | some i =>
    have:=(h.push hn).le
    simp at this
    omega
 | f+1,0,_,_,_,hg=>by omega
 | f+1,g+1,out,h,hf,hg=>by
  show (match nxt bs out with|none=>out|some i=>Zl bs f (out++[i]))=match nxt bs out with|none=>out|some i=>Zl bs g (out++[i])
  cases hn:nxt bs out with
  | none=>rfl
  | some i=>exact VH f g (h.push hn) (by simp;omega) (by omega)
/- What a block depends on. -/
def VJ (bs:List Bk) (over:Bool) (i:Nat):List Int:=if AK bs i=2∧over=false then [] else Lk bs i
def Adv (bs:List Bk):Prop:=∀ i,i<bs.length→∀ a∈Lk bs i,0≤a∧a<(bs.length:Int)
theorem XG {bs:List Bk} {over:Bool} {a:Int} (h:a∈VJ bs over i):a∈Lk bs i:=by
 unfold VJ at h
 split at h
 ·cases h
 ·exact h
/- The document's way: pass after pass. -/
def Bc (k:Int):Int:=if k=1 then 0 else if k=0∨k=2∨k=5∨k=10∨k=6∨k=11 then 1 else if k=3∨k=4∨k=7∨k=8∨k=9 then 2 else -1
def Dn (num ex:Int):Prop := -2147483648<num∧num<2147483648 ∧ -62≤ex∧ex≤30
instance (num ex:Int):Decidable (Dn num ex):=by unfold Dn;infer_instance
def DT (num ex:Int) (used:Bool):Int:=if used=true then (if Dn num ex then 0 else 3) else (if num=0∧ex=0 then 0 else 2)
def Apx (num ex:Int):Int:=num*2 ^ (ex+62).toNat
def VK (an ae bn be:Int):Int:=sgI (Apx an ae - Apx bn be)
theorem IP {num ex:Int} (h1 : -62≤ex) (h2:ex≤30):(Ac num 0 ex).1*2 ^ 62=Apx num ex*2 ^ (Ac num 0 ex).2:=by
 unfold Ac Apx
 have e:max (-65536) (min ex 65536)=ex:=by omega
 rw [e]
 by_cases h:ex<0
 ·rw [if_pos h]
  obtain ⟨n,hn⟩:∃ n:Nat,ex = -(n:Int):=⟨(-ex).toNat,by omega⟩
  have e1:(-ex).toNat=n:=by omega
  have e2:(ex+62).toNat=62 - n:=by omega
  rw [e1,e2,bf]
  have h3:=Acy num n
  have h4:(2:Int) ^ 62=2 ^ n*2 ^ (62 - n):=by rw [←al,show n+(62 - n)=62 by omega]
  rw [h4,←ah,h3,ah,ah,cj (2 ^ _) (2 ^ _)]
 ·rw [if_neg h]
  obtain ⟨n,rfl⟩:=mu (show 0≤ex by omega)
  rw [ao,GN (by omega),show ((n:Int)+62).toNat=n+62 by omega,al]
  simp [ah]
theorem AmB {an ae bn be:Int} (h1:Dn an ae) (h2:Dn bn be):AbY (Ac an 0 ae).1 (Ac an 0 ae).2 (Ac bn 0 be).1 (Ac bn 0 be).2=VK an ae bn be:=by
 have e1:=IP h1.2.2.1 h1.2.2.2 (num:=an)
 have e2:=IP h2.2.2.1 h2.2.2.2 (num:=bn)
 unfold AbY VK
 revert e1 e2
 generalize Ac an 0 ae=p
 generalize Ac bn 0 be=q
 obtain ⟨x,dx⟩:=p
 obtain ⟨y,dy⟩:=q
 generalize Apx an ae=V1
 generalize Apx bn be=V2
 intro e1 e2
 dsimp only at e1 e2 ⊢
 rw [←Hu _ 62,←Hu (V1 - V2) (max dx dy)]
 congr 1
 have f1:(2:Int) ^ max dx dy=2 ^ dx*2 ^ (max dx dy - dx):=by rw [←al,show dx+(max dx dy - dx)=max dx dy by omega]
 have f2:(2:Int) ^ max dx dy=2 ^ dy*2 ^ (max dx dy - dy):=by rw [←al,show dy+(max dx dy - dy)=max dx dy by omega]
 rw [fk,fk]
 congr 1
 ·rw [f1,←ah,←e1,ah,ah,cj (2 ^ _) (2 ^ _)]
 ·rw [f2,←ah,←e2,ah,ah,cj (2 ^ _) (2 ^ _)]
theorem AmC {x:Int} (h:0<x):sgI x=1:=by unfold sgI;rw [if_neg (by omega),if_neg (by omega)]
theorem AmD {x:Int} (h:x<0):sgI x = -1:=by unfold sgI;rw [if_neg (by omega),if_pos h]
theorem Dz (x y:Int):sgI (x - y)=if x<y then -1 else if y<x then 1 else 0:=by
 by_cases h:x<y
 ·rw [if_pos h,AmD (by omega)]
 ·rw [if_neg h]
  by_cases h2:y<x
  ·rw [if_pos h2,AmC (by omega)]
  ·rw [if_neg h2,show x - y=0 by omega];rfl
open Go.Deep
theorem Hv {bs:List Bk} {k:Nat} {x:Bk} (h:bs[k]?=some x):AK bs k=x.kind:=by simp [AK,h]
theorem AmE {bs:List Bk} {k:Nat} {x:Bk} (h:bs[k]?=some x):Su bs k=x.args:=by simp [Su,h]
theorem Zm {bs:List Bk} {k:Nat} {x:Bk} (h:bs[k]?=some x):Lk bs k=if x.kind=0 then [] else x.args:=by simp [Lk,Hv h,AmE h]
theorem Zn {bs:List Bk} {k:Nat} {x:Bk} {over:Bool} (h:bs[k]?=some x):VJ bs over k=if x.kind=2∧over=false then [] else if x.kind=0 then [] else x.args:=by simp [VJ,Hv h,Zm h]
def BZ (l:List Nat):List Int:=l.map fun n:Nat=>(n:Int)
def fl (p:Nat→Bool) (k:Nat):List Nat:=(List.range k).filter p
theorem AjY {p:Nat→Bool} {k:Nat} (h:p k=true):fl p (k+1)=fl p k++[k]:=by unfold fl;rw [ct,ku];simp [h]
theorem AqO {p:Nat→Bool} {k:Nat} (h:p k=false):fl p (k+1)=fl p k:=by unfold fl;rw [ct,ku];simp [h]
theorem AqP (p:Nat→Bool) (k:Nat):(fl p k).length≤k:=by unfold fl;simpa using kt p (List.range k)
def EZ (bs:List Bk) (i:Nat):Bool:=AK bs i == 2
open Go.ChangeShapes Go.WideShapes Go.ChangeAt Go.Joins
theorem TR {α:Type} {f:α→List Value} {s:Nat} (hf:∀ x,(f x).length=s) (l:List α):(NT f l).length=l.length*s:=by
 induction l with
 | nil=>simp [NT]
 | cons x l ih =>
  simp only [NT,bp,gd,ak,hf] at ih ⊢
  rw [ih,bi,Nat.succ_mul,Nat.add_comm]
theorem AhK {cs:List Value} (h:∀ c∈cs,∃z:Int,c=.int .i64 z ∧ -9223372036854775808≤z∧z≤9223372036854775807):∃ zs:List Int,cs=Lv zs∧∀ z∈zs,-9223372036854775808≤z∧z≤9223372036854775807:=by
 induction cs with
 | nil=>exact ⟨[],rfl,by simp⟩
 | cons c cs ih =>
  obtain ⟨zs,rfl,hz⟩:=ih (fun c hc=>h c (by simp [hc]))
  obtain ⟨z,rfl,hb⟩:=h c (by simp)
  exact ⟨z::zs,rfl,fun y hy=>by
   rcases List.mem_cons.1 hy with rfl|hy
   ·exact hb
   ·exact hz y hy⟩
section
variable {H:Type} {enc:TypeId × Value→H} {P:Program} {w:World} {spare:Nat→Bool} {held:Bool}
theorem Zo {e:TypeId} {fs:Array Field} {cs:List Value} {x:DataW H × List MemPlace} (hs:P.underlying e=some (.struct fs)) (hone:oneCellFields P fs=true) (hint:∀ (i:Nat) (f:Field),fs[i]?=some f→P.underlying f.type=some (.int .i64)) (hC:P.cellsOf e=fs.size)
  (h:DataW.trod enc P w 0 spare held fuel e cs=some x):∃ zs:List Int,cs=Lv zs∧zs.length=fs.size∧∀ z∈zs,-9223372036854775808≤z∧z≤9223372036854775807:=by
 obtain ⟨xs,n,_,_,hlen,hxl,hg⟩:=DataW.trod_struct hs h
 obtain ⟨zs,rfl,hz⟩:=AhK (cs:=cs) (fun c hc=>by
  obtain ⟨i,hi⟩:=di hc
  have hil:i<cs.length:=(gS.1 hi).1
  have hif:i<fs.size:=by omega
  have hf:fs[i]?=some fs[i]:=by simp [hif]
  obtain ⟨o0,k0⟩:=hone_of hone i fs[i] hf
  have hgi:=hg i fs[i] hf
  rw [o0,k0,take1_drop cs i undef hil,gE (by omega)] at hgi
  obtain ⟨z,hz,_,hw⟩:=DataW.trod_int (hint i fs[i] hf) hgi
  have hd:cs.getD i undef=c:=by simp [List.getD,hi]
  rw [hd] at hz
  exact ⟨z,by simpa using hz,bounds_i64 hw⟩)
 exact ⟨zs,rfl,by rw [←Py,hlen,hC],hz⟩
theorem AqQ (h:p:=by
 rcases bh b w.heap.size with h|h
 ·exact h
 ·simp [World.cell?,Addr.add,fo h] at h00):p:=h
theorem VL {α:Type} {f:α→List Value} {s:Nat} (mk:List Int→α) (hmk:∀ zs,zs.length=s→f (mk zs)=Lv zs) (hfl:∀ x,(f x).length=s) (hs0:0<s) {t e:TypeId} {fs:Array Field} {fuel:Nat} {v:Value} {x:DataW H × List MemPlace} (ht:P.underlying t=some (.slice e)) (hs:P.underlying e=some (.struct fs)) (hone:oneCellFields P fs=true) (hint:∀ (i:Nat) (f:Field),fs[i]?=some f→P.underlying f.type=some (.int .i64)) (hC:P.cellsOf e=fs.size) (hsz:fs.size=s)
  (h:DataW.trod enc P w 0 spare held fuel t [v]=some x) :
  ∃ (A:Option Addr) (cap:Nat) (l:List α),v=.slice A l.length cap∧(A=none→cap=0)∧l.length≤cap∧l.length≤maxLen∧Am w w.heap.size A (NT f l)∧(∀ x∈l,∃zs,x=mk zs∧zs.length=s∧∀ z∈zs,-9223372036854775808≤z∧z≤9223372036854775807):=by
 rcases open_slice ht h with ⟨hcs,_⟩|⟨a,len,cap,m,n,D,Pl,hcs,_,hl,hm,hmm,_,hx⟩
 ·exact ⟨none,0,[],by simpa using hcs,fun _=>rfl,aa _,ad _,Am.nil_,by simp⟩
 ·have hle:len≤m:=by rw [hmm];split <;> omega
  rw [hC,hsz] at hx
  obtain ⟨R,hR⟩:=choose_lt (α:=List Int) (n:=len) (p:=fun i zs=>zs.length=s∧(∀ z∈zs,-9223372036854775808≤z∧z≤9223372036854775807)∧∀ j,j<s→w.cell? (a.add (i*s+j))=(Lv zs)[j]?) (fun i hi=>by
   obtain ⟨cs',h1,h2⟩:=hx i (by omega)
   obtain ⟨zs,rfl,hzl,hzb⟩:=Zo hs hone hint hC h2
   obtain ⟨_,hlen,hcell⟩:=World.cells?_some h1
   exact ⟨zs,hzl.trans hsz,hzb,fun j hj=>by rw [←add_add];exact hcell j hj⟩)
  refine ⟨some a,cap,(List.range len).map (fun i=>mk (R i)),by simpa using hcs,by simp,by simpa using hl,by simp;omega,fun hne=>?_,?_⟩
  ·have hpos:0<len:=by
    rcases de len with h0|h0
    ·subst h0;simp [NT] at hne
    ·exact h0
   obtain ⟨b,off,spot⟩:=a
   have h00:=(hR 0 hpos).2.2 0 hs0
   have hz0:(Lv (R 0))[0]?=some ((Lv (R 0))[0]'(by rw [Py,(hR 0 hpos).1];exact hs0)):=gE _
   rw [hz0] at h00
   have hspot:spot=none:=by simpa [Addr.add] using World.cell?_spot h00
   subst hspot
   have hb:b<w.heap.size:=by
    exact AqQ
   refine ⟨b,off,rfl,hb,hb,fun j u hu=>?_⟩
   have hjl:j<len*s:=by
    have:=(gS.1 hu).1
    rw [TR hfl] at this
    simpa using this
   have hk:j / s<len:=li (by rw [aw];exact hjl)
   have hr:j % s<s:=ff _ hs0
   have hj:j / s*s+j % s=j:=by rw [aw];exact ea j s
   have hg:((List.range len).map (fun i=>mk (R i)))[j / s]?=some (mk (R (j / s))):=by simp [hk]
   have h1:=IG hfl hg hr
   rw [hj,hu,hmk _ (hR _ hk).1] at h1
   have h2:=(hR _ hk).2.2 (j % s) hr
   rw [hj,←h1] at h2
   rw [←Go.WideShapes.add_plain]
   exact h2
  ·intro y hy
   obtain ⟨i,hi,rfl⟩:=List.mem_map.1 hy
   have:=hR i (by simpa using hi)
   exact ⟨_,rfl,this.1,this.2.1⟩
theorem GS {e:TypeId} {x:DataW H × List MemPlace} (ht:P.underlying t=some (.slice e)) (he:P.underlying e=some (.int .i64)) (hc:P.cellsOf e=1)
  (h:DataW.trod enc P w 0 spare held fuel t [v]=some x) :
  ∃ (A:Option Addr) (cap:Nat) (zs:List Int),v=.slice A zs.length cap∧(A=none→cap=0)∧zs.length≤cap∧zs.length≤maxLen∧Am w w.heap.size A (Lv zs)∧(∀ z∈zs,-9223372036854775808≤z∧z≤9223372036854775807):=by
 obtain ⟨A,cap,zs,hv,h1,h2,h3,h4⟩:=UY ht he hc h
 refine ⟨A,cap,zs,hv,fun hA=>?_,h1,h2,h3,h4⟩
 subst hA hv
 rcases open_slice ht h with ⟨hcs,_⟩|⟨a,len,cap',m,n,D,Pl,hcs,_⟩
 ·simp at hcs
  exact hcs.2
 ·simp at hcs
end
theorem Dr (l:List Nat):(BZ l).length=l.length:=by simp [BZ]
theorem PF (l:List Nat) (i:Nat):BZ (l++[i])=BZ l++[(i:Int)]:=by simp [BZ]
theorem Adw (bs:List Bk) (out:List Nat) (i:Nat):rdy bs out i=(!Gh bs out i && (Lk bs i).all fun a=>Gh bs out a.toNat):=rfl
structure Oo (bs:List Bk) (out:List Nat):Prop where
 ok:Gi bs out
 more:Zl bs bs.length out=Bn bs
theorem Oo.nil (bs:List Bk):Oo bs []:=⟨Gi.nil bs,rfl⟩
theorem Oo.push {bs:List Bk} (h:Oo bs out) (hn:nxt bs out=some i):Oo bs (out++[i]):=by
 refine ⟨h.ok.push hn,?_⟩
 have h1:=VH bs.length (bs.length+1) h.ok (by have:=QJ bs;omega) (by omega)
 rw [←h.more,h1]
 show _=match nxt bs out with|none=>out|some i=>Zl bs bs.length (out++[i])
 rw [hn]
theorem Oo.done {bs:List Bk} (h:Oo bs out) (hn:nxt bs out=none):Bn bs=out:=by
 rw [←h.more]
 cases hb:bs.length with
 | zero=>rfl
 | succ f =>
  show (match nxt bs out with|none=>out|some i=>Zl bs f (out++[i]))=out
  rw [hn]
theorem Oo.full {bs:List Bk} (h:Oo bs out) (hf:EB bs≤out.length):Bn bs=out:=by
 refine h.done ?_
 cases hn:nxt bs out with
 | none=>rfl
 | some i =>
  have:=(h.ok.push hn).le
  simp at this
  omega
theorem Oo.lt {bs:List Bk} (h:Oo bs out) (hn:nxt bs out=some i):out.length<EB bs:=by
 have:=(h.ok.push hn).le
 simp at this
 omega
def Apy (bs:List Bk) (out:List Nat) (xs:List Int) (t:Nat):Bool:=(xs.take t).all fun a=>Gh bs out a.toNat
theorem Adx {bs:List Bk} {xs:List Int} {t:Nat} {a:Int} (h:xs[t]?=some a):Apy bs out xs (t+1)=(Apy bs out xs t && Gh bs out a.toNat):=by
 unfold Apy
 rw [aq,h,List.all_append]
 simp
theorem AhL {bs:List Bk} {xs:List Int} {t:Nat} (h:xs.length≤t):Apy bs out xs t=xs.all fun a=>Gh bs out a.toNat:=by unfold Apy;rw [ar h]
def FV (bs:List Bk):Int:=if (Bn bs).length=EB bs then 0 else 24
def Apz (bs:List Bk):List Int:=if FV bs=0 then BZ (Bn bs) else []
def Hh (bs:List Bk) (k:Nat):List Bool:=(List.range bs.length).map fun j=>decide (j<k) && EZ bs j
def Gy (bs:List Bk) (out:List Nat):List Bool:=(List.range bs.length).map (Gh bs out)
theorem VM (bs:List Bk) (k:Nat):(Hh bs k).length=bs.length:=by simp [Hh]
theorem Ady (bs:List Bk) (out:List Nat):(Gy bs out).length=bs.length:=by simp [Gy]
theorem AaR (bs:List Bk):Hh bs 0=List.replicate bs.length false:=by
 refine jn (by simp [Hh]) fun i h1 h2=>?_
 simp [Hh]
theorem Adz (bs:List Bk):Hh bs bs.length=Gy bs []:=by
 refine jn (by simp [Hh,Gy]) fun i h1 h2=>?_
 have:i<bs.length:=by rw [VM] at h1;exact h1
 simp [Hh,Gy,Gh,EZ,this]
theorem AdA {bs:List Bk} {k:Nat} (hd:EZ bs k=true):(Hh bs k).set k true=Hh bs (k+1):=by
 refine jn (by simp [Hh]) fun i h1 h2=>?_
 rw [List.getElem_set]
 simp only [Hh,ml,List.getElem_range]
 by_cases h:k=i
 ·subst h;simp [hd]
 ·rw [if_neg h]
  congr 1
  exact decide_eq_decide.2 (by omega)
theorem AhM {bs:List Bk} {k:Nat} (hd:EZ bs k=false):Hh bs (k+1)=Hh bs k:=by
 refine jn (by simp [Hh]) fun i h1 h2=>?_
 simp only [Hh,ml,List.getElem_range]
 by_cases h:i=k
 ·subst h;simp [hd]
 ·congr 1
  exact decide_eq_decide.2 (by omega)
theorem AaS (bs:List Bk) (out:List Nat) (p:Nat):Gy bs (out++[p])=(Gy bs out).set p true:=by
 refine jn (by simp [Gy]) fun i h1 h2=>?_
 rw [List.getElem_set]
 simp only [Gy,ml,List.getElem_range,Gh]
 by_cases h:p=i
 ·subst h;simp
 ·have h2:¬ i=p:=fun e=>h e.symm
  simp [h,h2]
def QK (bs:List Bk) (i:Nat):Bool:=AK bs i != 2
theorem AaT (bs:List Bk):(fl (QK bs) bs.length).length=EB bs:=rfl
def MV (bs:List Bk) (out:List Nat) (k:Nat):Int:=match (List.range k).find? (rdy bs out) with|none => -1|some p=>(p:Int)
theorem AaU (bs:List Bk) (out:List Nat):MV bs out 0 = -1:=rfl
theorem AdB {bs:List Bk} {k:Nat} (hp:MV bs out k<0) (hr:rdy bs out k=true):MV bs out (k+1)=(k:Int):=by
 unfold MV at hp ⊢
 rw [ct,List.find?_append]
 cases h:(List.range k).find? (rdy bs out) with
 | none=>simp [hr]
 | some p=>rw [h] at hp;simp at hp;omega
theorem TT {bs:List Bk} {k:Nat} (h:0≤MV bs out k∨rdy bs out k=false):MV bs out (k+1)=MV bs out k:=by
 unfold MV at h ⊢
 rw [ct,List.find?_append]
 cases hf:(List.range k).find? (rdy bs out) with
 | none =>
  rw [hf] at h
  rcases h with h|h
  ·simp at h
  ·simp [h]
 | some p=>simp
theorem AdC {bs:List Bk} (h:nxt bs out=none):MV bs out bs.length = -1:=by unfold MV;unfold nxt at h;rw [h]
theorem AdD {bs:List Bk} {p:Nat} (h:nxt bs out=some p):MV bs out bs.length=(p:Int):=by unfold MV;unfold nxt at h;rw [h]
theorem AdE {bs:List Bk} {k:Nat} (hd:Gh bs out k=false):rdy bs out k=(VJ bs false k).all fun a=>Gh bs out a.toNat:=by
 rw [Adw,hd]
 have hk:AK bs k≠2:=by
  unfold Gh at hd
  simp at hd
  exact hd.1
 unfold VJ
 rw [if_neg (fun h=>hk h.1)]
 simp
def QL (n:Nat) (a:Int):Int:=if 0≤a∧a<(n:Int) then 0 else 10
def Pt (k:Int):Bool:=k == 11
def Sv (k:Int):Bool:=k == 11 || k == 1 || k == 2 || k == 6
def Cy (np nb:Nat) (k:Int):Nat:=if k=0 then np else nb
def Cp (np nb:Nat) (b:Bk):Int :=
 if Bc b.kind<0 then 7 else if ¬ ((b.args.length:Nat):Int)=Bc b.kind then 11 else if ¬ Ak (b.args.map (QL (Cy np nb b.kind)))=0 then 10
 else if ¬ DT b.vn b.ve (Sv b.kind)=0 then DT b.vn b.ve (Sv b.kind) else if ¬ DT b.un b.ue (Pt b.kind)=0 then DT b.un b.ue (Pt b.kind)
 else if Pt b.kind=true∧0<VK b.vn b.ve b.un b.ue then 26 else 0
section
variable {np nb:Nat} {b:Bk}
theorem be1 (h:Bc b.kind<0):Cp np nb b=7:=if_pos h
theorem be2 (h:¬ Bc b.kind<0) (h2:¬ ((b.args.length:Nat):Int)=Bc b.kind):Cp np nb b=11:=by unfold Cp;rw [if_neg h,if_pos h2]
theorem be3 (h:¬ Bc b.kind<0) (h2:((b.args.length:Nat):Int)=Bc b.kind) {M:Nat} (hM:Cy np nb b.kind=M) (h3:¬ Ak (b.args.map (QL M))=0):Cp np nb b=10:=by
 subst hM;unfold Cp;rw [if_neg h,if_neg (not_not_intro h2),if_pos h3]
theorem be4 (h:¬ Bc b.kind<0) (h2:((b.args.length:Nat):Int)=Bc b.kind) {M:Nat} (hM:Cy np nb b.kind=M) (h3:Ak (b.args.map (QL M))=0) {vu:Bool} (hv:Sv b.kind=vu) (h4:¬ DT b.vn b.ve vu=0):Cp np nb b=DT b.vn b.ve vu:=by
 subst hM hv;unfold Cp;rw [if_neg h,if_neg (not_not_intro h2),if_neg (not_not_intro h3),if_pos h4]
theorem be5 (h:¬ Bc b.kind<0) (h2:((b.args.length:Nat):Int)=Bc b.kind) {M:Nat} (hM:Cy np nb b.kind=M) (h3:Ak (b.args.map (QL M))=0) {vu cu:Bool} (hv:Sv b.kind=vu) (h4:DT b.vn b.ve vu=0) (hc:Pt b.kind=cu)
  (h5:¬ DT b.un b.ue cu=0):Cp np nb b=DT b.un b.ue cu:=by
 subst hM hv hc;unfold Cp;rw [if_neg h,if_neg (not_not_intro h2),if_neg (not_not_intro h3),if_neg (not_not_intro h4),if_pos h5]
theorem be6 (h:¬ Bc b.kind<0) (h2:((b.args.length:Nat):Int)=Bc b.kind) {M:Nat} (hM:Cy np nb b.kind=M) (h3:Ak (b.args.map (QL M))=0) {vu cu:Bool} (hv:Sv b.kind=vu) (h4:DT b.vn b.ve vu=0) (hc:Pt b.kind=cu)
  (h5:DT b.un b.ue cu=0) (h6:cu=true∧0<VK b.vn b.ve b.un b.ue):Cp np nb b=26:=by
 subst hM hv hc;unfold Cp;rw [if_neg h,if_neg (not_not_intro h2),if_neg (not_not_intro h3),if_neg (not_not_intro h4),if_neg (not_not_intro h5),if_pos h6]
theorem be7 (h:¬ Bc b.kind<0) (h2:((b.args.length:Nat):Int)=Bc b.kind) {M:Nat} (hM:Cy np nb b.kind=M) (h3:Ak (b.args.map (QL M))=0) {vu cu:Bool} (hv:Sv b.kind=vu) (h4:DT b.vn b.ve vu=0) (hc:Pt b.kind=cu)
  (h5:DT b.un b.ue cu=0) (h6:¬ (cu=true∧0<VK b.vn b.ve b.un b.ue)):Cp np nb b=0:=by
 subst hM hv hc;unfold Cp;rw [if_neg h,if_neg (not_not_intro h2),if_neg (not_not_intro h3),if_neg (not_not_intro h4),if_neg (not_not_intro h5),if_neg h6]
end
theorem XH (h:DT n e true=0):Dn n e:=by
 unfold DT at h
 rw [if_pos rfl] at h
 by_cases hs:Dn n e
 ·exact hs
 ·rw [if_neg hs] at h;cases h
theorem AdF {args:List Int} {M t:Nat} (hz:args[t]?=some z) (hb:¬ (0≤z∧z<(M:Int))) (hf:Ak ((args.map (QL M)).take t)=0):¬ Ak (args.map (QL M))=0:=by
 rw [YM (k:=t) (e:=10) (by rw [ag,hz];exact congrArg some (if_neg hb)) (by decide) hf]
 decide
theorem AhN {args:List Int} {M t:Nat} (hz:args[t]?=some z) (hb:0≤z∧z<(M:Int)) (hf:Ak ((args.map (QL M)).take t)=0):Ak ((args.map (QL M)).take (t+1))=0 :=
 NV (by rw [ag,hz];exact congrArg some (if_pos hb)) hf
def Gj (p:Prt):Int:=if -2147483648≤p.lo∧p.lo≤p.hi∧p.hi<2147483648∧0≤p.fr∧p.fr≤30 then 0 else 3
def FW (ps:List Prt) (bs:List Bk) (os:List Int):Prop:=ps.length≤16∧bs.length≤64∧os.length≤16
def ER (ps:List Prt) (bs:List Bk) (os:List Int):Int:=Ak (ps.map Gj++(bs.map (Cp ps.length bs.length)++os.map (QL bs.length)))
instance (ps:List Prt) (bs:List Bk) (os:List Int):Decidable (FW ps bs os):=by unfold FW;infer_instance
def AO (ps:List Prt) (bs:List Bk) (os:List Int):Int:=if ¬ FW ps bs os then 4 else if ¬ ER ps bs os=0 then ER ps bs os else FV bs
theorem CC {l:List Int} (h:Ak l=0):∀ x∈l,x=0:=by
 induction l with
 | nil=>simp
 | cons y l ih =>
  unfold Ak at h
  by_cases hy:y=0
  ·rw [if_pos hy] at h
   intro x hx
   rcases List.mem_cons.1 hx with rfl|hx
   ·exact hy
   ·exact ih h x hx
  ·rw [if_neg hy] at h
   exact absurd h hy
theorem Zp {np nb:Nat} {b:Bk} (h:Cp np nb b=0):0≤Bc b.kind∧((b.args.length:Nat):Int)=Bc b.kind∧∀ a∈b.args,0≤a∧a<(Cy np nb b.kind:Int):=by
 unfold Cp at h
 by_cases h1:Bc b.kind<0
 ·rw [if_pos h1] at h;cases h
 ·rw [if_neg h1] at h
  by_cases h2:¬ ((b.args.length:Nat):Int)=Bc b.kind
  ·rw [if_pos h2] at h;cases h
  ·rw [if_neg h2] at h
   by_cases h3:¬ Ak (b.args.map (QL (Cy np nb b.kind)))=0
   ·rw [if_pos h3] at h;cases h
   ·refine ⟨by omega,Decidable.of_not_not h2,fun a ha=>?_⟩
    have:=CC (Decidable.of_not_not h3) (QL (Cy np nb b.kind) a) (mo ha)
    unfold QL at this
    by_cases h4:0≤a∧a<(Cy np nb b.kind:Int)
    ·exact h4
    ·rw [if_neg h4] at this;cases this
theorem AdG {np:Nat} {bs:List Bk} (h:Ak (bs.map (Cp np bs.length))=0):Adv bs:=by
 intro i hi a ha
 have hx:=gE hi
 rw [Zm hx] at ha
 by_cases hk:bs[i].kind=0
 ·rw [if_pos hk] at ha;cases ha
 ·rw [if_neg hk] at ha
  have h0:=CC h (Cp np bs.length bs[i]) (mo (gg hi))
  have:=(Zp h0).2.2 a ha
  unfold Cy at this
  rw [if_neg hk] at this
  exact this
section
variable {ps:List Prt} {bs:List Bk} {os:List Int}
theorem de0 (h:¬ FW ps bs os):AO ps bs os=4:=if_pos h
theorem de1 (h:FW ps bs os) {e:Int} (h2:ER ps bs os=e) (h3:¬ e=0):AO ps bs os=e:=by subst h2;unfold AO;rw [if_neg (not_not_intro h),if_pos h3]
theorem de2 (h:FW ps bs os) (h2:ER ps bs os=0):AO ps bs os=FV bs:=by unfold AO;rw [if_neg (not_not_intro h),if_neg (not_not_intro h2)]
theorem pe1 {k:Nat} {p:Prt} (hp:ps[k]?=some p) (he:Gj p=e) (h0:¬ e=0) (hf:Ak ((ps.map Gj).take k)=0):ER ps bs os=e :=
 UZ (pre:=[]) (k:=k) rfl (by rw [ag,hp];exact congrArg some he) h0 hf
theorem pe2 {k:Nat} {b:Bk} (h1:Ak (ps.map Gj)=0) (hp:bs[k]?=some b) (he:Cp ps.length bs.length b=e) (h0:¬ e=0) (hf:Ak ((bs.map (Cp ps.length bs.length)).take k)=0):ER ps bs os=e :=
 UZ h1 (k:=k) (by rw [ag,hp];exact congrArg some he) h0 hf
theorem pe3 {k:Nat} {o:Int} (h1:Ak (ps.map Gj)=0) (h2:Ak (bs.map (Cp ps.length bs.length))=0) (hp:os[k]?=some o) (he:QL bs.length o=e) (h0:¬ e=0) (hf:Ak ((os.map (QL bs.length)).take k)=0):ER ps bs os=e:=by
 unfold ER
 rw [AQ,if_pos h1,AQ,if_pos h2]
 exact YM (k:=k) (by rw [ag,hp];exact congrArg some he) h0 hf
theorem pe4 (h1:Ak (ps.map Gj)=0) (h2:Ak (bs.map (Cp ps.length bs.length))=0) (h3:Ak (os.map (QL bs.length))=0):ER ps bs os=0:=by
 unfold ER
 rw [AQ,if_pos h1,AQ,if_pos h2,h3]
theorem fs1 {α:Type} {l:List α} {f:α→Int} {k:Nat} {x:α} (hx:l[k]?=some x) (he:f x=0) (hf:Ak ((l.map f).take k)=0):Ak ((l.map f).take (k+1))=0:=NV (by rw [ag,hx];exact congrArg some he) hf
end
theorem Lz {bs:List Bk} (h:AO ps bs os=0):FW ps bs os∧ER ps bs os=0∧FV bs=0:=by
 unfold AO at h
 by_cases h1:FW ps bs os
 ·rw [if_neg (not_not_intro h1)] at h
  by_cases h2:ER ps bs os=0
  ·rw [if_neg (not_not_intro h2)] at h
   exact ⟨h1,h2,h⟩
  ·rw [if_pos h2] at h
   exact absurd h h2
 ·rw [if_pos h1] at h;cases h
theorem AdH {bs:List Bk} (h:ER ps bs os=0):Ak (bs.map (Cp ps.length bs.length))=0:=by
 unfold ER at h
 rw [AQ] at h
 by_cases h1:Ak (ps.map Gj)=0
 ·rw [if_pos h1,AQ] at h
  by_cases h2:Ak (bs.map (Cp ps.length bs.length))=0
  ·exact h2
  ·rw [if_neg h2] at h;exact h
 ·rw [if_neg h1] at h;exact absurd h h1
theorem AmF {bs:List Bk} (h:AO ps bs os=0):Adv bs:=AdG (AdH (Lz h).2.1)
def isB (n k:Int):Bool:=decide (n≠0∧n=k)
theorem AuV (k:Int):isB 0 k=false:=by simp [isB]
theorem AhO {k:Int} (h:k≠0):isB k k=true:=by simp [isB,h]
theorem AqR {k:Int} (h:n≠k):isB n k=false:=by simp [isB,h]
theorem AmG (h:p:=by
 go_enter func115,ntmps115
 go_wp2_with fail
 go_ret
 exact ⟨by rw [HV.out];rfl,rfl⟩):p:=h
theorem AqS (n k:Int) (w:World):Calls prog 115 #[Hf n,.int .i64 k] w fun e w'=>e=.returned (.bool (isB n k))∧w=w':=by
 by_cases h:n=0
 ·subst h
  have HV:=mz (AuV k)
  have hta:∀ w,(Instr.typeAssert .nilIface 36 109 true).run prog w=.ok (.tuple #[.int .i64 0,.bool false]) w:=fun _=>by kernel_rfl
  rw [YO]
  exact AmG
 ·have hta:∀ w,(Instr.typeAssert (.iface 109 (.int .i64 n)) 36 109 true).run prog w=.ok (.tuple #[.int .i64 n,.bool true]) w:=fun _=>by kernel_rfl
  rw [Vc h]
  by_cases hk:n=k
  ·subst hk
   have HV:=mz (AhO h)
   clear h
   have hb:(n == n)=true:=by simp
   exact AmG
  ·have HV:=mz (AqR hk)
   have hb:(n == k)=false:=by simpa using hk
   clear h hk
   exact AmG
/- The example, its lists in the blocks from n. -/
set_option maxRecDepth 100000
def Ahd (z:Int):Prop := -9223372036854775808≤z∧z≤9223372036854775807
def AqT (zs:List Int):Prt:=⟨zs.getD 0 0,zs.getD 1 0,zs.getD 2 0⟩
theorem XI (zs:List Int) (h:zs.length=3):(AqT zs).cells=Lv zs:=by
 match zs,h with
 | [_,_,_],_=>rfl
theorem Sw {fs:Array Field} (h:fs.all (fun f=>f.type == 3)=true):∀ (i:Nat) (f:Field),fs[i]?=some f→prog.underlying f.type=some (.int .i64):=by
 intro i f hf
 have hi:=(Array.getElem?_eq_some_iff.1 hf)
 have:=Array.all_eq_true.1 h i hi.1
 rw [hi.2] at this
 have e:f.type=3:=by simpa using this
 rw [e]
 exact underlying3
section
variable {H:Type} {enc:TypeId × Value→H} {w:World} {spare:Nat→Bool} {held:Bool}
def bkB (x:Bk):Prop:=Ahd x.kind∧Ahd x.vn∧Ahd x.ve∧Ahd x.un∧Ahd x.ue
theorem Sy {cs:List Value} {x:DataW H × List MemPlace} (h:DataW.trod enc prog w 0 spare held fuel 61 cs=some x):∃ n e:Int,cs=[.int .i64 n,.int .i64 e]∧Ahd n∧Ahd e:=by
 obtain ⟨zs,rfl,hl,hz⟩:=Zo underlying61 (by kernel_rfl) (Sw (by kernel_rfl)) (by kernel_rfl) h
 match zs,hl with
 | [n,e],_=>exact ⟨n,e,rfl,hz _ (by simp),hz _ (by simp)⟩
theorem AmH {cs:List Value} {x:DataW H × List MemPlace} (h:DataW.trod enc prog w 0 spare held fuel 63 cs=some x) :
  ∃ b:Bk,cs=b.cells∧(b.A=none→b.cap=0)∧b.args.length≤b.cap∧b.args.length≤maxLen∧Am w w.heap.size b.A (Lv b.args)∧(∀ z∈b.args,Ahd z)∧bkB b:=by
 obtain ⟨xs,n,_,_,hlen,hxl,hg⟩:=DataW.trod_struct underlying63 h
 have hl6:cs.length=6:=hlen.trans (by kernel_rfl)
 match cs,hl6 with
 | [c0,c1,c2,c3,c4,c5],_ =>
  have k1:prog.cellsOf 3=1:=by kernel_rfl
  have k2:prog.cellsOf 24=1:=by kernel_rfl
  have k3:prog.cellsOf 61=2:=by kernel_rfl
  have hx4:xs.length=4:=hxl
  match xs,hx4 with
  | [x0,x1,x2,x3],_ =>
   have g0:DataW.trod enc prog w 0 spare held n 3 (([c0,c1,c2,c3,c4,c5].drop 0).take (prog.cellsOf 3))=some x0:=hg 0 _ rfl
   have g1:DataW.trod enc prog w 0 spare held n 24 (([c0,c1,c2,c3,c4,c5].drop 1).take (prog.cellsOf 24))=some x1:=hg 1 _ rfl
   have g2:DataW.trod enc prog w 0 spare held n 61 (([c0,c1,c2,c3,c4,c5].drop 2).take (prog.cellsOf 61))=some x2:=hg 2 _ rfl
   have g3:DataW.trod enc prog w 0 spare held n 61 (([c0,c1,c2,c3,c4,c5].drop 4).take (prog.cellsOf 61))=some x3:=hg 3 _ rfl
   rw [k1] at g0
   rw [k2] at g1
   rw [k3] at g2 g3
   obtain ⟨kind,hk,_,hkb⟩:=DataW.trod_int underlying3 g0
   obtain ⟨A,cap,args,ha,hA0,hc1,hc2,hc3,hc4⟩:=GS underlying24 underlying3 (by kernel_rfl) g1
   obtain ⟨vn,ve,hv,b1,b2⟩:=Sy g2
   obtain ⟨un,ue,hu,b3,b4⟩:=Sy g3
   refine ⟨⟨kind,A,args,cap,vn,ve,un,ue⟩,?_,hA0,hc1,hc2,hc3,hc4,bounds_i64 hkb,b1,b2,b3,b4⟩
   have e0:[c0]=[Value.int .i64 kind]:=hk
   have e2:[c2,c3]=[Value.int .i64 vn,Value.int .i64 ve]:=hv
   have e3:[c4,c5]=[Value.int .i64 un,Value.int .i64 ue]:=hu
   simp only [List.cons.injEq,and_true] at e0 e2 e3
   rw [e0,ha,e2.1,e2.2,e3.1,e3.2]
   rfl
instance:Inhabited Bk:=⟨bk0⟩
theorem VN {x:DataW H × List MemPlace} (h:DataW.trod enc prog w 0 spare held fuel 23 [v]=some x) :
  ∃ (A:Option Addr) (cap:Nat) (l:List Bk),v=.slice A l.length cap∧l.length≤maxLen∧Am w w.heap.size A (NT Bk.cells l) ∧
   ∀ b∈l,(b.A=none→b.cap=0)∧b.args.length≤b.cap∧b.args.length≤maxLen∧Am w w.heap.size b.A (Lv b.args)∧(∀ z∈b.args,Ahd z)∧bkB b:=by
 rcases open_slice underlying23 h with ⟨hcs,_⟩|⟨a,len,cap,m,n,D,Pl,hcs,_,hl,hm,hmm,_,hx⟩
 ·exact ⟨none,0,[],by simpa using hcs,ad _,Am.nil_,by simp⟩
 ·have hle:len≤m:=by rw [hmm];split <;> omega
  rw [show prog.cellsOf 63=6 by kernel_rfl] at hx
  obtain ⟨R,hR⟩:=choose_lt (α:=Bk) (n:=len) (p:=fun i b=>((b.A=none→b.cap=0)∧b.args.length≤b.cap∧b.args.length≤maxLen∧Am w w.heap.size b.A (Lv b.args)∧(∀ z∈b.args,Ahd z)∧bkB b)∧∀ j,j<6→w.cell? (a.add (i*6+j))=b.cells[j]?) (fun i hi=>by
   obtain ⟨cs',h1,h2⟩:=hx i (by omega)
   obtain ⟨b,rfl,hb⟩:=AmH h2
   obtain ⟨_,hlen,hcell⟩:=World.cells?_some h1
   exact ⟨b,hb,fun j hj=>by rw [←add_add];exact hcell j hj⟩)
  refine ⟨some a,cap,(List.range len).map R,by simpa using hcs,by simp;omega,fun hne=>?_,?_⟩
  ·have hpos:0<len:=by
    rcases de len with h0|h0
    ·subst h0;simp [NT] at hne
    ·exact h0
   obtain ⟨b,off,spot⟩:=a
   have h00:=(hR 0 hpos).2 0 (by decide)
   have hz0:(R 0).cells[0]?=some (.int .i64 (R 0).kind):=rfl
   rw [hz0] at h00
   have hspot:spot=none:=by simpa [Addr.add] using World.cell?_spot h00
   subst hspot
   have hb:b<w.heap.size:=by
    exact AqQ
   refine ⟨b,off,rfl,hb,hb,fun j u hu=>?_⟩
   have hjl:j<len*6:=by
    have:=(gS.1 hu).1
    rw [TR (s:=6) (fun _=>rfl)] at this
    simpa using this
   have hk:j / 6<len:=li (by rw [aw];exact hjl)
   have hr:j % 6<6:=ff _ (by decide)
   have hj:j / 6*6+j % 6=j:=by rw [aw];exact ea j 6
   have hg:((List.range len).map R)[j / 6]?=some (R (j / 6)):=by simp [hk]
   have h1:=IG (f:=Bk.cells) (s:=6) (fun _=>rfl) hg hr
   rw [hj,hu] at h1
   have h2:=(hR _ hk).2 (j % 6) hr
   rw [hj,←h1] at h2
   rw [←Go.WideShapes.add_plain]
   exact h2
  ·intro y hy
   obtain ⟨i,hi,rfl⟩:=List.mem_map.1 hy
   exact (hR i (by simpa using hi)).1
end
/- Light. -/
theorem MW {α:Type} {p:α→Bool} {l:List α} {k:Nat} {x:α} (hx:l[k]?=some x) (h:(l.take k).all p=true) (hp:p x=true):(l.take (k+1)).all p=true:=by
 rw [aq,hx,List.all_append,h]
 simp [hp]
theorem PG {xs:List Value} (h:Ba (Bo w S) (vs.map .val) xs):xs=vs:=by
 induction vs generalizing xs with
 | nil=>exact h.unnil
 | cons v vs ih =>
  obtain ⟨x,xs',rfl,h1,h2⟩:=(show Ba (Bo w S) (D.val v::vs.map .val) xs from h).uncons
  cases h1
  rw [ih h2]
theorem TU (h:∀ v∈vs,v.oneCell'=true):Ba (Bo w S) (vs.map .val) vs :=
 ⟨by simp,fun j d v hd hv=>by
  simp only [ag,hv,bo,Option.some.injEq] at hd
  subst hd
  exact .val (h v (gM hv))⟩
theorem AhP (hlt:∀ t b,S t b→b<w.heap.size) {t:Bool} {s n:Nat} {cs:List D} {v:Value} (h:Bo w S (.row t s n cs) v) :
  ∃ A c xs,v=.slice A n c∧(A=none→c=0)∧n≤c∧cs.length=n*s∧Ba (Bo w S) cs xs∧Am w w.heap.size A xs:=by
 cases h with
 | @row _ _ _ c _ A xs hc hA hl hx hm hr =>
  refine ⟨A,c,xs,rfl,hA,hc,hl,⟨hx,hr⟩,fun hne=>?_⟩
  obtain ⟨b,off,h1,h2,h3⟩:=hm (fun h0=>hne (by rw [h0] at hx;exact cq (by simpa using hx.symm)))
  exact ⟨b,off,h1,hlt _ _ h2,hlt _ _ h2,h3⟩
theorem TV (hlt:∀ t b,S t b→b<w.heap.size) {t:Bool} {s n:Nat} {vs:List Value} {v:Value} (h:Bo w S (.row t s n (vs.map .val)) v) :
  ∃ A c,v=.slice A n c∧(A=none→c=0)∧n≤c∧vs.length=n*s∧Am w w.heap.size A vs:=by
 obtain ⟨A,c,xs,h1,h2,h3,h4,h5,h6⟩:=AhP hlt h
 rw [PG h5] at h6
 exact ⟨A,c,h1,h2,h3,by simpa using h4,h6⟩
theorem AdI (xs:List Int):xs.map dI=(Lv xs).map .val:=by simp [Lv,dI]
theorem VO (hlt:∀ t b,S t b→b<w.heap.size) {t:Bool} {xs:List Int} {v:Value} (h:Bo w S (AU t xs) v):∃ A c,v=.slice A xs.length c∧(A=none→c=0)∧xs.length≤c∧Am w w.heap.size A (Lv xs):=by
 unfold AU at h
 rw [AdI] at h
 obtain ⟨A,c,h1,h2,h3,_,h4⟩:=TV hlt h
 exact ⟨A,c,h1,h2,h3,h4⟩
def AhQ (p:Prt):List D:=[dI p.lo,dI p.hi,dI p.fr]
def dBk (t:Bool) (b:Bk):List D:=[dI b.kind,AU t b.args,dI b.vn,dI b.ve,dI b.un,dI b.ue]
def UV (x:Ins):List D:=[dI x.op,dI x.dst,dI x.a,dI x.b,dI x.sa,dI x.sb,dI x.imm]
def Di (t:Bool) (ps:List Prt):D:=.row t 3 ps.length (Ay AhQ ps)
def DK (t:Bool) (bs:List Bk):D:=.row t 6 bs.length (Ay (dBk t) bs)
def AbZ (t:Bool) (xs:List Ins):D:=.row t 7 xs.length (Ay UV xs)
def dDg (t:Bool) (ps:List Prt) (bs:List Bk) (os:List Int):List D:=[Di t ps,DK t bs,AU t os]
def aDg (t:Bool) (ps:List Prt) (bs:List Bk) (os:List Int):A:=.agg (dDg t ps bs os)
def aE (n:Int):A:=.one (.val (Hf n))
theorem Zq (n:Int):(Hf n).oneCell'=true:=by unfold Hf;split <;> rfl
theorem Oq {α:Type} {f:α→List D} {g:α→List Value} (h:∀ x,f x=(g x).map .val) (l:List α):Ay f l=(NT g l).map .val:=by
 induction l with
 | nil=>rfl
 | cons x l ih =>
  simp only [Ay,NT,bp,gd,et] at ih ⊢
  rw [ih,h]
theorem VP (p:Prt):AhQ p=(Prt.cells p).map .val:=rfl
theorem AdJ (p:Ins):UV p=(Ins.cells p).map .val:=rfl
structure Fa (ps:List Prt) (bs:List Bk) (os:List Int):Prop where
 l1:ps.length≤1000000
 l2:bs.length≤1000000
 l3:os.length≤1000000
 la:∀ b∈bs,b.args.length≤1000000
theorem RL (w w':World) (h:Below w.heap.size w w') (ht:An w):An w':=ht.call h
theorem TW {x y:A} {a b:Value} (h1:EK w S x a) (h2:EK w S y b):Ahc w S [x,y] (.tuple #[a,b]):=⟨[a,b],rfl,.cons_ h1 (.cons_ h2 .nil_)⟩
theorem BQ {x:A} (h:Ba (EK w S) [x] vs):∃ v,vs=[v]∧EK w S x v:=by
 obtain ⟨v,vs',rfl,h1,h2⟩:=h.uncons
 rw [h2.unnil]
 exact ⟨v,rfl,h1⟩
theorem Fb {t:Bool} {bs:List Bk} {k:Nat} {y:Bk} (h:bs[k]?=some y):((Ay (dBk t) bs).drop (k*6)).take 6=dBk t y:=FQ (f:=dBk t) (s:=6) (fun _=>rfl) h
theorem FX {k:Nat} {y:Prt} (h:ps[k]?=some y):((Ay AhQ ps).drop (k*3)).take 3=AhQ y:=FQ (f:=AhQ) (s:=3) (fun _=>rfl) h
theorem AjZ {xs:List Ins} {k:Nat} {y:Ins} (h:xs[k]?=some y):((Ay UV xs).drop (k*7)).take 7=UV y:=FQ (f:=UV) (s:=7) (fun _=>rfl) h
theorem AG {xs:List Int} {k:Nat} (h:xs[k]?=some z):((xs.map dI).drop (k*1)).take 1=[dI z]:=Adn h
inductive Xe (t:Bool):D→Prop
 | val (v:Value):Xe t (.val v)
 | row {s n:Nat} {cs:List D} (h:∀ d∈cs,Xe t d):Xe t (.row t s n cs)
 | ptr {cs:List D} (h:∀ d∈cs,Xe t d):Xe t (.ptr t cs)
theorem Xe.rel {t:Bool} {d:D} (h:Xe t d):∀ v,Bo w S d v→Bo w (fun u b=>u=t∧S t b) d v:=by
 induction h with
 | val v=>intro u hu;cases hu with|val h=>exact .val h
 | @row s n cs _ ih =>
  intro v hv
  cases hv with
  | row xs hc hA hln hx hm hr =>
   refine .row xs hc hA hln hx (fun hne=>?_) fun j u x hu hj=>ih u (gM hu) x (hr j u x hu hj)
   obtain ⟨b,off,h1,h2,h3⟩:=hm hne
   exact ⟨b,off,h1,⟨rfl,h2⟩,h3⟩
 | @ptr cs _ ih =>
  intro v hv
  cases hv with
  | ptr xs hx hb hm hr=>exact .ptr xs hx ⟨rfl,hb⟩ hm fun j u x hu hj=>ih u (gM hu) x (hr j u x hu hj)
def ATag (t:Bool):A→Prop
 | .one d=>Xe t d
 | .agg ds=>∀ d∈ds,Xe t d
theorem CV.fresh {P:Program} {G:World→Prop} {args res:List A} (h:CV P G f args res) (ht:∀ a∈args,ATag true a):CVF P G f args res:=fun w S vs hg hlt ha=>by
 have ha':Ba (EK w fun u b=>u=true∧S true b) args vs:=⟨ha.1,fun j y v hy hv=>by
  have h1:=ha.2 j y v hy hv
  have h2:=ht y (gM hy)
  cases y with
  | one d=>exact Xe.rel h2 v h1
  | agg ds =>
   obtain ⟨xs,rfl,h3⟩:=h1
   exact ⟨xs,rfl,h3.1,fun i d x hd hx=>Xe.rel (h2 d (gM hd)) x (h3.2 i d x hd hx)⟩⟩
 refine (h w (fun u b=>u=true∧S true b) vs hg (fun t b hb=>hlt true b hb.2) ha').mono fun e w' ⟨v,h1,h2,h3⟩=>⟨v,h1,h2.mono (fun t b hb=>?_) (fun _ _ _=>rfl),h3⟩
 obtain ⟨rfl,hb|hb⟩:=hb
 ·cases hb.1
 ·exact ⟨rfl,hb⟩
theorem AmI (t:Bool) (xs:List Int):Xe t (AU t xs):=.row fun d hd=>by obtain ⟨z,_,rfl⟩:=List.mem_map.1 hd;exact .val _
theorem Zr {α:Type} {f:α→List D} {t:Bool} (hf:∀ x,∀ d∈f x,Xe t d) (l:List α):∀ d∈Ay f l,Xe t d:=fun d hd=>by
 obtain ⟨ds,h1,h2⟩:=List.mem_flatten.1 hd
 obtain ⟨x,_,rfl⟩:=List.mem_map.1 h1
 exact hf x d h2
theorem AuW (t:Bool) (ps:List Prt):Xe t (Di t ps):=.row (Zr (fun x d hd=>by simp only [AhQ,bz,ce,or_false] at hd;rcases hd with rfl|rfl|rfl <;> exact .val _) ps)
theorem AuX (t:Bool) (bs:List Bk):Xe t (DK t bs):=.row (Zr (fun x d hd=>by
 simp only [dBk,bz,ce,or_false] at hd
 rcases hd with rfl|rfl|rfl|rfl|rfl|rfl
 ·exact .val _
 ·exact AmI t _
 all_goals exact .val _) bs)
theorem AqU (t:Bool) (ps:List Prt) (bs:List Bk) (os:List Int):ATag t (aDg t ps bs os):=fun d hd=>by
 simp only [dDg,bz,ce,or_false] at hd
 rcases hd with rfl|rfl|rfl
 ·exact AuW t ps
 ·exact AuX t bs
 ·exact AmI t os
theorem Zs (xs:List Int):Dh (AU false xs):=.row fun d hd=>by obtain ⟨z,_,rfl⟩:=List.mem_map.1 hd;exact .val _
theorem Ce {α:Type} {f:α→List D} (hf:∀ x,∀ d∈f x,Dh d) (l:List α):∀ d∈Ay f l,Dh d:=fun d hd=>by
 obtain ⟨ds,h1,h2⟩:=List.mem_flatten.1 hd
 obtain ⟨x,_,rfl⟩:=List.mem_map.1 h1
 exact hf x d h2
theorem TX (x:Prt):∀ d∈AhQ x,Dh d:=fun d hd=>by simp only [AhQ,bz,ce,or_false] at hd;rcases hd with rfl|rfl|rfl <;> exact .val _
theorem Zt (x:Ins):∀ d∈UV x,Dh d:=fun d hd=>by simp only [UV,bz,ce,or_false] at hd;rcases hd with rfl|rfl|rfl|rfl|rfl|rfl|rfl <;> exact .val _
section
variable {P:Program} {G:World→Prop} {o:Oper} {F:Frm} {H:List Ob}
theorem Bw {x:Operand} (ho:o.op=.binOp .neq t x (.const .nilIface) t') (ht:TyI P t) (hx:F.ev x=.one (.d (.val (Hf E)))) (hb:(E != 0)=b):Bd P G o F H (.one (.d (.val (.bool b)))) []:=by
 by_cases h:E=0
 ·refine TI ho ht hx (.inr (.inl ⟨rfl,?_,?_⟩))
  ·rw [h,YO]
  ·rw [←hb,Ps h]
 ·refine TI ho ht hx (.inr (.inr (.inr ⟨rfl,⟨_,_,Vc h⟩,?_⟩)))
  rw [←hb,GP h]
theorem Dw {x:Operand} (ho:o.op=.binOp .eql t x (.const .nilIface) t') (ht:TyI P t) (hx:F.ev x=.one (.d (.val (Hf E)))) (hb:(E == 0)=b):Bd P G o F H (.one (.d (.val (.bool b)))) []:=by
 by_cases h:E=0
 ·refine TI ho ht hx (.inl ⟨rfl,?_,?_⟩)
  ·rw [h,YO]
  ·rw [←hb,RH h]
 ·refine TI ho ht hx (.inr (.inr (.inl ⟨rfl,⟨_,_,Vc h⟩,?_⟩)))
  rw [←hb,Vz h]
theorem Aca {t:Tmp} (hF:F t=.one (.d (.val (Hf E)))) (hz:E=E'):RV P F H (.tmp t) (aE E'):=.tmp (by rw [hF,hz];exact .one (.d fun _=>.val _))
theorem Gk {t:Tmp} (hF:F t=.one (.d (.val .nilIface))) (hz:E'=0):RV P F H (.tmp t) (aE E'):=.tmp (by rw [hF,hz];exact .one (.d fun _=>.val _))
theorem AdK {t:Tmp} (hF:F t=.one (.d (.val (.iface 109 (.int .i64 n))))) (h0:n≠0) (hz:E'=n):RV P F H (.tmp t) (aE E'):=.tmp (by rw [hF,hz,←Vc h0];exact .one (.d fun _=>.val _))
theorem VQ {t:Tmp} {ty ty' k:Nat} {cs:List C} {ds:List D} {y:A} (hF:F t=.one (.ref id 0 none)) (hH:H[id]?=some (.box ty' cs)) (hk:TyK P ty true k) (hi:cs.length=k) (hy:y=.agg ds) (h:Ba (FD false H) cs ds):RV P F H (.cell t ty) y:=by
 obtain ⟨d,h1,h2⟩:=hk.h
 rw [hy]
 exact .cellA hF hH h1 h2 (by rw [hk.s,hi]) h
end
structure Hd9 (p:Prop):Prop where
 o:p
theorem qq {p':Prop} (k:p') (h:p'→p:=by first|exact qa|exact qb|exact qc|exact qd|exact qe|exact qf|exact qg|exact qh|exact qi|exact qj|exact qk|exact ql rfl|exact qm rfl|exact qn rfl|exact Je):p:=h k
theorem cvz {c:Code} {N:Nat} {args res:List A} (hf:prog.funcs[f]?=some fn) (hN:fn.ntmps=N) (k:CW prog An N c (F0 args) [] (Aqm prog fn res)) (hb:fn.body=some c:=by exact rfl) (ha:args.length≤N:=by exact bg rfl):CV prog An f args res:=Amk RL hf hb hN ha k
section
variable {P:Program} {G:World→Prop} {o:Oper} {F:Frm} {H:List Ob}
theorem xNE {x:Operand} (ht:TyI P t) (ho:o.op=.binOp .neq t x (.const .nilIface) t':=by with_unfolding_all exact rfl) (hx:F.ev x=.one (.d (.val (Hf E))):=by with_unfolding_all exact rfl) (hb:(E != 0)=b:=by first|exact Ps rfl|exact Ps (by omega)|exact GP (by first|assumption|omega)|exact rfl):Bd P G o F H (.one (.d (.val (.bool b)))) []:=Bw ho ht hx hb
theorem xNt {x:Operand} (ho:o.op=.unOp .not t x:=by with_unfolding_all exact rfl) (hx:F.ev x=.one (.d (.val (.bool b))):=by with_unfolding_all exact rfl):Bd P G o F H (.one (.d (.val (.bool (!b))))) []:=AcY ho hx
theorem xNg {x:Operand} {p:Int} (ho:o.op=.unOp .neg t x:=by with_unfolding_all exact rfl) (hx:F.ev x=.one (.d (.val (.int .i64 p))):=by with_unfolding_all exact rfl) (hb : -9223372036854775807≤p∧p≤9223372036854775807:=by omega):Bd P G o F H (.one (.d (.val (.int .i64 (-p))))) []:=TG ho hx hb
theorem xM1 {x:Operand} {c:C} (ho:o.op=.move x:=by with_unfolding_all exact rfl) (hx:F.ev x=.one c:=by with_unfolding_all exact rfl):Bd P G o F H (.one c) []:=Ze ho hx
theorem xMt {x:Operand} {l:List A} (ho:o.op=.move x:=by with_unfolding_all exact rfl) (hx:F.ev x=.tup l:=by with_unfolding_all exact rfl):Bd P G o F H (.tup l) []:=Zf ho hx
theorem xAl {z:Value} {k by_:Nat} (hz:TyZ P t z k by_) (ho:o.op=.alloc t:=by with_unfolding_all exact rfl):Bd P G o F H (.one (.ref H.length 0 none)) [.box t (Ey z.cells.toList)]:=Aht ho hz
end
end Go.Proofs.YtmdfjbpggbhgnaaGreatDoor
