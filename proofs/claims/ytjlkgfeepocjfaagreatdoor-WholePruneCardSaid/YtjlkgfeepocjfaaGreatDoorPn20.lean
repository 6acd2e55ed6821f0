/- What the proofs of this claim share, part 20. No conditions. -/
import Derived.Test.YtjlkgfeepocjfaaGreatDoorPn6
import Derived.Test.YtjlkgfeepocjfaaGreatDoorPn2
import Derived.Test.YtjlkgfeepocjfaaGreatDoorPn10
import Derived.Test.YtjlkgfeepocjfaaGreatDoorPn17
import Derived.Handed
import Derived.LaidMore
import Derived.Lib.LaidTab
import Derived.Test.YtjlkgfeepocjfaaGreatDoorTie
import Derived.Test.YtjlkgfeepocjfaaGreatDoorCards
import Derived.SevenTiedAt
set_option linter.all false
open Go.Proofs.Tryz
namespace Go.Proofs.YtjlkgfeepocjfaaGreatDoor
open Go.ChangeShapes Go.WideShapes Go.ChangeAt Go.RowKit Go.Joins Go.Deep
variable {bs:List Bk}
theorem gTab : prog.globalNamed "math/bits.deBruijn32tab" = some 0 := by kernel_rfl
theorem tTab:(prog.globals[0]?).map (·.type)=some 215:=by kernel_rfl
def AjF : List (String × DataW Unit) := [("math/bits.deBruijn32tab", Rows.laid_math_bits_deBruijn32tab)]
theorem AtH {W:World} (h:laidMetH prog AjF W):An W:=by
 rw [MakeChecks.laidMetH_plain _ _ _ (by kernel_rfl)] at h
 have h2 : laidMet prog (("math/bits.deBruijn32tab", Lib.tabData .u8 Abm) :: []) W := h
 have hT:=Lib.tabIs_of_head gTab tTab underlying215 underlying5 (by kernel_rfl) (by kernel_rfl) h2
 have hc:∀ j z,Abm[j]?=some z→W.cell? ⟨0,j,none⟩=some (.int .u8 z):=fun j z hz=>by
  have hj:j<Abm.length:=(gS.1 hz).1
  have:=hT.cell gTab j hj
  rwa [show Abm.getD j 0=z by simp [List.getD,hz]] at this
 refine ⟨?_,hc⟩
 have h0:=hc 0 0 rfl
 rcases bf 0 W.heap.size with h3|h3
 ·exact h3
 ·simp [World.cell?,fb h3] at h0
theorem AjG (os:Os) (args:Array Value):laidMetH prog AjF ((World.doorLaid prog 400 os).forCall (fun _ _=>0) ⟨#[],args,[]⟩).memory :=
 laidMetH_of_parts3 (fuel:=8) (laidMet_of_run' 8 (by kernel_rfl) (by kernel_rfl)) (by kernel_rfl) (by kernel_rfl)
theorem Zg (os:Os) (args:Array Value):((World.doorLaid prog 400 os).forCall (fun _ _=>0) ⟨#[],args,[]⟩).Shaped prog:=World.shaped_of_RefB (by kernel_rfl) (by kernel_rfl)
theorem own:ownKnob prog.godebug=none:=by kernel_rfl
theorem Apt:laidOutB prog=true:=by kernel_rfl
theorem Vd {H:Type} {enc:TypeId × Value→H} {C:Checked} {os:Os} {f:FuncId} {fn:Func} {s:ChangeSpec} {conds:List PathCond} {T:TypeId} {laid:List (String × DataW Unit)}
  (own:ownKnob C.prog.godebug=none) (started:os.Started) (noInit:C.prog.inits.idxOf? f=none) (hfn:C.prog.funcs[f]?=some fn)
  (witness:∃ (w:World) (tape:Tape) (i:Input),w.os=os∧(w.forCall tape i).Shaped C.prog∧i.vars=[]∧Input.okWide C.prog (w.forCall tape i) .any w.heap.size f i ∧
   ((s.pre enc C.prog fn conds false (w.forCall tape i).memory i.args∧laidMetH C.prog laid (w.forCall tape i).memory)∧sizedMet enc C.prog fn (OpenSpec.ofChange s) false (w.forCall tape i).memory i.args)∧({}:Assume).holds C.prog (lone (Frame.enter C.prog f i.args .normal) [] (w.forCall tape i)))
  (hl:laidOutB C.prog=true) (hr0:(fn.params.toList.all fun t=>C.prog.readableRec t && decide (t<C.prog.types.size))=true) (hvars:s.vars=[]) (hT:C.prog.underlying T=some .bool) (hres:fn.resultTypes=#[T])
  (hs:∀ ds:List (DataW H),ds.length=fn.params.size→(s.fn H ds).results=[.lit (.bool true)]∧(s.fn H ds).args=ds∧(s.fn H ds).vars=[])
  (walk:∀ (W:World) (base:Nat) (args:Array Value) (ds:List (DataW H)) (p:List MemPlace),
   (∀ (j:Nat) t v,fn.params[j]?=some t→args[j]?=some v→Value.okWide C.prog W .any base t v)→DataW.TrodAll enc C.prog W 0 (fun _=>true) true fn.params.toList args.toList ds p →
   (∀ x∈p,x.block<W.heap.size)→(DataW.weightsEach C.prog fn.params.toList ds).all (·≤reachBytes)=true→laidMetH C.prog laid W →
   Calls C.prog f args W fun e W'=>e=.returned (.bool true)∧Below W.heap.size W W') :
  ReturnsInHanded {} C os f .any (fun w args=>(s.pre enc C.prog fn conds false w args∧laidMetH C.prog laid w)∧sizedMet enc C.prog fn (OpenSpec.ofChange s) false w args) (s.post enc C.prog fn false true false false):=by
 have hr:∀ t∈fn.params.toList,C.prog.readableRec t=true∧t<C.prog.types.size:=fun t ht=>by
  have:=List.all_eq_true.1 hr0 t ht
  simpa using this
 refine returnsInHanded_of_change_and (X:=fun w _=>laidMetH C.prog laid w) (fun _ _ _ hh h=>h.of_heap hh) own started noInit hfn witness ?_
 intro W base args ds gs before hval hW _ hsz hL _
 have hW0:=hW
 obtain ⟨p,q,hA,hV,rfl,_,_⟩:=hW
 have hlt:∀ x∈p++q,x.block<W.heap.size:=fun x hx=>hW0.lt x hx
 have hV':=hV
 rw [hvars] at hV'
 obtain ⟨rfl,rfl⟩:=trodVars_none hV'
 have hvt:s.plain.varTypes C.prog=[]:=by
  simp [DataSpec.varTypes,ChangeSpec.plain,hvars]
 rw [hvt,av,av] at hsz
 refine (walk W base args ds p hval hA (fun x hx=>hlt x (by simp [hx])) hsz hL).mono fun e W' ⟨he,hb⟩=>?_
 exact ⟨_,he,Ahl hl hr hvars hT hres hs hW0 hb⟩
theorem AgC (m:List Bool):(Wf m).length≤m.length:=by
 unfold Wf
 have:=gn (fun i=>m[i]?.getD false) (List.range m.length)
 simpa using this
theorem Ve (bs:List Bk):∀ (f:Nat) (out:List Nat),∃ext,Sq bs f out=out++ext∧(ext.length<f→nxt bs (out++ext)=none)∧∀ t x,ext[t]?=some x→nxt bs (out++ext.take t)=some x
 | 0,out=>⟨[],by simp [Sq],by simp,by simp⟩
 | f+1,out=>by
  show∃ext,(match nxt bs out with|none=>out|some i=>Sq bs f (out++[i]))=out++ext∧_
  cases hn:nxt bs out with
  | none=>exact ⟨[],by simp,by simp [hn],by simp⟩
  | some i =>
   obtain ⟨ext,h1,h2,h3⟩:=Ve bs f (out++[i])
   refine ⟨i::ext,by simp [h1],fun h=>?_,fun t x ht=>?_⟩
   ·have:=h2 (by simpa using h)
    simpa using this
   ·cases t with
    | zero =>
     simp at ht
     subst ht
     simpa using hn
    | succ t =>
     have:=h3 t x (by simpa using ht)
     simpa using this
theorem AtI {t x:Nat} (h:(Bb bs)[t]?=some x):nxt bs ((Bb bs).take t)=some x:=by
 obtain ⟨ext,h1,_,h3⟩:=Ve bs bs.length []
 unfold Bb at h ⊢
 rw [h1] at h ⊢
 exact h3 t x h
theorem Zh (bs:List Bk):GN bs (Bb bs):=NI bs.length (GN.nil bs)
theorem AjH (h:(Bb bs).length≠Cy bs):nxt bs (Bb bs)=none:=by
 obtain ⟨ext,h1,h2,_⟩:=Ve bs bs.length []
 have hle:=(Zh bs).le
 have hnd:=HW bs
 have he:Bb bs=ext:=h1
 have:=h2 (by rw [←he];omega)
 rw [he]
 exact this
theorem Apu:∀ {l1 l2:List Nat},l1.Nodup→(∀ x∈l1,x∈l2)→l2.length≤l1.length→∀ x∈l2,x∈l1:=by
 intro l1 l2 hn hs hl x hx
 apply bz
 intro hx1
 have:=AhO (l1:=x::l1) (l2:=l2) (List.nodup_cons.2 ⟨hx1,hn⟩) (fun y hy=>by
  rcases List.mem_cons.1 hy with rfl|hy
  ·exact hx
  ·exact hs y hy)
 simp at this
 omega
theorem Apv (hf:(Bb bs).length=Cy bs) {i:Nat} (hi:i<bs.length) (hk:AQ bs i≠2):i∈Bb bs:=by
 have ho:=Zh bs
 refine Apu (l2:=(List.range bs.length).filter fun i=>AQ bs i != 2) ho.nodup (fun x hx=>?_) (by rw [hf];exact aa _) i (by simp [hi,hk])
 have:=ho.mem x hx
 simp [this.1,this.2]
/- Places. -/
theorem AaU (l:List Nat) (k:Nat):(Br l)[k]?=(l[k]?).map fun n:Nat=>(n:Int):=by simp [Br]
/- What the law on the order asks. -/
/- Circles. -/
def Sup (bs:List Bk) (U:Nat→Prop):Prop:=∀ u,U u→u<bs.length∧AQ bs u≠2∧∃ a∈Hl bs u,U a.toNat
theorem XA (hok:Lk bs) (h:(Bb bs).length≠Cy bs):∃ U,Sup bs U∧∃ u,U u:=by
 have hs:=AjH h
 have ho:=Zh bs
 refine ⟨fun u=>u<bs.length∧AQ bs u≠2∧u ∉ Bb bs,fun u ⟨h1,h2,h3⟩=>⟨h1,h2,?_⟩,?_⟩
 ·have hr:rdy bs (Bb bs) u=false:=by
   unfold nxt at hs
   rw [List.find?_eq_none] at hs
   simpa using hs u (by simpa using h1)
  simp only [rdy] at hr
  have hd:Dd bs (Bb bs) u=false:=by
   have h4:(Bb bs).contains u=false:=by
    rw [←ci,List.contains_iff_mem]
    exact h3
   simp only [Dd,h4,Bool.or_false,beq_eq_false_iff_ne]
   exact h2
  rw [hd] at hr
  simp only [fp,eg] at hr
  rw [mb] at hr
  obtain ⟨a,ha,hda⟩:=hr
  have hb:=hok u h1 a ha
  simp only [Dd,de,beq_iff_eq,List.contains_iff_mem,not_or] at hda
  exact ⟨a,ha,by omega,hda.1,hda.2⟩
 ·apply bz
  intro hn
  apply h
  refine Nat.le_antisymm ho.le ?_
  unfold Cy
  refine AhO (List.nodup_range.filter _) fun x hx=>?_
  simp only [iq,gc,bne_iff_ne,ne_eq] at hx
  apply bz
  intro hx2
  exact hn ⟨x,hx.1,hx.2,hx2⟩
theorem XB {U:Nat→Prop} (hs:Sup bs U) {u:Nat} (hu:U u):(Bb bs).length≠Cy bs:=by
 intro hf
 have key:∀ (t x:Nat),(Bb bs)[t]?=some x→¬ U x:=by
  intro t
  induction t using Nat.strongRecOn with
  | ind t ih =>
   intro x hx hU
   obtain ⟨_,_,a,ha,hUa⟩:=hs x hU
   have hr:=(Mr (AtI hx)).2
   simp only [rdy,aj,List.all_eq_true] at hr
   have hd:=hr.2 a ha
   simp only [Dd,de,beq_iff_eq,List.contains_iff_mem] at hd
   rcases hd with hd|hd
   ·exact (hs _ hUa).2.1 hd
   ·obtain ⟨q,hq⟩:=dq hd
    have hql:=(gS.1 hq).1
    simp at hql
    rw [kj (by omega)] at hq
    exact ih q (by omega) _ hq hUa
 obtain ⟨h1,h2,_⟩:=hs u hu
 obtain ⟨t,ht⟩:=dq (Apv hf h1 h2)
 exact key t u ht hu
end Go.Proofs.YtjlkgfeepocjfaaGreatDoor
