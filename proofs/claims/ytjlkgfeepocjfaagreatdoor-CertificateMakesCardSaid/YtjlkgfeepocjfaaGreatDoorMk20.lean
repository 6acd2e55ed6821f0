/- What the proofs of this claim share, part 20. No conditions. -/
import Derived.Test.YtjlkgfeepocjfaaGreatDoorMk6
import Derived.Test.YtjlkgfeepocjfaaGreatDoorMk2
import Derived.Handed
import Derived.LaidMore
import Derived.Lib.LaidTab
import Derived.Test.YtjlkgfeepocjfaaGreatDoorTie
import Derived.Test.YtjlkgfeepocjfaaGreatDoorCards
import Derived.SevenTiedAt
set_option linter.all false
open Go.Proofs.Tryz
namespace Go.Proofs.YtjlkgfeepocjfaaGreatDoor
open Go.ChangeShapes Go.WideShapes Go.ChangeAt Go.RowKit Go.Joins Go.Deep
theorem gTab : prog.globalNamed "math/bits.deBruijn32tab" = some 0 := by kernel_rfl
theorem tTab:(prog.globals[0]?).map (·.type)=some 215:=by kernel_rfl
def Ahh : List (String × DataW Unit) := [("math/bits.deBruijn32tab", Rows.laid_math_bits_deBruijn32tab)]
theorem AqM {W:World} (h:laidMetH prog Ahh W):Ah W:=by
 rw [MakeChecks.laidMetH_plain _ _ _ (by kernel_rfl)] at h
 have h2 : laidMet prog (("math/bits.deBruijn32tab", Lib.tabData .u8 Zg) :: []) W := h
 have hT:=Lib.tabIs_of_head gTab tTab underlying215 underlying5 (by kernel_rfl) (by kernel_rfl) h2
 have hc:∀ j z,Zg[j]?=some z→W.cell? ⟨0,j,none⟩=some (.int .u8 z):=fun j z hz=>by
  have hj:j<Zg.length:=(gS.1 hz).1
  have:=hT.cell gTab j hj
  rwa [show Zg.getD j 0=z by simp [List.getD,hz]] at this
 refine ⟨?_,hc⟩
 have h0:=hc 0 0 rfl
 rcases cw 0 W.heap.size with h3|h3
 ·exact h3
 ·simp [World.cell?,fq h3] at h0
theorem Ahi (os:Os) (args:Array Value):laidMetH prog Ahh ((World.doorLaid prog 400 os).forCall (fun _ _=>0) ⟨#[],args,[]⟩).memory :=
 laidMetH_of_parts3 (fuel:=8) (laidMet_of_run' 8 (by kernel_rfl) (by kernel_rfl)) (by kernel_rfl) (by kernel_rfl)
theorem WW (os:Os) (args:Array Value):((World.doorLaid prog 400 os).forCall (fun _ _=>0) ⟨#[],args,[]⟩).Shaped prog:=World.shaped_of_RefB (by kernel_rfl) (by kernel_rfl)
theorem own:ownKnob prog.godebug=none:=by kernel_rfl
theorem AmF:laidOutB prog=true:=by kernel_rfl
theorem Tf {H:Type} {enc:TypeId × Value→H} {C:Checked} {os:Os} {f:FuncId} {fn:Func} {s:ChangeSpec} {conds:List PathCond} {T:TypeId} {laid:List (String × DataW Unit)}
  (own:ownKnob C.prog.godebug=none) (started:os.Started) (noInit:C.prog.inits.idxOf? f=none) (hfn:C.prog.funcs[f]?=some fn)
  (witness:∃ (w:World) (tape:Tape) (i:Input),w.os=os∧(w.forCall tape i).Shaped C.prog∧i.vars=[]∧Input.okWide C.prog (w.forCall tape i) .any w.heap.size f i ∧
   ((s.pre enc C.prog fn conds false (w.forCall tape i).memory i.args∧laidMetH C.prog laid (w.forCall tape i).memory)∧sizedMet enc C.prog fn (OpenSpec.ofChange s) false (w.forCall tape i).memory i.args)∧({}:Assume).holds C.prog (lone (Frame.enter C.prog f i.args .normal) [] (w.forCall tape i)))
  (hl:laidOutB C.prog=true) (hr0:(fn.params.toList.all fun t=>C.prog.readableRec t && decide (t<C.prog.types.size))=true) (hvars:s.vars=[]) (hT:C.prog.underlying T=some .bool) (hres:fn.resultTypes=#[T])
  (hs:∀ ds:List (DataW H),ds.length=fn.params.size→(s.fn H ds).results=[.lit (.bool true)]∧(s.fn H ds).args=ds∧(s.fn H ds).vars=[])
  (walk:∀ (W:World) (base:Nat) (args:Array Value) (ds:List (DataW H)) (p:List MemPlace),
   (∀ (j:Nat) t v,fn.params[j]?=some t→args[j]?=some v→Value.okWide C.prog W .any base t v)→DataW.TrodAll enc C.prog W 0 (fun _=>true) true fn.params.toList args.toList ds p →
   (∀ x∈p,x.block<W.heap.size)→(DataW.weightsEach C.prog fn.params.toList ds).all (·≤reachBytes)=true→laidMetH C.prog laid W →
   Calls C.prog f args W fun e W'=>e=.returned (.bool true)∧Below W.heap.size W W') :
  ReturnsInHanded {} C os f .any (fun w args=>(s.pre enc C.prog fn conds false w args∧laidMetH C.prog laid w)∧sizedMet enc C.prog fn (OpenSpec.ofChange s) false w args) (s.post enc C.prog fn false true false false):=by
 have hr:∀ t∈fn.params.toList,C.prog.readableRec t=true∧t<C.prog.types.size:=fun t ht=>by
  have:=List.all_eq_true.1 hr0 t ht
  simpa using this
 refine returnsInHanded_of_change_and (X:=fun w _=>laidMetH C.prog laid w) (fun _ _ _ hh h=>h.of_heap hh) own started noInit hfn witness ?_
 intro W base args ds gs before hval hW _ hsz hL _
 have hW0:=hW
 obtain ⟨p,q,hA,hV,rfl,_,_⟩:=hW
 have hlt:∀ x∈p++q,x.block<W.heap.size:=fun x hx=>hW0.lt x hx
 have hV':=hV
 rw [hvars] at hV'
 obtain ⟨rfl,rfl⟩:=trodVars_none hV'
 have hvt:s.plain.varTypes C.prog=[]:=by
  simp [DataSpec.varTypes,ChangeSpec.plain,hvars]
 rw [hvt,bc,bc] at hsz
 refine (walk W base args ds p hval hA (fun x hx=>hlt x (by simp [hx])) hsz hL).mono fun e W' ⟨he,hb⟩=>?_
 exact ⟨_,he,AeW hl hr hvars hT hres hs hW0 hb⟩
end Go.Proofs.YtjlkgfeepocjfaaGreatDoor
