/- HorizonTrusts: for every diagram, certificate and number of ticks the law returns true: the errors of an accepted certificate whose errors are multiples of 2^-62 are at least those of every tick, and all blocks fit in every tick. No conditions. -/
import Derived.Test.YtmdfjbpggbhgnaaGreatDoorZt21
import Derived.Test.YtmdfjbpggbhgnaaGreatDoorZt22
set_option linter.unusedVariables false
set_option linter.unusedSimpArgs false
set_option linter.unusedSectionVars false
namespace Go.Proofs.YtmdfjbpggbhgnaaGreatDoor
open Go.ChangeShapes Go.WideShapes Go.ChangeAt Go.RowKit Go.Joins
set_option maxRecDepth 100000 in
set_option maxHeartbeats 4000000 in
theorem horizonTrusts_lifted (os:Os) (started:os.Started) (H:Type) (enc:TypeId × Value→H) :
  ReturnsInHanded {} Tryz.checked os 5 .any (fun w args=>(Rows.horizonTrustsSpec.pre enc Tryz.prog Tryz.f5 [] false w args∧laidMetH Tryz.prog ZM w)∧sizedMet enc Tryz.prog Tryz.f5 (OpenSpec.ofChange Rows.horizonTrustsSpec) false w args)
   (Rows.horizonTrustsSpec.post enc Tryz.prog Tryz.f5 false true false false):=by
 refine Pj (C:=Tryz.checked) (T:=4) own started (by kernel_rfl) Tryz.func5
  (ChangeSpec.witness_shaped (enc:=enc) (C:=Tryz.checked) (os:=os) (X:=fun w _=>laidMetH Tryz.prog ZM w) false (World.doorLaid Tryz.prog 400 os) #[.agg #[.slice none 0 0,.slice none 0 0,.slice none 0 0],.agg #[.slice none 0 0,.slice none 0 0,.slice none 0 0],.int .u8 0] 8 rfl (Sb os _) (by kernel_rfl) (by kernel_rfl) (by kernel_rfl) (ZN os _))
  Adh (by kernel_rfl) rfl Tryz.underlying4 (by kernel_rfl) ?_ ?_
 ·intro ds h
  match ds,h with
  | [d1,d2,d3],_=>exact ⟨rfl,rfl,rfl⟩
 ·intro W base args ds p hval0 hA0 _ hsz0 hL
  have ht:=Afh hL
  have hval:∀ (j:Nat) t v,Tryz.f5.params[j]?=some t→args[j]?=some v→Value.okWide Tryz.prog W .any base t v:=hval0
  have hA:DataW.TrodAll enc Tryz.prog W 0 (fun _=>true) true Tryz.f5.params.toList args.toList ds p:=hA0
  clear hsz0 hL
  rw [Tryz.params5] at hA hval
  obtain ⟨v0,vs0,d0,ds0,p0,q0,hargs,rfl,rfl,h0,r0⟩:=trodAll_cons hA
  obtain ⟨v1,vs1,d1,ds1,p1,q1,rfl,rfl,rfl,h1,r1⟩:=trodAll_cons r0
  obtain ⟨v2,vs2,d2,ds2,p2,q2,rfl,rfl,rfl,h2,r2⟩:=trodAll_cons r1
  obtain ⟨rfl,rfl,rfl⟩:=trodAll_nil r2
  obtain rfl:args=#[v0,v1,v2]:=by cases args;simp_all
  obtain ⟨ps,bs,os,ha0⟩:=ZK (hval 0 26 v0 rfl rfl) h0
  have ha0:=Ph.of ha0
  obtain ⟨F,qs,rs,ha1,hws,hwsr,hfn,hqn,hrn⟩:=XY (hval 1 30 v1 rfl rfl) h1
  obtain ⟨k,rfl,rfl,rfl,hkb⟩:=open_int Tryz.underlying5 (hval 2 5 v2 rfl rfl) h2
  obtain ⟨hk0,hk1⟩:=bounds_u8 hkb
  exact Adc (vs:=[v0,v1,.int .u8 k]) (Lf ps bs os F qs rs hws hwsr hfn hqn hrn k hk0 (by omega)) ht ((.cons_ ha0 (.cons_ ha1 (.cons_ (BE.val rfl) .nil_))))
theorem horizonTrusts_row:Rows.HorizonTrustsSaid :=
 OpenClaim.holds_of_wide 5 Tryz.f5 rfl rfl rfl rfl rfl rfl rfl ⟨rfl,rfl,rfl,rfl,rfl⟩ rfl rfl rfl rfl rfl (by kernel_rfl) Tryz.func5 (by kernel_rfl)
  (of_decide_eq_true (by kernel_rfl)) (by unfold Func.isWrapper;first|(rw [if_pos (by decide +kernel)];kernel_rfl)|(rw [if_neg (by decide +kernel)];exact ⟨rfl,rfl⟩))
  (fun os started H enc _=>horizonTrusts_lifted os started H enc)
theorem horizonTrusts_holds:Rows.HorizonTrustsCardSaid :=
 Claim7.holds_tied_plain_at .later [] [.data] true (true, "84e4f5157dc3677255f173f895fd04f405d20eee304d1722abbc57dece96271a") true
  horizonTrusts_row (fun _ h=>by cases h) (by kernel_rfl) (fun _ h=>by cases h) horizonTrusts_row_tie rfl ⟨rfl,rfl⟩ (by kernel_rfl) rfl
  (fun f fn hf hfn=>by
   obtain rfl : f = 5 := Option.some.inj ((show Tryz.prog.funcNamed "commutator/commutatorlaw17.HorizonTrusts" = some 5 by kernel_rfl).symm.trans hf) |>.symm
   obtain rfl:fn=Tryz.f5:=(Option.some.inj (Tryz.func5.symm.trans hfn)).symm
   exact ⟨by kernel_rfl,fun j t ht=>by
    rw [Tryz.params5] at ht
    have hm:t∈[26,30,5]:=by simpa using Array.mem_of_getElem? ht
    have hall:([26,30,5].all fun u=>!Tryz.prog.wantsStandIn u)=true:=by kernel_rfl
    exact (show Tryz.prog.wantsStandIn t=false by simpa using List.all_eq_true.1 hall t hm)⟩)
  (by kernel_rfl)
#print axioms horizonTrusts_holds
end Go.Proofs.YtmdfjbpggbhgnaaGreatDoor
