/- WholePrune: for every diagram, certificate and inputs of ticks the law returns true: the certificate restricted to the blocks that the outputs need is one of the pruned diagram, and the outputs are the same. No conditions. -/
import Derived.Test.YtjlkgfeepocjfaaGreatDoorPn21
import Derived.Test.YtjlkgfeepocjfaaGreatDoorPn20
set_option linter.all false
namespace Go.Proofs.YtjlkgfeepocjfaaGreatDoor
open Go.ChangeShapes Go.WideShapes Go.ChangeAt Go.RowKit Go.Joins
set_option maxRecDepth 100000 in
set_option maxHeartbeats 4000000 in
theorem wholePrune_lifted (os:Os) (started:os.Started) (H:Type) (enc:TypeId × Value→H) :
  ReturnsInHanded {} Tryz.checked os 3 .any (fun w args=>(Rows.wholePruneSpec.pre enc Tryz.prog Tryz.f3 [] false w args∧laidMetH Tryz.prog AjF w)∧sizedMet enc Tryz.prog Tryz.f3 (OpenSpec.ofChange Rows.wholePruneSpec) false w args)
   (Rows.wholePruneSpec.post enc Tryz.prog Tryz.f3 false true false false):=by
 refine Vd (C:=Tryz.checked) (T:=4) own started (by kernel_rfl) Tryz.func3
  (ChangeSpec.witness_shaped (enc:=enc) (C:=Tryz.checked) (os:=os) (X:=fun w _=>laidMetH Tryz.prog AjF w) false (World.doorLaid Tryz.prog 400 os) #[.agg #[.slice none 0 0,.slice none 0 0,.slice none 0 0],.agg #[.slice none 0 0,.slice none 0 0,.slice none 0 0],.slice none 0 0] 8 rfl (Zg os _) (by kernel_rfl) (by kernel_rfl) (by kernel_rfl) (AjG os _))
  Apt (by kernel_rfl) rfl Tryz.underlying4 (by kernel_rfl) ?_ ?_
 ·intro ds h
  match ds,h with
  | [d1,d2,d3],_=>exact ⟨rfl,rfl,rfl⟩
 ·intro W base args ds p hval0 hA0 _ hsz0 hL
  have ht:=AtH hL
  have hval:∀ (j:Nat) t v,Tryz.f3.params[j]?=some t→args[j]?=some v→Value.okWide Tryz.prog W .any base t v:=hval0
  have hA:DataW.TrodAll enc Tryz.prog W 0 (fun _=>true) true Tryz.f3.params.toList args.toList ds p:=hA0
  have hsz:(DataW.weightsEach Tryz.prog Tryz.f3.params.toList ds).all (·≤reachBytes)=true:=hsz0
  clear hsz0 hL
  rw [Tryz.params3] at hA hval hsz
  obtain ⟨v0,vs0,d0,ds0,p0,q0,hargs,rfl,rfl,h0,r0⟩:=trodAll_cons hA
  obtain ⟨v1,vs1,d1,ds1,p1,q1,rfl,rfl,rfl,h1,r1⟩:=trodAll_cons r0
  obtain ⟨v2,vs2,d2,ds2,p2,q2,rfl,rfl,rfl,h2,r2⟩:=trodAll_cons r1
  obtain ⟨rfl,rfl,rfl⟩:=trodAll_nil r2
  obtain rfl:args=#[v0,v1,v2]:=by cases args;simp_all
  have hw:∀ k∈DataW.weightsEach Tryz.prog [26,30,31] [d0,d1,d2],k≤reachBytes:=fun k hk=>of_decide_eq_true (List.all_eq_true.1 hsz k hk)
  obtain ⟨ps,bs,os,ha0,hbig⟩:=AjZ (hval 0 26 v0 rfl rfl) h0 (Nb hw 0 _ _ rfl rfl)
  have ha0:=Vq.of ha0
  obtain ⟨F,qs,rs,ha1,hwq,hwr,hfn,hqn,hrn⟩:=AcL (hval 1 30 v1 rfl rfl) h1 (Nb hw 1 _ _ rfl rfl)
  obtain ⟨ls,ha2,hln,hll⟩:=Zn true (hval 2 31 v2 rfl rfl) h2 (Nb hw 2 _ _ rfl rfl)
  exact ApK (vs:=[v0,v1,v2]) (Vk ps bs os hbig F qs rs hwq hwr hfn hqn hrn ls hll hln) ht ((.cons_ ha0 (.cons_ ha1 (.cons_ ha2 .nil_))))
theorem wholePrune_row:Rows.WholePruneSaid :=
 OpenClaim.holds_of_wide 3 Tryz.f3 rfl rfl rfl rfl rfl rfl rfl ⟨rfl,rfl,rfl,rfl,rfl⟩ rfl rfl rfl rfl rfl (by kernel_rfl) Tryz.func3 (by kernel_rfl)
  (of_decide_eq_true (by kernel_rfl)) (by unfold Func.isWrapper;first|(rw [if_pos (by decide +kernel)];kernel_rfl)|(rw [if_neg (by decide +kernel)];exact ⟨rfl,rfl⟩))
  (fun os started H enc _=>wholePrune_lifted os started H enc)
theorem wholePrune_holds:Rows.WholePruneCardSaid :=
 Claim7.holds_tied_plain_at .later [] [.data] true (true, "e6d423063e2ea1194e073ba9afc31cde4ffec2a5c83ae16a17046bf03ee82923") true
  wholePrune_row (fun _ h=>by cases h) (by kernel_rfl) (fun _ h=>by cases h) wholePrune_row_tie rfl ⟨rfl,rfl⟩ (by kernel_rfl) rfl
  (fun f fn hf hfn=>by
   obtain rfl : f = 3 := Option.some.inj ((show Tryz.prog.funcNamed "commutator/commutatortop.WholePrune" = some 3 by kernel_rfl).symm.trans hf) |>.symm
   obtain rfl:fn=Tryz.f3:=(Option.some.inj (Tryz.func3.symm.trans hfn)).symm
   exact ⟨by kernel_rfl,fun j t ht=>by
    rw [Tryz.params3] at ht
    have hm:t∈[26,30,31]:=by simpa using Array.mem_of_getElem? ht
    have hall:([26,30,31].all fun u=>!Tryz.prog.wantsStandIn u)=true:=by kernel_rfl
    exact (show Tryz.prog.wantsStandIn t=false by simpa using List.all_eq_true.1 hall t hm)⟩)
  (by kernel_rfl)
#print axioms wholePrune_holds
end Go.Proofs.YtjlkgfeepocjfaaGreatDoor
