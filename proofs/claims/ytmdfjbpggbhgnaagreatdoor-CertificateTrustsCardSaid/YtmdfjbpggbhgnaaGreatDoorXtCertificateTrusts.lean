/- CertificateTrusts: for every diagram, certificate and inputs of ticks the law returns true: with an accepted certificate the program never overflows and stays within the errors, the exact values in the ranges. No conditions. -/
import Derived.Test.YtmdfjbpggbhgnaaGreatDoorXt19
import Derived.Test.YtmdfjbpggbhgnaaGreatDoorXt20
set_option linter.all false
namespace Go.Proofs.YtmdfjbpggbhgnaaGreatDoor
open Go.ChangeShapes Go.WideShapes Go.ChangeAt Go.RowKit Go.Joins
set_option maxRecDepth 100000 in
set_option maxHeartbeats 4000000 in
theorem certificateTrusts_lifted (os:Os) (started:os.Started) (H:Type) (enc:TypeId × Value→H) :
  ReturnsInHanded {} Tryz.checked os 9 .any (fun w args=>(Rows.certificateTrustsSpec.pre enc Tryz.prog Tryz.f9 [] false w args∧laidMetH Tryz.prog AhN w)∧sizedMet enc Tryz.prog Tryz.f9 (OpenSpec.ofChange Rows.certificateTrustsSpec) false w args)
   (Rows.certificateTrustsSpec.post enc Tryz.prog Tryz.f9 false true false false):=by
 refine Td (C:=Tryz.checked) (T:=4) own started (by kernel_rfl) Tryz.func9
  (ChangeSpec.witness_shaped (enc:=enc) (C:=Tryz.checked) (os:=os) (X:=fun w _=>laidMetH Tryz.prog AhN w) false (World.doorLaid Tryz.prog 400 os) #[.agg #[.slice none 0 0,.slice none 0 0,.slice none 0 0],.agg #[.slice none 0 0,.slice none 0 0,.slice none 0 0],.slice none 0 0] 8 rfl (Xc os _) (by kernel_rfl) (by kernel_rfl) (by kernel_rfl) (AhO os _))
  AmV (by kernel_rfl) rfl Tryz.underlying4 (by kernel_rfl) ?_ ?_
 ·intro ds h
  match ds,h with
  | [d1,d2,d3],_=>exact ⟨rfl,rfl,rfl⟩
 ·intro W base args ds p hval0 hA0 _ hsz0 hL
  have ht:=Ard hL
  have hval:∀ (j:Nat) t v,Tryz.f9.params[j]?=some t→args[j]?=some v→Value.okWide Tryz.prog W .any base t v:=hval0
  have hA:DataW.TrodAll enc Tryz.prog W 0 (fun _=>true) true Tryz.f9.params.toList args.toList ds p:=hA0
  clear hsz0 hL
  rw [Tryz.params9] at hA hval
  obtain ⟨v0,vs0,d0,ds0,p0,q0,hargs,rfl,rfl,h0,r0⟩:=trodAll_cons hA
  obtain ⟨v1,vs1,d1,ds1,p1,q1,rfl,rfl,rfl,h1,r1⟩:=trodAll_cons r0
  obtain ⟨v2,vs2,d2,ds2,p2,q2,rfl,rfl,rfl,h2,r2⟩:=trodAll_cons r1
  obtain ⟨rfl,rfl,rfl⟩:=trodAll_nil r2
  obtain rfl:args=#[v0,v1,v2]:=by cases args;simp_all
  obtain ⟨ps,bs,os,ha0⟩:=AhL (hval 0 26 v0 rfl rfl) h0
  have ha0:=RI.of ha0
  obtain ⟨F,qs,rs,ha1,hws,hwsr,hfn,hqn,hrn⟩:=Afo (hval 1 30 v1 rfl rfl) h1
  obtain ⟨ls,ha2,hln⟩:=Xb true (hval 2 31 v2 rfl rfl) h2
  exact AmQ (vs:=[v0,v1,v2]) (Ir ps bs os F qs rs hws hwsr hfn hqn hrn ls hln) ht ((.cons_ ha0 (.cons_ ha1 (.cons_ ha2 .nil_))))
theorem certificateTrusts_row:Rows.CertificateTrustsSaid :=
 OpenClaim.holds_of_wide 9 Tryz.f9 rfl rfl rfl rfl rfl rfl rfl ⟨rfl,rfl,rfl,rfl,rfl⟩ rfl rfl rfl rfl rfl (by kernel_rfl) Tryz.func9 (by kernel_rfl)
  (of_decide_eq_true (by kernel_rfl)) (by unfold Func.isWrapper;first|(rw [if_pos (by decide +kernel)];kernel_rfl)|(rw [if_neg (by decide +kernel)];exact ⟨rfl,rfl⟩))
  (fun os started H enc _=>certificateTrusts_lifted os started H enc)
theorem certificateTrusts_holds:Rows.CertificateTrustsCardSaid :=
 Claim7.holds_tied_plain_at .later [] [.data] true (true, "84e4f5157dc3677255f173f895fd04f405d20eee304d1722abbc57dece96271a") true
  certificateTrusts_row (fun _ h=>by cases h) (by kernel_rfl) (fun _ h=>by cases h) certificateTrusts_row_tie rfl ⟨rfl,rfl⟩ (by kernel_rfl) rfl
  (fun f fn hf hfn=>by
   obtain rfl : f = 9 := Option.some.inj ((show Tryz.prog.funcNamed "commutator/commutatorlaw16.CertificateTrusts" = some 9 by kernel_rfl).symm.trans hf) |>.symm
   obtain rfl:fn=Tryz.f9:=(Option.some.inj (Tryz.func9.symm.trans hfn)).symm
   exact ⟨by kernel_rfl,fun j t ht=>by
    rw [Tryz.params9] at ht
    have hm:t∈[26,30,31]:=by simpa using Array.mem_of_getElem? ht
    have hall:([26,30,31].all fun u=>!Tryz.prog.wantsStandIn u)=true:=by kernel_rfl
    exact (show Tryz.prog.wantsStandIn t=false by simpa using List.all_eq_true.1 hall t hm)⟩)
  (by kernel_rfl)
#print axioms certificateTrusts_holds
end Go.Proofs.YtmdfjbpggbhgnaaGreatDoor
