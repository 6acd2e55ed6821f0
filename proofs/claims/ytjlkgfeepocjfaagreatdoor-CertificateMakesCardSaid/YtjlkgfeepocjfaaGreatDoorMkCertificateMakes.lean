/- CertificateMakes: for every diagram and any number of rounds the law returns true: the certificate that is made, or that none is found, or the error, is the document's. No conditions. -/
import Derived.Test.YtjlkgfeepocjfaaGreatDoorMk19
import Derived.Test.YtjlkgfeepocjfaaGreatDoorMk20
set_option linter.all false
namespace Go.Proofs.YtjlkgfeepocjfaaGreatDoor
open Go.ChangeShapes Go.WideShapes Go.ChangeAt Go.RowKit Go.Joins
set_option maxRecDepth 100000 in
set_option maxHeartbeats 4000000 in
theorem certificateMakes_lifted (os:Os) (started:os.Started) (H:Type) (enc:TypeId × Value→H) :
  ReturnsInHanded {} Tryz.checked os 4 .any (fun w args=>(Rows.certificateMakesSpec.pre enc Tryz.prog Tryz.f4 [] false w args∧laidMetH Tryz.prog Ahh w)∧sizedMet enc Tryz.prog Tryz.f4 (OpenSpec.ofChange Rows.certificateMakesSpec) false w args)
   (Rows.certificateMakesSpec.post enc Tryz.prog Tryz.f4 false true false false):=by
 refine Tf (C:=Tryz.checked) (T:=4) own started (by kernel_rfl) Tryz.func4
  (ChangeSpec.witness_shaped (enc:=enc) (C:=Tryz.checked) (os:=os) (X:=fun w _=>laidMetH Tryz.prog Ahh w) false (World.doorLaid Tryz.prog 400 os) #[.agg #[.slice none 0 0,.slice none 0 0,.slice none 0 0],.int .i64 0] 8 rfl (WW os _) (by kernel_rfl) (by kernel_rfl) (by kernel_rfl) (Ahi os _))
  AmF (by kernel_rfl) rfl Tryz.underlying4 (by kernel_rfl) ?_ ?_
 ·intro ds h
  match ds,h with
  | [d1,d2],_=>exact ⟨rfl,rfl,rfl⟩
 ·intro W base args ds p hval0 hA0 _ hsz0 hL
  have ht:=AqM hL
  have hval:∀ (j:Nat) t v,Tryz.f4.params[j]?=some t→args[j]?=some v→Value.okWide Tryz.prog W .any base t v:=hval0
  have hA:DataW.TrodAll enc Tryz.prog W 0 (fun _=>true) true Tryz.f4.params.toList args.toList ds p:=hA0
  clear hsz0 hL
  rw [Tryz.params4] at hA hval
  obtain ⟨v0,vs0,d0,ds0,p0,q0,hargs,rfl,rfl,h0,r0⟩:=trodAll_cons hA
  obtain ⟨v1,vs1,d1,ds1,p1,q1,rfl,rfl,rfl,h1,r1⟩:=trodAll_cons r0
  obtain ⟨rfl,rfl,rfl⟩:=trodAll_nil r1
  obtain rfl:args=#[v0,v1]:=by cases args;simp_all
  obtain ⟨ps,bs,os,ha0⟩:=Ahg (hval 0 26 v0 rfl rfl) h0
  have ha0:=AqU.of ha0
  obtain ⟨i,rfl,rfl,rfl,hib⟩:=open_int Tryz.underlying3 (hval 1 3 v1 rfl rfl) h1
  exact AmE (vs:=[v0,.int .i64 i]) (LV ps bs os i) ht ((.cons_ ha0 (.cons_ (Bx.val rfl) .nil_)))
theorem certificateMakes_row:Rows.CertificateMakesSaid :=
 OpenClaim.holds_of_wide 4 Tryz.f4 rfl rfl rfl rfl rfl rfl rfl ⟨rfl,rfl,rfl,rfl,rfl⟩ rfl rfl rfl rfl rfl (by kernel_rfl) Tryz.func4 (by kernel_rfl)
  (of_decide_eq_true (by kernel_rfl)) (by unfold Func.isWrapper;first|(rw [if_pos (by decide +kernel)];kernel_rfl)|(rw [if_neg (by decide +kernel)];exact ⟨rfl,rfl⟩))
  (fun os started H enc _=>certificateMakes_lifted os started H enc)
theorem certificateMakes_holds:Rows.CertificateMakesCardSaid :=
 Claim7.holds_tied_plain_at .later [] [.data] true (true, "e6d423063e2ea1194e073ba9afc31cde4ffec2a5c83ae16a17046bf03ee82923") true
  certificateMakes_row (fun _ h=>by cases h) (by kernel_rfl) (fun _ h=>by cases h) certificateMakes_row_tie rfl ⟨rfl,rfl⟩ (by kernel_rfl) rfl
  (fun f fn hf hfn=>by
   obtain rfl : f = 4 := Option.some.inj ((show Tryz.prog.funcNamed "commutator/commutatorlaw16.CertificateMakes" = some 4 by kernel_rfl).symm.trans hf) |>.symm
   obtain rfl:fn=Tryz.f4:=(Option.some.inj (Tryz.func4.symm.trans hfn)).symm
   exact ⟨by kernel_rfl,fun j t ht=>by
    rw [Tryz.params4] at ht
    have hm:t∈[26,3]:=by simpa using Array.mem_of_getElem? ht
    have hall:([26,3].all fun u=>!Tryz.prog.wantsStandIn u)=true:=by kernel_rfl
    exact (show Tryz.prog.wantsStandIn t=false by simpa using List.all_eq_true.1 hall t hm)⟩)
  (by kernel_rfl)
#print axioms certificateMakes_holds
end Go.Proofs.YtjlkgfeepocjfaaGreatDoor
