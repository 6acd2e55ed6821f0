/- CertificateAccepts: for every diagram and any number of rounds the law returns true: a certificate that is made is accepted, and of a diagram of inputs, signs, minima and maxima with small inputs one is always found. No conditions. -/
import Derived.Test.YtmdfjbpggbhgnaaGreatDoorAt17
import Derived.Test.YtmdfjbpggbhgnaaGreatDoorAt18
set_option linter.all false
namespace Go.Proofs.YtmdfjbpggbhgnaaGreatDoor
open Go.ChangeShapes Go.WideShapes Go.ChangeAt Go.RowKit Go.Joins
set_option maxRecDepth 100000 in
set_option maxHeartbeats 4000000 in
theorem certificateAccepts_lifted (os:Os) (started:os.Started) (H:Type) (enc:TypeId × Value→H) :
  ReturnsInHanded {} Tryz.checked os 7 .any (fun w args=>(Rows.certificateAcceptsSpec.pre enc Tryz.prog Tryz.f7 [] false w args∧laidMetH Tryz.prog Aby w)∧sizedMet enc Tryz.prog Tryz.f7 (OpenSpec.ofChange Rows.certificateAcceptsSpec) false w args)
   (Rows.certificateAcceptsSpec.post enc Tryz.prog Tryz.f7 false true false false):=by
 refine Pz (C:=Tryz.checked) (T:=4) own started (by kernel_rfl) Tryz.func7
  (ChangeSpec.witness_shaped (enc:=enc) (C:=Tryz.checked) (os:=os) (X:=fun w _=>laidMetH Tryz.prog Aby w) false (World.doorLaid Tryz.prog 400 os) #[.agg #[.slice none 0 0,.slice none 0 0,.slice none 0 0],.int .u8 0] 8 rfl (Tc os _) (by kernel_rfl) (by kernel_rfl) (by kernel_rfl) (Abz os _))
  Agg (by kernel_rfl) rfl Tryz.underlying4 (by kernel_rfl) ?_ ?_
 ·intro ds h
  match ds,h with
  | [d1,d2],_=>exact ⟨rfl,rfl,rfl⟩
 ·intro W base args ds p hval0 hA0 _ hsz0 hL
  have ht:=Akd hL
  have hval:∀ (j:Nat) t v,Tryz.f7.params[j]?=some t→args[j]?=some v→Value.okWide Tryz.prog W .any base t v:=hval0
  have hA:DataW.TrodAll enc Tryz.prog W 0 (fun _=>true) true Tryz.f7.params.toList args.toList ds p:=hA0
  clear hsz0 hL
  rw [Tryz.params7] at hA hval
  obtain ⟨v0,vs0,d0,ds0,p0,q0,hargs,rfl,rfl,h0,r0⟩:=trodAll_cons hA
  obtain ⟨v1,vs1,d1,ds1,p1,q1,rfl,rfl,rfl,h1,r1⟩:=trodAll_cons r0
  obtain ⟨rfl,rfl,rfl⟩:=trodAll_nil r1
  obtain rfl:args=#[v0,v1]:=by cases args;simp_all
  obtain ⟨ps,bs,os,ha0⟩:=Abx (hval 0 26 v0 rfl rfl) h0
  have ha0:=Ako.of ha0
  obtain ⟨k,rfl,rfl,rfl,hkb⟩:=open_int Tryz.underlying5 (hval 1 5 v1 rfl rfl) h1
  obtain ⟨hk0,hk1⟩:=bounds_u8 hkb
  exact Agf (vs:=[v0,.int .u8 k]) (FM ps bs os k hk0 (by omega)) ht ((.cons_ ha0 (.cons_ (Bf.val rfl) .nil_)))
theorem certificateAccepts_row:Rows.CertificateAcceptsSaid :=
 OpenClaim.holds_of_wide 7 Tryz.f7 rfl rfl rfl rfl rfl rfl rfl ⟨rfl,rfl,rfl,rfl,rfl⟩ rfl rfl rfl rfl rfl (by kernel_rfl) Tryz.func7 (by kernel_rfl)
  (of_decide_eq_true (by kernel_rfl)) (by unfold Func.isWrapper;first|(rw [if_pos (by decide +kernel)];kernel_rfl)|(rw [if_neg (by decide +kernel)];exact ⟨rfl,rfl⟩))
  (fun os started H enc _=>certificateAccepts_lifted os started H enc)
theorem certificateAccepts_holds:Rows.CertificateAcceptsCardSaid :=
 Claim7.holds_tied_plain_at .later [] [.data] true (true, "84e4f5157dc3677255f173f895fd04f405d20eee304d1722abbc57dece96271a") true
  certificateAccepts_row (fun _ h=>by cases h) (by kernel_rfl) (fun _ h=>by cases h) certificateAccepts_row_tie rfl ⟨rfl,rfl⟩ (by kernel_rfl) rfl
  (fun f fn hf hfn=>by
   obtain rfl : f = 7 := Option.some.inj ((show Tryz.prog.funcNamed "commutator/commutatorlaw16.CertificateAccepts" = some 7 by kernel_rfl).symm.trans hf) |>.symm
   obtain rfl:fn=Tryz.f7:=(Option.some.inj (Tryz.func7.symm.trans hfn)).symm
   exact ⟨by kernel_rfl,fun j t ht=>by
    rw [Tryz.params7] at ht
    have hm:t∈[26,5]:=by simpa using Array.mem_of_getElem? ht
    have hall:([26,5].all fun u=>!Tryz.prog.wantsStandIn u)=true:=by kernel_rfl
    exact (show Tryz.prog.wantsStandIn t=false by simpa using List.all_eq_true.1 hall t hm)⟩)
  (by kernel_rfl)
#print axioms certificateAccepts_holds
end Go.Proofs.YtmdfjbpggbhgnaaGreatDoor
