/- CertificateMore: for every diagram, any number of rounds and two bytes the law returns true: with a greater error of a block that is no argument an accepted certificate is still accepted, or this block does not fit; with an error less than the bound it is not. No conditions. -/
import Derived.Test.YtmdfjbpggbhgnaaGreatDoorMr18
import Derived.Test.YtmdfjbpggbhgnaaGreatDoorMr19
set_option linter.all false
namespace Go.Proofs.YtmdfjbpggbhgnaaGreatDoor
open Go.ChangeShapes Go.WideShapes Go.ChangeAt Go.RowKit Go.Joins
set_option maxRecDepth 100000 in
set_option maxHeartbeats 4000000 in
theorem certificateMore_lifted (os:Os) (started:os.Started) (H:Type) (enc:TypeId × Value→H) :
  ReturnsInHanded {} Tryz.checked os 8 .any (fun w args=>(Rows.certificateMoreSpec.pre enc Tryz.prog Tryz.f8 [] false w args∧laidMetH Tryz.prog AeJ w)∧sizedMet enc Tryz.prog Tryz.f8 (OpenSpec.ofChange Rows.certificateMoreSpec) false w args)
   (Rows.certificateMoreSpec.post enc Tryz.prog Tryz.f8 false true false false):=by
 refine Rp (C:=Tryz.checked) (T:=4) own started (by kernel_rfl) Tryz.func8
  (ChangeSpec.witness_shaped (enc:=enc) (C:=Tryz.checked) (os:=os) (X:=fun w _=>laidMetH Tryz.prog AeJ w) false (World.doorLaid Tryz.prog 400 os) #[.agg #[.slice none 0 0,.slice none 0 0,.slice none 0 0],.int .u8 0,.agg #[.int .u8 0,.int .u8 0]] 8 rfl (Va os _) (by kernel_rfl) (by kernel_rfl) (by kernel_rfl) (AeK os _))
  AjK (by kernel_rfl) rfl Tryz.underlying4 (by kernel_rfl) ?_ ?_
 ·intro ds h
  match ds,h with
  | [d1,d2,d3],_=>exact ⟨rfl,rfl,rfl⟩
 ·intro W base args ds p hval0 hA0 _ hsz0 hL
  have ht:=Aob hL
  have hval:∀ (j:Nat) t v,Tryz.f8.params[j]?=some t→args[j]?=some v→Value.okWide Tryz.prog W .any base t v:=hval0
  have hA:DataW.TrodAll enc Tryz.prog W 0 (fun _=>true) true Tryz.f8.params.toList args.toList ds p:=hA0
  clear hsz0 hL
  rw [Tryz.params8] at hA hval
  obtain ⟨v0,vs0,d0,ds0,p0,q0,hargs,rfl,rfl,h0,r0⟩:=trodAll_cons hA
  obtain ⟨v1,vs1,d1,ds1,p1,q1,rfl,rfl,rfl,h1,r1⟩:=trodAll_cons r0
  obtain ⟨v2,vs2,d2,ds2,p2,q2,rfl,rfl,rfl,h2,r2⟩:=trodAll_cons r1
  obtain ⟨rfl,rfl,rfl⟩:=trodAll_nil r2
  obtain rfl:args=#[v0,v1,v2]:=by cases args;simp_all
  obtain ⟨ps,bs,os,ha0⟩:=AeH (hval 0 26 v0 rfl rfl) h0
  have ha0:=Aoh.of ha0
  obtain ⟨k,rfl,rfl,rfl,hkb⟩:=open_int Tryz.underlying5 (hval 1 5 v1 rfl rfl) h1
  obtain ⟨hk0,hk1⟩:=bounds_u8 hkb
  obtain ⟨a0,b0,rfl,hb0,hb1,hb2,hb3⟩:=Acc (hval 2 83 v2 rfl rfl) h2
  exact AjF (vs:=[v0,.int .u8 k,.agg #[.int .u8 a0,.int .u8 b0]]) (Lf ps bs os k hk0 (by omega) a0 b0 hb0 (by omega) hb2 (by omega)) ht ((.cons_ ha0 (.cons_ (Br.val rfl) (.cons_ ⟨[.int .u8 a0,.int .u8 b0],rfl,.cons_ (Br.val rfl) (.cons_ (Br.val rfl) .nil_)⟩ .nil_))))
theorem certificateMore_row:Rows.CertificateMoreSaid :=
 OpenClaim.holds_of_wide 8 Tryz.f8 rfl rfl rfl rfl rfl rfl rfl ⟨rfl,rfl,rfl,rfl,rfl⟩ rfl rfl rfl rfl rfl (by kernel_rfl) Tryz.func8 (by kernel_rfl)
  (of_decide_eq_true (by kernel_rfl)) (by unfold Func.isWrapper;first|(rw [if_pos (by decide +kernel)];kernel_rfl)|(rw [if_neg (by decide +kernel)];exact ⟨rfl,rfl⟩))
  (fun os started H enc _=>certificateMore_lifted os started H enc)
theorem certificateMore_holds:Rows.CertificateMoreCardSaid :=
 Claim7.holds_tied_plain_at .later [] [.data] true (true, "84e4f5157dc3677255f173f895fd04f405d20eee304d1722abbc57dece96271a") true
  certificateMore_row (fun _ h=>by cases h) (by kernel_rfl) (fun _ h=>by cases h) certificateMore_row_tie rfl ⟨rfl,rfl⟩ (by kernel_rfl) rfl
  (fun f fn hf hfn=>by
   obtain rfl : f = 8 := Option.some.inj ((show Tryz.prog.funcNamed "commutator/commutatorlaw16.CertificateMore" = some 8 by kernel_rfl).symm.trans hf) |>.symm
   obtain rfl:fn=Tryz.f8:=(Option.some.inj (Tryz.func8.symm.trans hfn)).symm
   exact ⟨by kernel_rfl,fun j t ht=>by
    rw [Tryz.params8] at ht
    have hm:t∈[26,5,83]:=by simpa using Array.mem_of_getElem? ht
    have hall:([26,5,83].all fun u=>!Tryz.prog.wantsStandIn u)=true:=by kernel_rfl
    exact (show Tryz.prog.wantsStandIn t=false by simpa using List.all_eq_true.1 hall t hm)⟩)
  (by kernel_rfl)
#print axioms certificateMore_holds
end Go.Proofs.YtmdfjbpggbhgnaaGreatDoor
