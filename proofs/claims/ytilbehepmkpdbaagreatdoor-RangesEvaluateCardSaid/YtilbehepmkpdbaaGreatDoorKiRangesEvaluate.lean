/- RangesEvaluate: for every diagram and any invariants the law returns true: the ranges, whether they are closed, or the first error, are those of the document. No conditions. -/
import Derived.Test.YtilbehepmkpdbaaGreatDoorKi19
import Derived.Test.YtilbehepmkpdbaaGreatDoorKi20
set_option linter.unusedVariables false
set_option linter.unusedSimpArgs false
set_option linter.unusedSectionVars false
namespace Go.Proofs.YtilbehepmkpdbaaGreatDoor
open Go.ChangeShapes Go.WideShapes Go.ChangeAt Go.RowKit Go.Joins
set_option maxRecDepth 100000 in
set_option maxHeartbeats 4000000 in
theorem rangesEvaluate_lifted (os : Os) (started : os.Started) (H : Type) (enc : TypeId × Value → H) :
    ReturnsInHanded {} Tryz.checked os 3 .any (fun w args => (Rows.rangesEvaluateSpec.pre enc Tryz.prog Tryz.f3 [] false w args ∧ laidMetH Tryz.prog laidT w) ∧ sizedMet enc Tryz.prog Tryz.f3 (OpenSpec.ofChange Rows.rangesEvaluateSpec) false w args)
      (Rows.rangesEvaluateSpec.post enc Tryz.prog Tryz.f3 false true false false) := by
  refine law_lift_laid (C := Tryz.checked) (T := 4) own started (by kernel_rfl) Tryz.func3
    (ChangeSpec.witness_shaped (enc := enc) (C := Tryz.checked) (os := os) (X := fun w _ => laidMetH Tryz.prog laidT w) false (World.doorLaid Tryz.prog 400 os) #[.agg #[.slice none 0 0, .slice none 0 0, .slice none 0 0], .slice none 0 0] 8 rfl (door_shaped os _) (by kernel_rfl) (by kernel_rfl) (by kernel_rfl) (door_met os _))
    laidOut (by kernel_rfl) rfl Tryz.underlying4 (by kernel_rfl) ?_ ?_
  · intro ds h
    match ds, h with
    | [d1, d2], _ => exact ⟨rfl, rfl, rfl⟩
  · intro W base args ds p hval0 hA0 _ hsz0 hL
    have ht := tab_of hL
    have hval : ∀ (j : Nat) t v, Tryz.f3.params[j]? = some t → args[j]? = some v → Value.okWide Tryz.prog W .any base t v := hval0
    have hA : DataW.TrodAll enc Tryz.prog W 0 (fun _ => true) true Tryz.f3.params.toList args.toList ds p := hA0
    clear hsz0 hL
    rw [Tryz.params3] at hA hval
    obtain ⟨v0, vs0, d0, ds0, p0, q0, hargs, rfl, rfl, h0, r0⟩ := trodAll_cons hA
    obtain ⟨v1, vs1, d1, ds1, p1, q1, rfl, rfl, rfl, h1, r1⟩ := trodAll_cons r0
    obtain ⟨rfl, rfl, rfl⟩ := trodAll_nil r1
    obtain rfl : args = #[v0, v1] := by cases args; simp_all
    obtain ⟨ps, bs, os, ha0⟩ := open_dgA (hval 0 26 v0 rfl rfl) h0
    have ha0 := AllF.of ha0
    obtain ⟨qs, ha1, hw1, hn1⟩ := open_ivs false (hval 1 27 v1 rfl rfl) h1
    exact cv_lawA (vs := [v0, v1]) (rangesEvaluate_cv ps bs os qs (fun q hq => ⟨(hw1 q hq).1.1, (hw1 q hq).2.1⟩) hn1) ht ((.cons_ ha0 (.cons_ ha1 .nil_)))
theorem rangesEvaluate_row : Rows.RangesEvaluateSaid :=
  OpenClaim.holds_of_wide 3 Tryz.f3 rfl rfl rfl rfl rfl rfl rfl ⟨rfl, rfl, rfl, rfl, rfl⟩ rfl rfl rfl rfl rfl (by kernel_rfl) Tryz.func3 (by kernel_rfl)
    (of_decide_eq_true (by kernel_rfl)) (by unfold Func.isWrapper; first | (rw [if_pos (by decide +kernel)]; kernel_rfl) | (rw [if_neg (by decide +kernel)]; exact ⟨rfl, rfl⟩))
    (fun os started H enc _ => rangesEvaluate_lifted os started H enc)
theorem rangesEvaluate_holds : Rows.RangesEvaluateCardSaid :=
  Claim7.holds_tied_plain_at .later [] [.data] true (true, "53108648810b8a68fd825fb6b76142e3d7bbbc47fb9158463fe9ab25238d9b88") true
    rangesEvaluate_row (fun _ h => by cases h) (by kernel_rfl) (fun _ h => by cases h) rangesEvaluate_row_tie rfl ⟨rfl, rfl⟩ (by kernel_rfl) rfl
    (fun f fn hf hfn => by
      obtain rfl : f = 3 := Option.some.inj ((show Tryz.prog.funcNamed "commutator/commutatorlaw12.RangesEvaluate" = some 3 by kernel_rfl).symm.trans hf) |>.symm
      obtain rfl : fn = Tryz.f3 := (Option.some.inj (Tryz.func3.symm.trans hfn)).symm
      exact ⟨by kernel_rfl, fun j t ht => by
        rw [Tryz.params3] at ht
        have hm : t ∈ [26, 27] := by simpa using Array.mem_of_getElem? ht
        have hall : ([26, 27].all fun u => !Tryz.prog.wantsStandIn u) = true := by kernel_rfl
        exact (show Tryz.prog.wantsStandIn t = false by simpa using List.all_eq_true.1 hall t hm)⟩)
    (by kernel_rfl)
#print axioms rangesEvaluate_holds
end Go.Proofs.YtilbehepmkpdbaaGreatDoor
