/- RangesContain: for every diagram, any invariants, states in them and inputs the law returns true: all values of the tick are in the ranges. No conditions. -/
import Derived.Test.YtilbehepmkpdbaaGreatDoorKm18
import Derived.Test.YtilbehepmkpdbaaGreatDoorKm19
set_option linter.unusedVariables false
set_option linter.unusedSimpArgs false
set_option linter.unusedSectionVars false
namespace Go.Proofs.YtilbehepmkpdbaaGreatDoor
open Go.ChangeShapes Go.WideShapes Go.ChangeAt Go.RowKit Go.Joins
set_option maxRecDepth 100000 in
set_option maxHeartbeats 4000000 in
theorem rangesContain_lifted (os : Os) (started : os.Started) (H : Type) (enc : TypeId × Value → H) :
    ReturnsInHanded {} Tryz.checked os 7 .any (fun w args => (Rows.rangesContainSpec.pre enc Tryz.prog Tryz.f7 [] false w args ∧ laidMetH Tryz.prog laidT w) ∧ sizedMet enc Tryz.prog Tryz.f7 (OpenSpec.ofChange Rows.rangesContainSpec) false w args)
      (Rows.rangesContainSpec.post enc Tryz.prog Tryz.f7 false true false false) := by
  refine law_lift_laid (C := Tryz.checked) (T := 4) own started (by kernel_rfl) Tryz.func7
    (ChangeSpec.witness_shaped (enc := enc) (C := Tryz.checked) (os := os) (X := fun w _ => laidMetH Tryz.prog laidT w) false (World.doorLaid Tryz.prog 400 os) #[.agg #[.slice none 0 0, .slice none 0 0, .slice none 0 0], .agg #[.slice none 0 0, .slice none 0 0], .slice none 0 0] 8 rfl (door_shaped os _) (by kernel_rfl) (by kernel_rfl) (by kernel_rfl) (door_met os _))
    laidOut (by kernel_rfl) rfl Tryz.underlying4 (by kernel_rfl) ?_ ?_
  · intro ds h
    match ds, h with
    | [d1, d2, d3], _ => exact ⟨rfl, rfl, rfl⟩
  · intro W base args ds p hval0 hA0 _ hsz0 hL
    have ht := tab_of hL
    have hval : ∀ (j : Nat) t v, Tryz.f7.params[j]? = some t → args[j]? = some v → Value.okWide Tryz.prog W .any base t v := hval0
    have hA : DataW.TrodAll enc Tryz.prog W 0 (fun _ => true) true Tryz.f7.params.toList args.toList ds p := hA0
    clear hsz0 hL
    rw [Tryz.params7] at hA hval
    obtain ⟨v0, vs0, d0, ds0, p0, q0, hargs, rfl, rfl, h0, r0⟩ := trodAll_cons hA
    obtain ⟨v1, vs1, d1, ds1, p1, q1, rfl, rfl, rfl, h1, r1⟩ := trodAll_cons r0
    obtain ⟨v2, vs2, d2, ds2, p2, q2, rfl, rfl, rfl, h2, r2⟩ := trodAll_cons r1
    obtain ⟨rfl, rfl, rfl⟩ := trodAll_nil r2
    obtain rfl : args = #[v0, v1, v2] := by cases args; simp_all
    obtain ⟨ps, bs, os, ha0⟩ := open_dgA (hval 0 26 v0 rfl rfl) h0
    have ha0 := AllF.of ha0
    obtain ⟨qs, zs, ha1, hw1, hn1, hz1, hm1⟩ := open_state (hval 1 73 v1 rfl rfl) h1
    obtain ⟨ins, ha2⟩ := open_intsA (hval 2 24 v2 rfl rfl) h2
    have ha2 := AllF.of ha2
    exact cv_lawA (vs := [v0, v1, v2]) (rangesContain_cv ps bs os qs (fun q hq => ⟨(hw1 q hq).1.1, (hw1 q hq).2.1⟩) hn1 zs hz1 hm1 ins) ht ((.cons_ ha0 (.cons_ ha1 (.cons_ ha2 .nil_))))
theorem rangesContain_row : Rows.RangesContainSaid :=
  OpenClaim.holds_of_wide 7 Tryz.f7 rfl rfl rfl rfl rfl rfl rfl ⟨rfl, rfl, rfl, rfl, rfl⟩ rfl rfl rfl rfl rfl (by kernel_rfl) Tryz.func7 (by kernel_rfl)
    (of_decide_eq_true (by kernel_rfl)) (by unfold Func.isWrapper; first | (rw [if_pos (by decide +kernel)]; kernel_rfl) | (rw [if_neg (by decide +kernel)]; exact ⟨rfl, rfl⟩))
    (fun os started H enc _ => rangesContain_lifted os started H enc)
theorem rangesContain_holds : Rows.RangesContainCardSaid :=
  Claim7.holds_tied_plain_at .later [] [.data] true (true, "53108648810b8a68fd825fb6b76142e3d7bbbc47fb9158463fe9ab25238d9b88") true
    rangesContain_row (fun _ h => by cases h) (by kernel_rfl) (fun _ h => by cases h) rangesContain_row_tie rfl ⟨rfl, rfl⟩ (by kernel_rfl) rfl
    (fun f fn hf hfn => by
      obtain rfl : f = 7 := Option.some.inj ((show Tryz.prog.funcNamed "commutator/commutatorlaw12.RangesContain" = some 7 by kernel_rfl).symm.trans hf) |>.symm
      obtain rfl : fn = Tryz.f7 := (Option.some.inj (Tryz.func7.symm.trans hfn)).symm
      exact ⟨by kernel_rfl, fun j t ht => by
        rw [Tryz.params7] at ht
        have hm : t ∈ [26, 73, 24] := by simpa using Array.mem_of_getElem? ht
        have hall : ([26, 73, 24].all fun u => !Tryz.prog.wantsStandIn u) = true := by kernel_rfl
        exact (show Tryz.prog.wantsStandIn t = false by simpa using List.all_eq_true.1 hall t hm)⟩)
    (by kernel_rfl)
#print axioms rangesContain_holds
end Go.Proofs.YtilbehepmkpdbaaGreatDoor
