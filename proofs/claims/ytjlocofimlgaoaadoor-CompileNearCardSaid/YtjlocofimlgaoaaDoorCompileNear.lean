/- CompileNear: for every diagram, all scales and all inputs the law returns true: without an overflow each block's cell is near the exact result of its operation on its arguments' cells. No conditions. -/
import Derived.Test.YtjlocofimlgaoaaDoorNrF
import Derived.Test.YtjlocofimlgaoaaDoorVsW
import Derived.Test.YtjlocofimlgaoaaDoorDoor
namespace Go.Proofs.YtjlocofimlgaoaaDoor
set_option linter.unusedVariables false
set_option linter.unusedSimpArgs false
set_option linter.unusedSectionVars false
open Go.ChangeShapes Go.WideShapes Go.ChangeAt Go.RowKit Go.Joins

theorem cv_lawN {f : FuncId} {args : List A} (h : CV Tryd.prog TabAt f args [aB true]) {w : World} (ht : TabAt w) {vs : List Value} (ha : LRel (ARel w (fun t b => t = true ∧ b < w.heap.size)) args vs) :
    Calls Tryd.prog f vs.toArray w fun e w' => e = .returned (.bool true) ∧ Below w.heap.size w w' :=
  (h w _ vs ht (fun t b hb => hb.2) ha).mono fun e w' ⟨v, h1, h2, h3⟩ => by
    have h4 : DRel w' _ (dB true) v := h2
    cases h4
    exact ⟨h1, h3⟩
theorem compileNear_walk {w : World} (ht : TabAt w) {ps : List Prt} {bs : List Bk} {os F inn : List Int} {v0 v1 v2 : Value} (h0 : ARel w (AllS w) (aDg true ps bs os) v0) (h1 : ARel w (AllS w) (.one (rowI true F)) v1) (h2 : ARel w (AllS w) (.one (rowI true inn)) v2) : Calls Tryd.prog 6 #[v0, v1, v2] w fun e w' => e = .returned (.bool true) ∧ Below w.heap.size w w' :=
  cv_lawN (vs := [v0, v1, v2]) (compileNear_cv ps bs os F inn) ht (.cons_ h0 (.cons_ h1 (.cons_ h2 .nil_)))
set_option maxRecDepth 100000 in
set_option maxHeartbeats 4000000 in
theorem compileNear_lifted (os : Os) (started : os.Started) (H : Type) (enc : TypeId × Value → H) :
    ReturnsInHanded {} Tryd.checked os 6 .any (fun w args => (Rows.compileNearSpec.pre enc Tryd.prog Tryd.f6 [] false w args ∧ laidMetH Tryd.prog laidT w) ∧ sizedMet enc Tryd.prog Tryd.f6 (OpenSpec.ofChange Rows.compileNearSpec) false w args)
      (Rows.compileNearSpec.post enc Tryd.prog Tryd.f6 false true false false) := by
  refine law_lift_laid (C := Tryd.checked) (T := 4) own started (by kernel_rfl) Tryd.func6
    (ChangeSpec.witness_shaped (enc := enc) (C := Tryd.checked) (os := os) (X := fun w _ => laidMetH Tryd.prog laidT w) false (World.doorLaid Tryd.prog 400 os) #[.agg #[.slice none 0 0, .slice none 0 0, .slice none 0 0], .slice none 0 0, .slice none 0 0] 8 rfl (door_shaped os _) (by kernel_rfl) (by kernel_rfl) (by kernel_rfl) (door_met os _))
    laidOut (by kernel_rfl) rfl Tryd.underlying4 (by kernel_rfl) ?_ ?_
  · intro ds h
    match ds, h with
    | [d1, d2, d3], _ => exact ⟨rfl, rfl, rfl⟩
  · intro W base args ds p hval0 hA0 _ hsz0 hL
    have ht := tab_of hL
    have hval : ∀ (j : Nat) t v, Tryd.f6.params[j]? = some t → args[j]? = some v → Value.okWide Tryd.prog W .any base t v := hval0
    have hA : DataW.TrodAll enc Tryd.prog W 0 (fun _ => true) true Tryd.f6.params.toList args.toList ds p := hA0
    clear hsz0 hL
    rw [Tryd.params6] at hA hval
    obtain ⟨v0, vs0, d0, ds0, p0, q0, hargs, rfl, rfl, h0, r0⟩ := trodAll_cons hA
    obtain ⟨v1, vs1, d1, ds1, p1, q1, rfl, rfl, rfl, h1, r1⟩ := trodAll_cons r0
    obtain ⟨v2, vs2, d2, ds2, p2, q2, rfl, rfl, rfl, h2, r2⟩ := trodAll_cons r1
    obtain ⟨rfl, rfl, rfl⟩ := trodAll_nil r2
    obtain rfl : args = #[v0, v1, v2] := by cases args; simp_all
    obtain ⟨ps, bs, os, ha0⟩ := open_dgA (hval 0 46 v0 rfl rfl) h0
    obtain ⟨F, ha1⟩ := open_intsA (hval 1 44 v1 rfl rfl) h1
    obtain ⟨inn, ha2⟩ := open_intsA (hval 2 44 v2 rfl rfl) h2
    exact compileNear_walk ht ha0 ha1 ha2
theorem compileNear_row : Rows.CompileNearSaid :=
  OpenClaim.holds_of_wide 6 Tryd.f6 rfl rfl rfl rfl rfl rfl rfl ⟨rfl, rfl, rfl, rfl, rfl⟩ rfl rfl rfl rfl rfl (by kernel_rfl) Tryd.func6 (by kernel_rfl)
    (of_decide_eq_true (by kernel_rfl)) (by unfold Func.isWrapper; first | (rw [if_pos (by decide +kernel)]; kernel_rfl) | (rw [if_neg (by decide +kernel)]; exact ⟨rfl, rfl⟩))
    (fun os started H enc _ => compileNear_lifted os started H enc)
theorem compileNear_holds : Rows.CompileNearCardSaid :=
  Claim7.holds_tied_plain_at .later [] [.data] true (true, "01add0c9c9bfc198abe3cb869df26a2f98112188c10b66011af3476e33b567fc") true
    compileNear_row (fun _ h => by cases h) (by kernel_rfl) (fun _ h => by cases h) compileNear_row_tie rfl ⟨rfl, rfl⟩ (by kernel_rfl) rfl
    (fun f fn hf hfn => by
      obtain rfl : f = 6 := Option.some.inj ((show Tryd.prog.funcNamed "commutator/commutatorlaw15.CompileNear" = some 6 by kernel_rfl).symm.trans hf) |>.symm
      obtain rfl : fn = Tryd.f6 := (Option.some.inj (Tryd.func6.symm.trans hfn)).symm
      exact ⟨by kernel_rfl, fun j t ht => by
        rw [Tryd.params6] at ht
        have hm : t ∈ [46, 44, 44] := by simpa using Array.mem_of_getElem? ht
        have hall : ([46, 44, 44].all fun u => !Tryd.prog.wantsStandIn u) = true := by kernel_rfl
        exact (show Tryd.prog.wantsStandIn t = false by simpa using List.all_eq_true.1 hall t hm)⟩)
    (by kernel_rfl)
#print axioms compileNear_holds

end Go.Proofs.YtjlocofimlgaoaaDoor
