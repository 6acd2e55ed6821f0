/- ExactValues: for every scalar the law returns true: its value, or the error, is that of the document. No conditions. -/
import Derived.Test.YtfooonellkgaeaaDoorKd15
import Derived.Test.YtfooonellkgaeaaDoorKd16
import Derived.Test.YtfooonellkgaeaaDoorKd17
set_option linter.unusedVariables false
set_option linter.unusedSimpArgs false
set_option linter.unusedSectionVars false
namespace Go.Proofs.YtfooonellkgaeaaDoor
open Go.ChangeShapes Go.WideShapes Go.ChangeAt Go.RowKit Go.Joins
section
variable {H : Type} {enc : TypeId × Value → H} {w : World} {spare : Nat → Bool} {held : Bool}
set_option maxRecDepth 100000 in
theorem open_scE {r : Go.Reach} {b0 : Nat} {v : Value} {d : DataW H} {p : List MemPlace} (hv : Value.okWide Tryd.prog w r b0 23 v) (h : DataW.Trod enc Tryd.prog w 0 spare held 23 v d p) :
    ∃ n e : Int, v = .agg #[.int .i64 n, .int .i64 e] := by
  obtain ⟨v0, v1, y0, y1, m, rfl, rfl, rfl, g0, g1⟩ := open_agg2 Tryd.underlying23 (by kernel_rfl) (by kernel_rfl) hv h
  obtain ⟨x0, e0, _, _⟩ := DataW.trod_int Tryd.underlying3 g0
  obtain ⟨x1, e1, _, _⟩ := DataW.trod_int Tryd.underlying3 g1
  exact ⟨x0, x1, by simp_all⟩
end
set_option maxRecDepth 100000 in
set_option maxHeartbeats 4000000 in
theorem exactValues_lifted (os : Os) (started : os.Started) (H : Type) (enc : TypeId × Value → H) :
    ReturnsInHanded {} Tryd.checked os 3 .any (fun w args => (Rows.exactValuesSpec.pre enc Tryd.prog Tryd.f3 [] false w args ∧ laidMetH Tryd.prog laidT w) ∧ sizedMet enc Tryd.prog Tryd.f3 (OpenSpec.ofChange Rows.exactValuesSpec) false w args)
      (Rows.exactValuesSpec.post enc Tryd.prog Tryd.f3 false true false false) := by
  refine law_lift_laid (C := Tryd.checked) (T := 4) own started (by kernel_rfl) Tryd.func3
    (ChangeSpec.witness_shaped (enc := enc) (C := Tryd.checked) (os := os) (X := fun w _ => laidMetH Tryd.prog laidT w) false (World.doorLaid Tryd.prog 400 os) #[.agg #[.int .i64 0, .int .i64 0]] 8 rfl (door_shaped os _) (by kernel_rfl) (by kernel_rfl) (by kernel_rfl) (door_met os _))
    laidOut (by kernel_rfl) rfl Tryd.underlying4 (by kernel_rfl) ?_ ?_
  · intro ds h
    match ds, h with
    | [d1], _ => exact ⟨rfl, rfl, rfl⟩
  · intro W base args ds p hval0 hA0 _ hsz0 hL
    have ht := tab_of hL
    have hval : ∀ (j : Nat) t v, Tryd.f3.params[j]? = some t → args[j]? = some v → Value.okWide Tryd.prog W .any base t v := hval0
    have hA : DataW.TrodAll enc Tryd.prog W 0 (fun _ => true) true Tryd.f3.params.toList args.toList ds p := hA0
    clear hsz0 hL
    rw [Tryd.params3] at hA hval
    obtain ⟨v0, vs0, d0, ds0, p0, q0, hargs, rfl, rfl, h0, r0⟩ := trodAll_cons hA
    obtain ⟨rfl, rfl, rfl⟩ := trodAll_nil r0
    obtain rfl : args = #[v0] := by cases args; simp_all
    obtain ⟨n, e, rfl⟩ := open_scE (hval 0 23 v0 rfl rfl) h0
    exact cv_lawA (vs := [.agg #[.int .i64 n, .int .i64 e]]) (exactValues_cv n e) ht ((.cons_ ⟨[.int .i64 n, .int .i64 e], rfl, .cons_ (DRel.val rfl) (.cons_ (DRel.val rfl) .nil_)⟩ .nil_))
theorem exactValues_row : Rows.ExactValuesSaid :=
  OpenClaim.holds_of_wide 3 Tryd.f3 rfl rfl rfl rfl rfl rfl rfl ⟨rfl, rfl, rfl, rfl, rfl⟩ rfl rfl rfl rfl rfl (by kernel_rfl) Tryd.func3 (by kernel_rfl)
    (of_decide_eq_true (by kernel_rfl)) (by unfold Func.isWrapper; first | (rw [if_pos (by decide +kernel)]; kernel_rfl) | (rw [if_neg (by decide +kernel)]; exact ⟨rfl, rfl⟩))
    (fun os started H enc _ => exactValues_lifted os started H enc)
theorem exactValues_holds : Rows.ExactValuesCardSaid :=
  Claim7.holds_tied_plain_at .later [] [.data] true (true, "b37620059cb9cbce9a96b1cef21999fd5730b440cf5ac2fac6883bebb95c0210") true
    exactValues_row (fun _ h => by cases h) (by kernel_rfl) (fun _ h => by cases h) exactValues_row_tie rfl ⟨rfl, rfl⟩ (by kernel_rfl) rfl
    (fun f fn hf hfn => by
      obtain rfl : f = 3 := Option.some.inj ((show Tryd.prog.funcNamed "commutator/commutatorlaw11.ExactValues" = some 3 by kernel_rfl).symm.trans hf) |>.symm
      obtain rfl : fn = Tryd.f3 := (Option.some.inj (Tryd.func3.symm.trans hfn)).symm
      exact ⟨by kernel_rfl, fun j t ht => by
        rw [Tryd.params3] at ht
        have hm : t ∈ [23] := by simpa using Array.mem_of_getElem? ht
        have hall : ([23].all fun u => !Tryd.prog.wantsStandIn u) = true := by kernel_rfl
        exact (show Tryd.prog.wantsStandIn t = false by simpa using List.all_eq_true.1 hall t hm)⟩)
    (by kernel_rfl)
#print axioms exactValues_holds
end Go.Proofs.YtfooonellkgaeaaDoor
