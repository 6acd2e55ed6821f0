/- CompileFine: for every scalar and every number of bits the law returns true: the raw number is the greatest that is at most the scalar, and one bit more makes it twice as much, or one more than that. No conditions. -/
import Derived.Test.YtjlocofimlgaoaaDoorCwL
import Derived.Test.YtjlocofimlgaoaaDoorDoor
namespace Go.Proofs.YtjlocofimlgaoaaDoor
set_option linter.unusedVariables false
set_option linter.unusedSimpArgs false
set_option linter.unusedSectionVars false
open Go.ChangeShapes Go.WideShapes Go.ChangeAt Go.RowKit Go.Joins

theorem cv_lawF {f : FuncId} {args : List A} (h : CV Tryd.prog TabAt f args [aB true]) {w : World} (ht : TabAt w) {vs : List Value} (ha : LRel (ARel w (fun t b => t = true ∧ b < w.heap.size)) args vs) :
    Calls Tryd.prog f vs.toArray w fun e w' => e = .returned (.bool true) ∧ Below w.heap.size w w' :=
  (h w _ vs ht (fun t b hb => hb.2) ha).mono fun e w' ⟨v, h1, h2, h3⟩ => by
    have h4 : DRel w' _ (dB true) v := h2
    cases h4
    exact ⟨h1, h3⟩
section
variable {H : Type} {enc : TypeId × Value → H} {w : World} {spare : Nat → Bool} {held : Bool}
set_option maxRecDepth 100000 in
theorem open_scF {r : Go.Reach} {b0 : Nat} {v : Value} {d : DataW H} {p : List MemPlace} (hv : Value.okWide Tryd.prog w r b0 23 v) (h : DataW.Trod enc Tryd.prog w 0 spare held 23 v d p) :
    ∃ n e : Int, v = .agg #[.int .i64 n, .int .i64 e] := by
  obtain ⟨v0, v1, y0, y1, m, rfl, rfl, rfl, g0, g1⟩ := open_agg2 Tryd.underlying23 (by kernel_rfl) (by kernel_rfl) hv h
  obtain ⟨x0, e0, _, _⟩ := DataW.trod_int Tryd.underlying3 g0
  obtain ⟨x1, e1, _, _⟩ := DataW.trod_int Tryd.underlying3 g1
  exact ⟨x0, x1, by simp_all⟩
end
theorem compileFine_walk (n e f : Int) (f0 : 0 ≤ f) (f1 : f ≤ 255) (w : World) (ht : TabAt w) : Calls Tryd.prog 4 #[.agg #[.int .i64 n, .int .i64 e], .int .u8 f] w fun e w' => e = .returned (.bool true) ∧ Below w.heap.size w w' :=
  cv_lawF (vs := [.agg #[.int .i64 n, .int .i64 e], .int .u8 f]) (compileFine_cv n e f f0 f1) ht (.cons_ ⟨[.int .i64 n, .int .i64 e], rfl, .cons_ (DRel.val rfl) (.cons_ (DRel.val rfl) .nil_)⟩ (.cons_ (DRel.val rfl) .nil_))
set_option maxRecDepth 100000 in
set_option maxHeartbeats 4000000 in
theorem compileFine_lifted (os : Os) (started : os.Started) (H : Type) (enc : TypeId × Value → H) :
    ReturnsInHanded {} Tryd.checked os 4 .any (fun w args => (Rows.compileFineSpec.pre enc Tryd.prog Tryd.f4 [] false w args ∧ laidMetH Tryd.prog laidT w) ∧ sizedMet enc Tryd.prog Tryd.f4 (OpenSpec.ofChange Rows.compileFineSpec) false w args)
      (Rows.compileFineSpec.post enc Tryd.prog Tryd.f4 false true false false) := by
  refine law_lift_laid (C := Tryd.checked) (T := 4) own started (by kernel_rfl) Tryd.func4
    (ChangeSpec.witness_shaped (enc := enc) (C := Tryd.checked) (os := os) (X := fun w _ => laidMetH Tryd.prog laidT w) false (World.doorLaid Tryd.prog 400 os) #[.agg #[.int .i64 0, .int .i64 0], .int .u8 0] 8 rfl (door_shaped os _) (by kernel_rfl) (by kernel_rfl) (by kernel_rfl) (door_met os _))
    laidOut (by kernel_rfl) rfl Tryd.underlying4 (by kernel_rfl) ?_ ?_
  · intro ds h
    match ds, h with
    | [d1, d2], _ => exact ⟨rfl, rfl, rfl⟩
  · intro W base args ds p hval0 hA0 _ hsz0 hL
    have ht := tab_of hL
    have hval : ∀ (j : Nat) t v, Tryd.f4.params[j]? = some t → args[j]? = some v → Value.okWide Tryd.prog W .any base t v := hval0
    have hA : DataW.TrodAll enc Tryd.prog W 0 (fun _ => true) true Tryd.f4.params.toList args.toList ds p := hA0
    clear hsz0 hL
    rw [Tryd.params4] at hA hval
    obtain ⟨v0, vs0, d0, ds0, p0, q0, hargs, rfl, rfl, h0, r0⟩ := trodAll_cons hA
    obtain ⟨v1, vs1, d1, ds1, p1, q1, rfl, rfl, rfl, h1, r1⟩ := trodAll_cons r0
    obtain ⟨rfl, rfl, rfl⟩ := trodAll_nil r1
    obtain rfl : args = #[v0, v1] := by cases args; simp_all
    obtain ⟨n, e, rfl⟩ := open_scF (hval 0 23 v0 rfl rfl) h0
    obtain ⟨z, rfl, rfl, rfl, hzb⟩ := open_int Tryd.underlying5 (hval 1 5 v1 rfl rfl) h1
    obtain ⟨hz0, hz1⟩ := bounds_u8 hzb
    exact compileFine_walk n e z hz0 hz1 W ht
theorem compileFine_row : Rows.CompileFineSaid :=
  OpenClaim.holds_of_wide 4 Tryd.f4 rfl rfl rfl rfl rfl rfl rfl ⟨rfl, rfl, rfl, rfl, rfl⟩ rfl rfl rfl rfl rfl (by kernel_rfl) Tryd.func4 (by kernel_rfl)
    (of_decide_eq_true (by kernel_rfl)) (by unfold Func.isWrapper; first | (rw [if_pos (by decide +kernel)]; kernel_rfl) | (rw [if_neg (by decide +kernel)]; exact ⟨rfl, rfl⟩))
    (fun os started H enc _ => compileFine_lifted os started H enc)
theorem compileFine_holds : Rows.CompileFineCardSaid :=
  Claim7.holds_tied_plain_at .later [] [.data] true (true, "01add0c9c9bfc198abe3cb869df26a2f98112188c10b66011af3476e33b567fc") true
    compileFine_row (fun _ h => by cases h) (by kernel_rfl) (fun _ h => by cases h) compileFine_row_tie rfl ⟨rfl, rfl⟩ (by kernel_rfl) rfl
    (fun f fn hf hfn => by
      obtain rfl : f = 4 := Option.some.inj ((show Tryd.prog.funcNamed "commutator/commutatorlaw15.CompileFine" = some 4 by kernel_rfl).symm.trans hf) |>.symm
      obtain rfl : fn = Tryd.f4 := (Option.some.inj (Tryd.func4.symm.trans hfn)).symm
      exact ⟨by kernel_rfl, fun j t ht => by
        rw [Tryd.params4] at ht
        have hm : t ∈ [23, 5] := by simpa using Array.mem_of_getElem? ht
        have hall : ([23, 5].all fun u => !Tryd.prog.wantsStandIn u) = true := by kernel_rfl
        exact (show Tryd.prog.wantsStandIn t = false by simpa using List.all_eq_true.1 hall t hm)⟩)
    (by kernel_rfl)
#print axioms compileFine_holds

end Go.Proofs.YtjlocofimlgaoaaDoor
