/- PiSteps: for every configuration, state and error the law returns true: Step is the document's. No conditions. -/
import Derived.Test.YthcnepmimoldhaaE
namespace Go.Proofs.Ythcnepmimoldhaa
open Go.ChangeShapes Go.WideShapes Go.ChangeAt Go.RowKit Go.Joins

set_option maxHeartbeats 1000000 in
theorem piSteps_walk (a b c d s e : Int) (w : World) :
    Calls Try.prog 3 #[.agg #[.int .i64 a, .int .i64 b, .int .i64 c, .int .i64 d], .agg #[.int .i64 s], .int .i64 e] w fun r w' => r = .returned (.bool true) ∧ Below w.heap.size w w' := by
  by_cases hok : okC a b c d
  · have HOK : Hid (okC a b c d) := hok
    clear hok
    go_enter Try.func3, Try.ntmps3
    go_wp2_with (first
      | (go_at_call 8; refine (awake_any _).mono ?_; rintro e w1 ⟨rfl, hb1⟩; obtain ⟨hc1, hf1, hs1, hz1⟩ := ext_at (m := w.heap.size + 2) hb1 (by simp) (by simp))
      | (go_at_call 9; refine (step_ok _ _ _ _ _ _ _ HOK.out).mono ?_; rintro e w2 ⟨rfl, hb2⟩; obtain ⟨hc2, hf2, hs2, hz2⟩ := ext_at (m := w.heap.size + 2) hb2 hz1 hz1)
      | (go_at_call 10; refine (rstep_ok _ _ _ _ _ _ _ HOK.out).mono ?_; rintro e w3 ⟨rfl, hb3⟩; obtain ⟨hc3, hf3, hs3, hz3⟩ := ext_at (m := w2.heap.size + 1) hb3 (by simp) (by simp)))
    have q0 : w.heap.size < w3.heap.size + 1 := by omega
    have q1 : w.heap.size + 1 < w3.heap.size + 1 := by omega
    have q2 : w2.heap.size < w3.heap.size + 1 := by omega
    have p0 : w.heap.size < w3.heap.size := by omega
    have p1 : w.heap.size + 1 < w3.heap.size := by omega
    have p2 : w2.heap.size < w3.heap.size := by omega
    have r0 : w.heap.size < w2.heap.size + 1 := by omega
    have r1 : w.heap.size + 1 < w2.heap.size + 1 := by omega
    refine wp_region_qext (w3.heap.size + 1) (by simp) (by kernel_rfl) (by kernel_rfl) ?_
    intro _
    repeat (go_big_quiet_step ((first | (go_at_call 12; exact qext_call (check_ok HOK.out _)) | (go_at_call 11; exact qext_same (num_nil _)) | (go_at_call 13; exact qext_call (rcheck_ok HOK.out _)))))
    refine wpQuiet_nil ?_
    intro w4 hw'
    obtain ⟨⟨_, hb4, hz4⟩, rfl⟩ := hw'
    go_wp2
    go_ret
    refine ⟨rfl, ?_⟩
    have k1 := ext_trans (ext_alloc (ext_alloc (Below.refl _ _) _) _) hb1
    have k2 := ext_alloc (ext_trans k1 hb2) (.cells #[.int .i64 (stepS a b c d s e)] 25)
    have k3 := ext_alloc (ext_trans k2 hb3) (.cells #[.int .i64 (stepS a b c d s e)] 25)
    exact k3.trans (hb4.mono (by have := k3.size; simp at this; omega))
  · have HOK : Hid (¬ okC a b c d) := hok
    clear hok
    go_enter Try.func3, Try.ntmps3
    go_wp2_with (first
      | (go_at_call 8; refine (awake_any _).mono ?_; rintro e w1 ⟨rfl, hb1⟩; obtain ⟨hc1, hf1, hs1, hz1⟩ := ext_at (m := w.heap.size + 2) hb1 (by simp) (by simp))
      | (go_at_call 9; refine (step_bad _ _ _ _ _ _ _ HOK.out).mono ?_; rintro e w2 ⟨rfl, hb2⟩; obtain ⟨hc2, hf2, hs2, hz2⟩ := ext_at (m := w.heap.size + 2) hb2 hz1 hz1)
      | (go_at_call 10; refine (rstep_bad _ _ _ _ _ _ _ HOK.out).mono ?_; rintro e w3 ⟨rfl, hb3⟩; obtain ⟨hc3, hf3, hs3, hz3⟩ := ext_at (m := w2.heap.size + 1) hb3 (by simp) (by simp)))
    have q0 : w.heap.size < w3.heap.size + 1 := by omega
    have q1 : w.heap.size + 1 < w3.heap.size + 1 := by omega
    have q2 : w2.heap.size < w3.heap.size + 1 := by omega
    have p0 : w.heap.size < w3.heap.size := by omega
    have p1 : w.heap.size + 1 < w3.heap.size := by omega
    have p2 : w2.heap.size < w3.heap.size := by omega
    have r0 : w.heap.size < w2.heap.size + 1 := by omega
    have r1 : w.heap.size + 1 < w2.heap.size + 1 := by omega
    refine wp_region_qext (w3.heap.size + 1) (by simp) (by kernel_rfl) (by kernel_rfl) ?_
    intro _
    repeat (go_big_quiet_step ((first | (go_at_call 12; exact qext_call (check_bad HOK.out _)) | (go_at_call 11; exact qext_same (num_some _ _)) | (go_at_call 13; exact qext_call (rcheck_bad HOK.out _)))))
    refine wpQuiet_nil ?_
    intro w4 hw'
    obtain ⟨⟨_, hb4, hz4⟩, rfl⟩ := hw'
    go_wp2
    go_ret
    refine ⟨rfl, ?_⟩
    have k1 := ext_trans (ext_alloc (ext_alloc (Below.refl _ _) _) _) hb1
    have k2 := ext_alloc (ext_trans k1 hb2) (.cells #[.int .i64 0] 25)
    have k3 := ext_alloc (ext_trans k2 hb3) (.cells #[.int .i64 0] 25)
    exact k3.trans (hb4.mono (by have := k3.size; simp at this; omega))

theorem piSteps_lifted (os : Os) (started : os.Started) (H : Type) (enc : TypeId × Value → H) :
    ReturnsInHanded {} Try.checked os 3 .any (Rows.piStepsSpec.pre6 enc Try.prog Try.f3 Rows.piStepsRow.domain false) (Rows.piStepsSpec.post enc Try.prog Try.f3 false true false false) := by
  refine law_lift (C := Try.checked) (T := 4) own started (by kernel_rfl) Try.func3
    (ChangeSpec.witness6 (enc := enc) (C := Try.checked) false ⟨#[], #[.agg #[.int .i64 0, .int .i64 0, .int .i64 0, .int .i64 0], .agg #[.int .i64 0], .int .i64 0], []⟩ 8 (by kernel_rfl) (by kernel_rfl) (by kernel_rfl) (by kernel_rfl))
    laidOut (by kernel_rfl) rfl Try.underlying4 (by kernel_rfl) ?_ ?_
  · intro ds h
    match ds, h with
    | [d1, d2, d3], _ => exact ⟨rfl, rfl, rfl⟩
  · intro W base args ds p hval0 hA0 _ _
    have hval : ∀ (j : Nat) t v, Try.f3.params[j]? = some t → args[j]? = some v → Value.okWide Try.prog W .any base t v := hval0
    have hA : DataW.TrodAll enc Try.prog W 0 (fun _ => true) true Try.f3.params.toList args.toList ds p := hA0
    rw [Try.params3] at hA hval
    obtain ⟨v0, vs0, d0, ds0, p0, q0, hargs, rfl, rfl, h0, r0⟩ := trodAll_cons hA
    obtain ⟨v1, vs1, d1, ds1, p1, q1, rfl, rfl, rfl, h1, r1⟩ := trodAll_cons r0
    obtain ⟨v2, vs2, d2, ds2, p2, q2, rfl, rfl, rfl, h2, r2⟩ := trodAll_cons r1
    obtain ⟨rfl, rfl, rfl⟩ := trodAll_nil r2
    obtain rfl : args = #[v0, v1, v2] := by cases args; simp_all
    obtain ⟨x0, x1, x2, x3, rfl⟩ := open_cfg (hval 0 23 v0 rfl rfl) h0
    obtain ⟨x4, rfl, _, _⟩ := open_state (hval 1 25 v1 rfl rfl) h1
    obtain ⟨x5, rfl, rfl, rfl, w5⟩ := open_int Try.underlying3 (hval 2 3 v2 rfl rfl) h2
    exact piSteps_walk x0 x1 x2 x3 x4 x5 W

theorem piSteps_over : Rows.piStepsRow.holds Try.pinned (OpenSpec.ofChange Rows.piStepsSpec) :=
  OpenClaim.holds_of_wide 3 Try.f3 rfl rfl rfl rfl rfl rfl rfl ⟨rfl, rfl, rfl, rfl, rfl⟩ rfl rfl rfl rfl rfl (by kernel_rfl) Try.func3 (by kernel_rfl)
    (of_decide_eq_true (by kernel_rfl)) (by unfold Func.isWrapper; first | (rw [if_pos (by decide +kernel)]; kernel_rfl) | (rw [if_neg (by decide +kernel)]; exact ⟨rfl, rfl⟩))
    (fun os started H enc _ => piSteps_lifted os started H enc)

theorem piSteps_holds : Rows.PiStepsSaid := piSteps_over
#print axioms piSteps_holds
end Go.Proofs.Ythcnepmimoldhaa
