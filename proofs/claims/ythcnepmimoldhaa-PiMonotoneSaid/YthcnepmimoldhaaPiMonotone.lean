/- PiMonotone: for every configuration, state and two errors the law returns true: a greater error, or a greater integral, never gives a smaller output. No conditions. -/
import Derived.Test.YthcnepmimoldhaaE
import Derived.BigGuardPart
namespace Go.Proofs.Ythcnepmimoldhaa
open Go.ChangeShapes Go.WideShapes Go.ChangeAt Go.RowKit Go.Joins


set_option maxHeartbeats 2000000 in
theorem piMonotone_bad (a b c d s e f : Int) (w : World) (hok : ¬ okC a b c d) :
    Calls Try.prog 6 #[.agg #[.int .i64 a, .int .i64 b, .int .i64 c, .int .i64 d], .agg #[.int .i64 s], .agg #[.int .i64 e, .int .i64 f]] w fun r w' => r = .returned (.bool true) ∧ Below w.heap.size w w' := by
  have HOK : Hid (¬ okC a b c d) := hok
  clear hok
  go_enter Try.func6, Try.ntmps6
  go_wp2_with (first
    | (go_at_call 13; refine (rcheck_bad HOK.out _).mono ?_; rintro e w1 ⟨rfl, hb1⟩)
    | (go_at_call 8; refine (awake_any _).mono ?_; rintro e w2 ⟨rfl, hb2⟩))
  go_ret
  exact ⟨rfl, ext_trans (ext_trans (ext_alloc (ext_alloc (ext_alloc (Below.refl _ _) _) _) _) hb1) hb2⟩

set_option maxHeartbeats 4000000 in
theorem piMonotone_ok (a b c d s e f : Int) (w : World) (hok : okC a b c d) :
    Calls Try.prog 6 #[.agg #[.int .i64 a, .int .i64 b, .int .i64 c, .int .i64 d], .agg #[.int .i64 s], .agg #[.int .i64 e, .int .i64 f]] w fun r w' => r = .returned (.bool true) ∧ Below w.heap.size w w' := by
  have hok' := hok
  unfold okC at hok'
  obtain ⟨h1, h2, h3, h4, h5, h6, h7, h8⟩ := hok'
  have HOK : Hid (okC a b c d) := hok
  clear hok
  have g1 : stepO a b c d s (min e f) ≤ stepO a b c d s (max e f) := stepO_mono_e h1 h3 (by omega)
  have g2 : stepO a b c d (min s 0) e ≤ stepO a b c d (max s 0) e := stepO_mono_s (by omega)
  have g3 := (stepS_bd a b (min s 0) e h6 h7).1
  have g4 := (stepS_bd a b (max s 0) e h6 h7).2
  go_enter Try.func6, Try.ntmps6
  go_wp2_with (first
    | (go_at_call 13; refine (rcheck_ok HOK.out _).mono ?_; rintro e w1 ⟨rfl, hb1⟩; obtain ⟨hc1, hf1, hs1, hz1⟩ := ext_at (m := w.heap.size + 3) hb1 (by simp) (by simp))
    | (go_at_call 8; refine (awake_any _).mono ?_; rintro e w2 ⟨rfl, hb2⟩; obtain ⟨hc2, hf2, hs2, hz2⟩ := ext_at (m := w.heap.size + 3) hb2 hz1 hz1))
  have k2 := ext_trans (ext_trans (ext_alloc (ext_alloc (ext_alloc (Below.refl _ _) _) _) _) hb1) hb2
  refine (step_ok _ _ _ _ _ _ _ HOK.out).mono ?_
  rintro e w3 ⟨rfl, hb3⟩
  obtain ⟨hc3, hf3, hs3, hz3⟩ := ext_at (m := w.heap.size + 3) hb3 hz2 hz2
  have q30 : w.heap.size < w3.heap.size := by omega
  have q31 : w.heap.size + 1 < w3.heap.size := by omega
  have q32 : w.heap.size + 1 + 1 < w3.heap.size := by omega
  have k3 := ext_alloc (ext_trans k2 hb3) (.cells #[.int .i64 (stepS a b c d s (min e f))] 25)
  go_wp2_with fail
  refine (step_ok _ _ _ _ _ _ _ HOK.out).mono ?_
  rintro e w4 ⟨rfl, hb4⟩
  obtain ⟨hc4, hf4, hs4, hz4⟩ := ext_at (m := w.heap.size + 3) hb4 (by simp; omega) (by simp; omega)
  have q40 : w.heap.size < w4.heap.size := by omega
  have q41 : w.heap.size + 1 < w4.heap.size := by omega
  have q42 : w.heap.size + 1 + 1 < w4.heap.size := by omega
  have k4 := ext_alloc (ext_trans k3 hb4) (.cells #[.int .i64 (stepS a b c d s (max e f))] 25)
  go_wp2_with fail
  refine (step_ok _ _ _ _ _ _ _ HOK.out).mono ?_
  rintro e w5 ⟨rfl, hb5⟩
  obtain ⟨hc5, hf5, hs5, hz5⟩ := ext_at (m := w.heap.size + 3) hb5 (by simp; omega) (by simp; omega)
  have q50 : w.heap.size < w5.heap.size := by omega
  have q51 : w.heap.size + 1 < w5.heap.size := by omega
  have q52 : w.heap.size + 1 + 1 < w5.heap.size := by omega
  have k5 := ext_alloc (ext_trans k4 hb5) (.cells #[.int .i64 (stepS a b c d (min s 0) e)] 25)
  go_wp2_with fail
  refine (step_ok _ _ _ _ _ _ _ HOK.out).mono ?_
  rintro e w6 ⟨rfl, hb6⟩
  obtain ⟨hc6, hf6, hs6, hz6⟩ := ext_at (m := w5.heap.size + 1) hb6 (by simp) (by simp)
  have q60 : w.heap.size < w6.heap.size := by omega
  have q61 : w.heap.size + 1 < w6.heap.size := by omega
  have q62 : w.heap.size + 1 + 1 < w6.heap.size := by omega
  have q63 : w5.heap.size < w6.heap.size := by omega
  have q64 : w.heap.size < w5.heap.size + 1 := by omega
  have k6 := ext_alloc (ext_trans k5 hb6) (.cells #[.int .i64 (stepS a b c d (max s 0) e)] 25)
  go_wp2_with fail
  go_ret
  exact ⟨rfl, k6⟩

theorem piMonotone_walk (a b c d s e f : Int) (w : World) :
    Calls Try.prog 6 #[.agg #[.int .i64 a, .int .i64 b, .int .i64 c, .int .i64 d], .agg #[.int .i64 s], .agg #[.int .i64 e, .int .i64 f]] w fun r w' => r = .returned (.bool true) ∧ Below w.heap.size w w' := by
  by_cases hok : okC a b c d
  · exact piMonotone_ok a b c d s e f w hok
  · exact piMonotone_bad a b c d s e f w hok

theorem piMonotone_lifted (os : Os) (started : os.Started) (H : Type) (enc : TypeId × Value → H) :
    ReturnsInHanded {} Try.checked os 6 .any (Rows.piMonotoneSpec.pre6 enc Try.prog Try.f6 Rows.piMonotoneRow.domain false) (Rows.piMonotoneSpec.post enc Try.prog Try.f6 false true false false) := by
  refine law_lift (C := Try.checked) (T := 4) own started (by kernel_rfl) Try.func6
    (ChangeSpec.witness6 (enc := enc) (C := Try.checked) false ⟨#[], #[.agg #[.int .i64 0, .int .i64 0, .int .i64 0, .int .i64 0], .agg #[.int .i64 0], .agg #[.int .i64 0, .int .i64 0]], []⟩ 8 (by kernel_rfl) (by kernel_rfl) (by kernel_rfl) (by kernel_rfl))
    laidOut (by kernel_rfl) rfl Try.underlying4 (by kernel_rfl) ?_ ?_
  · intro ds h
    match ds, h with
    | [d1, d2, d3], _ => exact ⟨rfl, rfl, rfl⟩
  · intro W base args ds p hval0 hA0 _ hsz0
    have hval : ∀ (j : Nat) t v, Try.f6.params[j]? = some t → args[j]? = some v → Value.okWide Try.prog W .any base t v := hval0
    have hA : DataW.TrodAll enc Try.prog W 0 (fun _ => true) true Try.f6.params.toList args.toList ds p := hA0
    clear hsz0
    rw [Try.params6] at hA hval
    obtain ⟨v0, vs0, d0, ds0, p0, q0, hargs, rfl, rfl, h0, r0⟩ := trodAll_cons hA
    obtain ⟨v1, vs1, d1, ds1, p1, q1, rfl, rfl, rfl, h1, r1⟩ := trodAll_cons r0
    obtain ⟨v2, vs2, d2, ds2, p2, q2, rfl, rfl, rfl, h2, r2⟩ := trodAll_cons r1
    obtain ⟨rfl, rfl, rfl⟩ := trodAll_nil r2
    obtain rfl : args = #[v0, v1, v2] := by cases args; simp_all
    obtain ⟨x0, x1, x2, x3, rfl⟩ := open_cfg (hval 0 23 v0 rfl rfl) h0
    obtain ⟨s, rfl, bs1, bs2⟩ := open_state (hval 1 25 v1 rfl rfl) h1
    obtain ⟨e, f, rfl⟩ := open_pair (hval 2 42 v2 rfl rfl) h2
    exact piMonotone_walk x0 x1 x2 x3 s e f W

theorem piMonotone_over : Rows.piMonotoneRow.holds Try.pinned (OpenSpec.ofChange Rows.piMonotoneSpec) :=
  OpenClaim.holds_of_wide 6 Try.f6 rfl rfl rfl rfl rfl rfl rfl ⟨rfl, rfl, rfl, rfl, rfl⟩ rfl rfl rfl rfl rfl (by kernel_rfl) Try.func6 (by kernel_rfl)
    (of_decide_eq_true (by kernel_rfl)) (by unfold Func.isWrapper; first | (rw [if_pos (by decide +kernel)]; kernel_rfl) | (rw [if_neg (by decide +kernel)]; exact ⟨rfl, rfl⟩))
    (fun os started H enc _ => piMonotone_lifted os started H enc)

theorem piMonotone_holds : Rows.PiMonotoneSaid := piMonotone_over
#print axioms piMonotone_holds
end Go.Proofs.Ythcnepmimoldhaa
