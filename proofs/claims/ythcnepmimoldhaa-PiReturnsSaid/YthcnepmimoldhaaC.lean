/- Contracts of the document's own step, of the number of an error, of the example. -/
import Derived.Test.YthcnepmimoldhaaB
namespace Go.Proofs.Ythcnepmimoldhaa
open Go.RowKit

theorem rcheck_ok {a b c d : Int} (h : okC a b c d) (w : World) :
    Calls Try.prog 13 #[.agg #[.int .i64 a, .int .i64 b, .int .i64 c, .int .i64 d]] w fun e w' => e = .returned (.int .i64 0) ∧ Below w.heap.size w w' :=
  (rcheck_any a b c d w).mono fun _ _ ⟨_, he, h1, _, hb⟩ => ⟨by rw [he, h1 h], hb⟩
theorem rcheck_bad {a b c d : Int} (h : ¬ okC a b c d) (w : World) :
    Calls Try.prog 13 #[.agg #[.int .i64 a, .int .i64 b, .int .i64 c, .int .i64 d]] w fun e w' => e = .returned (.int .i64 3) ∧ Below w.heap.size w w' :=
  (rcheck_any a b c d w).mono fun _ _ ⟨_, he, _, h1, hb⟩ => ⟨by rw [he, h1 h], hb⟩

set_option maxHeartbeats 400000 in
theorem num_nil (w : World) : Calls Try.prog 11 #[.nilIface] w fun e w' => e = .returned (.int .i64 0) ∧ w = w' := by
  go_enter Try.func11, Try.ntmps11
  go_wp2
  go_ret
  exact ⟨rfl, rfl⟩

set_option maxHeartbeats 400000 in
theorem num_some (n : Int) (w : World) : Calls Try.prog 11 #[.iface 54 (.int .i64 n)] w fun e w' => e = .returned (.int .i64 n) ∧ w = w' := by
  have hta : ∀ w, (Instr.typeAssert (.iface 54 (.int .i64 n)) 28 54 true).run Try.prog w = .ok (.tuple #[.int .i64 n, .bool true]) w := fun _ => by kernel_rfl
  go_enter Try.func11, Try.ntmps11
  go_wp2
  go_ret
  exact ⟨rfl, rfl⟩

set_option maxHeartbeats 400000 in
theorem step_bad (a b c d s e : Int) (w : World) (hok : ¬ okC a b c d) :
    Calls Try.prog 9 #[.agg #[.int .i64 a, .int .i64 b, .int .i64 c, .int .i64 d], .agg #[.int .i64 s], .int .i64 e] w fun r w' => r = .returned (.tuple #[.agg #[.int .i64 0], .int .i64 0, .iface 54 (.int .i64 3)]) ∧ Below w.heap.size w w' := by
  have HOK : Hid (¬ okC a b c d) := hok
  clear hok
  go_enter Try.func9, Try.ntmps9
  go_wp2_with (first
    | (go_at_call 12; refine (check_bad HOK.out _).mono ?_; rintro e w1 ⟨rfl, hb⟩; have hz : w.heap.size + 3 ≤ w1.heap.size := (by simpa using hb.size); obtain ⟨hc, hf⟩ := ext_cells_at (m := w.heap.size + 3) hb (by simp)))
  refine bodyPost_ret (v := .tuple #[.agg #[.int .i64 0], .int .i64 0, .iface 54 (.int .i64 3)]) ?_ rfl ⟨rfl, ?_⟩
  · simp [results, Try.results9, go_sem, hc]
  · exact ext_set ((ext_alloc (ext_alloc (ext_alloc (Below.refl _ _) _) _) _).trans (hb.mono (by simp; omega))) (by simp; omega) _

set_option maxHeartbeats 400000 in
theorem sum_any (a b c d n : Int) (w : World) (hok : okC a b c d) :
    Calls Try.prog 20 #[.agg #[.int .i64 a, .int .i64 b, .int .i64 c, .int .i64 d], .int .i64 n] w fun e w' => e = .returned (.int .i64 (oldS c d n)) ∧ Below w.heap.size w w' := by
  unfold okC at hok
  go_enter Try.func20, Try.ntmps20
  go_wp2_with ((go_at_call 15; refine (bclip_any _ _ _ _).mono ?_; rintro e w1 ⟨rfl, rfl⟩))
  go_ret
  exact ⟨rfl, ext_alloc (Below.refl _ _) _⟩

set_option maxHeartbeats 400000 in
theorem rstep_bad (a b c d s e : Int) (w : World) (hok : ¬ okC a b c d) :
    Calls Try.prog 10 #[.agg #[.int .i64 a, .int .i64 b, .int .i64 c, .int .i64 d], .agg #[.int .i64 s], .int .i64 e] w fun r w' => r = .returned (.tuple #[.agg #[.int .i64 0], .int .i64 0, .int .i64 3]) ∧ Below w.heap.size w w' := by
  have HOK : Hid (¬ okC a b c d) := hok
  clear hok
  go_enter Try.func10, Try.ntmps10
  go_wp2_with (first
    | (go_at_call 13; refine (rcheck_bad HOK.out _).mono ?_; rintro e w1 ⟨rfl, hb⟩; have hz : w.heap.size + 3 ≤ w1.heap.size := (by simpa using hb.size); obtain ⟨hc, hf⟩ := ext_cells_at (m := w.heap.size + 3) hb (by simp)))
  refine bodyPost_ret (v := .tuple #[.agg #[.int .i64 0], .int .i64 0, .int .i64 3]) ?_ rfl ⟨rfl, ?_⟩
  · simp [results, Try.results10, go_sem, hc]
  · exact ext_set ((ext_alloc (ext_alloc (ext_alloc (Below.refl _ _) _) _) _).trans (hb.mono (by simp; omega))) (by simp; omega) _

set_option maxHeartbeats 400000 in
theorem example_any (w : World) : Calls Try.prog 18 #[] w fun r w' => r = .returned (.agg #[.int .i64 4096, .int .i64 2048, .int .i64 (-10), .int .i64 10]) ∧ Below w.heap.size w w' := by
  go_enter Try.func18, Try.ntmps18
  go_wp2
  refine bodyPost_ret (v := .agg #[.int .i64 4096, .int .i64 2048, .int .i64 (-10), .int .i64 10]) ?_ rfl ⟨rfl, ?_⟩
  · simp [results, Try.results18, go_sem]
  · exact ext_alloc (Below.refl _ _) _

set_option maxHeartbeats 400000 in
theorem rstep_ok (a b c d s e : Int) (w : World) (hok : okC a b c d) :
    Calls Try.prog 10 #[.agg #[.int .i64 a, .int .i64 b, .int .i64 c, .int .i64 d], .agg #[.int .i64 s], .int .i64 e] w fun r w' => r = .returned (.tuple #[.agg #[.int .i64 (stepS a b c d s e)], .int .i64 (stepO a b c d s e), .int .i64 0]) ∧ Below w.heap.size w w' := by
  have hok' := hok
  unfold okC at hok'
  obtain ⟨h1, h2, h3, h4, h5, h6, h7, h8⟩ := hok'
  have HOK : Hid (okC a b c d) := hok
  clear hok
  have e1 := clipI_bd e (-16777216) 16777216 (by omega)
  have o1 : c * 4096 ≤ oldS c d s ∧ oldS c d s ≤ d * 4096 := clipI_bd s (c * 4096) (d * 4096) (by omega)
  have b1 := gain_bd h3 h4 e1.1 e1.2
  have a1 := gain_bd h1 h2 e1.1 e1.2
  go_enter Try.func10, Try.ntmps10
  go_wp2_with (first
    | (go_at_call 13; refine (rcheck_ok HOK.out _).mono ?_; rintro e w1 ⟨rfl, hb⟩; have hz : w.heap.size + 3 ≤ w1.heap.size := (by simpa using hb.size); obtain ⟨hc, hf⟩ := ext_cells_at (m := w.heap.size + 3) hb (by simp))
    | (go_at_call 20; refine (sum_any _ _ _ _ _ _ HOK.out).mono ?_; rintro e w2 ⟨rfl, hb2⟩; have hz2 : w.heap.size + 3 ≤ w2.heap.size := (Nat.le_trans hz hb2.size); obtain ⟨hc2, hf2⟩ := ext_cells_at (m := w.heap.size + 3) hb2 hz)
    | (go_at_call 15; refine (bclip_any _ _ _ _).mono ?_; rintro e w1 ⟨rfl, rfl⟩))
  go_quiet (first
    | (go_at_call 14; exact quiet_left (div_any _ _ (by omega) (by omega)))
    | (go_at_call 15; exact quiet_left (bclip_any _ _ _ _)))
  go_wp2_with (go_at_call 20; refine (sum_any _ _ _ _ _ _ HOK.out).mono ?_; rintro e w3 ⟨rfl, hb3⟩; have hz3 : w.heap.size + 3 ≤ w3.heap.size := (Nat.le_trans hz2 hb3.size); obtain ⟨hc3, hf3⟩ := ext_cells_at (m := w.heap.size + 3) hb3 hz2)
  all_goals
    refine bodyPost_ret (v := .tuple #[.agg #[.int .i64 (stepS a b c d s e)], .int .i64 (stepO a b c d s e), .int .i64 0]) ?_ rfl ⟨rfl, ?_⟩
    · have hS : stepU a b c d s e = oldS c d s + b * clipI e (-16777216) 16777216 + a * clipI e (-16777216) 16777216 := rfl
      simp [results, Try.results10, go_sem, hc, hc2, hc3]
      refine ⟨?_, rfl⟩
      unfold stepS eClip
      rw [hS]
      first
        | (rw [if_pos (by omega)]; rfl)
        | (rw [if_neg (by omega)]; rfl)
    · exact ext_set ((ext_alloc (ext_alloc (ext_alloc (Below.refl _ _) _) _) _).trans ((hb.mono (by simp <;> omega)).trans ((hb2.mono (by omega)).trans ((below_drewN (Below.refl _ _) _).trans (hb3.mono (by simp <;> omega)))))) (by simp <;> omega) _

def presetS (a b c d o e : Int) : Int := clipI (clipI o c d * 4096 - (a + b) * eClip e) (c * 4096) (d * 4096)

set_option maxHeartbeats 400000 in
theorem preset_bad (a b c d o e : Int) (w : World) (hok : ¬ okC a b c d) :
    Calls Try.prog 16 #[.agg #[.int .i64 a, .int .i64 b, .int .i64 c, .int .i64 d], .int .i64 o, .int .i64 e] w fun r w' => r = .returned (.tuple #[.agg #[.int .i64 0], .iface 54 (.int .i64 3)]) ∧ Below w.heap.size w w' := by
  have HOK : Hid (¬ okC a b c d) := hok
  clear hok
  go_enter Try.func16, Try.ntmps16
  go_wp2_with (first
    | (go_at_call 12; refine (check_bad HOK.out _).mono ?_; rintro e w1 ⟨rfl, hb⟩; have hz : w.heap.size + 2 ≤ w1.heap.size := (by simpa using hb.size); obtain ⟨hc, hf⟩ := ext_cells_at (m := w.heap.size + 2) hb (by simp)))
  refine bodyPost_ret (v := .tuple #[.agg #[.int .i64 0], .iface 54 (.int .i64 3)]) ?_ rfl ⟨rfl, ?_⟩
  · simp [results, Try.results16, go_sem, hc]
  · exact ext_set ((ext_alloc (ext_alloc (Below.refl _ _) _) _).trans (hb.mono (by simp <;> omega))) (by simp <;> omega) _

set_option maxHeartbeats 400000 in
theorem rpreset_bad (a b c d o e : Int) (w : World) (hok : ¬ okC a b c d) :
    Calls Try.prog 17 #[.agg #[.int .i64 a, .int .i64 b, .int .i64 c, .int .i64 d], .int .i64 o, .int .i64 e] w fun r w' => r = .returned (.tuple #[.agg #[.int .i64 0], .int .i64 3]) ∧ Below w.heap.size w w' := by
  have HOK : Hid (¬ okC a b c d) := hok
  clear hok
  go_enter Try.func17, Try.ntmps17
  go_wp2_with (first
    | (go_at_call 13; refine (rcheck_bad HOK.out _).mono ?_; rintro e w1 ⟨rfl, hb⟩; have hz : w.heap.size + 2 ≤ w1.heap.size := (by simpa using hb.size); obtain ⟨hc, hf⟩ := ext_cells_at (m := w.heap.size + 2) hb (by simp)))
  refine bodyPost_ret (v := .tuple #[.agg #[.int .i64 0], .int .i64 3]) ?_ rfl ⟨rfl, ?_⟩
  · simp [results, Try.results17, go_sem, hc]
  · exact ext_set ((ext_alloc (ext_alloc (Below.refl _ _) _) _).trans (hb.mono (by simp <;> omega))) (by simp <;> omega) _

theorem gain2_bd {b e : Int} (h1 : 0 ≤ b) (h2 : b ≤ 2097152) (h3 : -16777216 ≤ e) (h4 : e ≤ 16777216) : -35184372088832 ≤ b * e ∧ b * e ≤ 35184372088832 := by
  have p := Int.mul_le_mul_of_nonneg_left h4 h1
  have q := Int.mul_le_mul_of_nonneg_left h3 h1
  omega

set_option maxHeartbeats 400000 in
theorem preset_ok (a b c d o e : Int) (w : World) (hok : okC a b c d) :
    Calls Try.prog 16 #[.agg #[.int .i64 a, .int .i64 b, .int .i64 c, .int .i64 d], .int .i64 o, .int .i64 e] w fun r w' => r = .returned (.tuple #[.agg #[.int .i64 (presetS a b c d o e)], .nilIface]) ∧ Below w.heap.size w w' := by
  have hok' := hok
  unfold okC at hok'
  obtain ⟨h1, h2, h3, h4, h5, h6, h7, h8⟩ := hok'
  have HOK : Hid (okC a b c d) := hok
  clear hok
  have e1 := clipI_bd e (-16777216) 16777216 (by omega)
  have o1 := clipI_bd o c d (by omega)
  have b1 := gain2_bd (b := a + b) (by omega) (by omega) e1.1 e1.2
  go_enter Try.func16, Try.ntmps16
  go_wp2_with (first
    | (go_at_call 12; refine (check_ok HOK.out _).mono ?_; rintro e w1 ⟨rfl, hb⟩; have hz : w.heap.size + 2 ≤ w1.heap.size := (by simpa using hb.size); obtain ⟨hc, hf⟩ := ext_cells_at (m := w.heap.size + 2) hb (by simp))
    | (go_at_call 19; refine (clip_any _ _ _ _).mono ?_; rintro e w1 ⟨rfl, rfl⟩))
  go_quiet ((go_at_call 19; exact quiet_left (clip_any _ _ _ _)))
  go_wp2_with (go_at_call 19; refine (clip_any _ _ _ _).mono ?_; rintro e w1 ⟨rfl, rfl⟩)
  refine bodyPost_ret (v := .tuple #[.agg #[.int .i64 (presetS a b c d o e)], .nilIface]) ?_ rfl ⟨rfl, ?_⟩
  · simp [results, Try.results16, go_sem, hc]
    rfl
  · exact ext_set ((ext_alloc (ext_alloc (Below.refl _ _) _) _).trans ((hb.mono (by simp <;> omega)).trans (below_drewN (Below.refl _ _) _))) (by simp <;> omega) _

set_option maxHeartbeats 400000 in
theorem rpreset_ok (a b c d o e : Int) (w : World) (hok : okC a b c d) :
    Calls Try.prog 17 #[.agg #[.int .i64 a, .int .i64 b, .int .i64 c, .int .i64 d], .int .i64 o, .int .i64 e] w fun r w' => r = .returned (.tuple #[.agg #[.int .i64 (presetS a b c d o e)], .int .i64 0]) ∧ Below w.heap.size w w' := by
  have hok' := hok
  unfold okC at hok'
  obtain ⟨h1, h2, h3, h4, h5, h6, h7, h8⟩ := hok'
  have HOK : Hid (okC a b c d) := hok
  clear hok
  have e1 := clipI_bd e (-16777216) 16777216 (by omega)
  have o1 := clipI_bd o c d (by omega)
  have b1 := gain2_bd (b := a + b) (by omega) (by omega) e1.1 e1.2
  go_enter Try.func17, Try.ntmps17
  go_wp2_with (first
    | (go_at_call 13; refine (rcheck_ok HOK.out _).mono ?_; rintro e w1 ⟨rfl, hb⟩; have hz : w.heap.size + 2 ≤ w1.heap.size := (by simpa using hb.size); obtain ⟨hc, hf⟩ := ext_cells_at (m := w.heap.size + 2) hb (by simp))
    | (go_at_call 15; refine (bclip_any _ _ _ _).mono ?_; rintro e w1 ⟨rfl, rfl⟩))
  refine wp_region_qtail 18 (w.heap.size + 2) hz (by kernel_rfl) (by kernel_rfl) ?_
  intro _
  simp only [List.take_succ_cons, List.take_zero, List.drop_succ_cons, List.drop_zero]
  repeat (go_big_quiet_step ((first | (go_at_call 15; exact qext_same (bclip_any _ _ _ _)) | (go_at_call 20; exact qext_call (sum_any _ _ _ _ _ _ HOK.out)))))
  refine wpQuiet_nil ?_
  intro w2 hw'
  obtain ⟨⟨_, hb2, hz2⟩, rfl⟩ := hw'
  obtain ⟨hc2, hf2⟩ := ext_cells_at (m := w.heap.size + 2) hb2 (Nat.le_refl _)
  go_wp2
  refine bodyPost_ret (v := .tuple #[.agg #[.int .i64 (presetS a b c d o e)], .int .i64 0]) ?_ rfl ⟨rfl, ?_⟩
  · simp [results, Try.results17, go_sem, hc, hc2]
    rfl
  · exact ext_set ((ext_alloc (ext_alloc (Below.refl _ _) _) _).trans ((hb.mono (by simp <;> omega)).trans (hb2.mono (by omega)))) (by simp <;> omega) _
end Go.Proofs.Ythcnepmimoldhaa
