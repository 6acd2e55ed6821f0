/- Contracts of the controller's step. -/
import Derived.Test.YthcnepmimoldhaaA
import Derived.Test.YthcnepmimoldhaaQ
namespace Go.Proofs.Ythcnepmimoldhaa
open Go.RowKit

theorem check_ok {a b c d : Int} (h : okC a b c d) (w : World) :
    Calls Try.prog 12 #[.agg #[.int .i64 a, .int .i64 b, .int .i64 c, .int .i64 d]] w fun e w' => e = .returned .nilIface ∧ Below w.heap.size w w' :=
  (check_any a b c d w).mono fun _ _ ⟨_, he, h1, _, hb⟩ => ⟨by rw [he, h1 h], hb⟩
theorem check_bad {a b c d : Int} (h : ¬ okC a b c d) (w : World) :
    Calls Try.prog 12 #[.agg #[.int .i64 a, .int .i64 b, .int .i64 c, .int .i64 d]] w fun e w' => e = .returned (.iface 54 (.int .i64 3)) ∧ Below w.heap.size w w' :=
  (check_any a b c d w).mono fun _ _ ⟨_, he, _, h1, hb⟩ => ⟨by rw [he, h1 h], hb⟩

def eClip (e : Int) : Int := clipI e (-16777216) 16777216
def oldS (c d s : Int) : Int := clipI s (c * 4096) (d * 4096)
def stepU (a b c d s e : Int) : Int := oldS c d s + b * eClip e + a * eClip e
def stepS (a b c d s e : Int) : Int := clipI (if (d * 4096 < stepU a b c d s e ∧ 0 < eClip e) ∨ (stepU a b c d s e < c * 4096 ∧ eClip e < 0) then oldS c d s else oldS c d s + b * eClip e) (c * 4096) (d * 4096)
def stepO (a b c d s e : Int) : Int := clipI (stepU a b c d s e / 4096) c d

theorem clipI_bd (x lo hi : Int) (h : lo ≤ hi) : lo ≤ clipI x lo hi ∧ clipI x lo hi ≤ hi := by unfold clipI; omega
theorem gain_bd {b e : Int} (h1 : 0 ≤ b) (h2 : b ≤ 1048576) (h3 : -16777216 ≤ e) (h4 : e ≤ 16777216) : -17592186044416 ≤ b * e ∧ b * e ≤ 17592186044416 := by
  have p := Int.mul_le_mul_of_nonneg_left h4 h1
  have q := Int.mul_le_mul_of_nonneg_left h3 h1
  omega

set_option maxHeartbeats 400000 in
theorem step_ok (a b c d s e : Int) (w : World) (hok : okC a b c d) :
    Calls Try.prog 9 #[.agg #[.int .i64 a, .int .i64 b, .int .i64 c, .int .i64 d], .agg #[.int .i64 s], .int .i64 e] w fun r w' => r = .returned (.tuple #[.agg #[.int .i64 (stepS a b c d s e)], .int .i64 (stepO a b c d s e), .nilIface]) ∧ Below w.heap.size w w' := by
  have hok' := hok
  unfold okC at hok'
  obtain ⟨h1, h2, h3, h4, h5, h6, h7, h8⟩ := hok'
  have HOK : Hid (okC a b c d) := hok
  clear hok
  have e1 := clipI_bd e (-16777216) 16777216 (by omega)
  have o1 := clipI_bd s (c * 4096) (d * 4096) (by omega)
  have b1 := gain_bd h3 h4 e1.1 e1.2
  have a1 := gain_bd h1 h2 e1.1 e1.2
  go_enter Try.func9, Try.ntmps9
  go_wp2_with (first
    | (go_at_call 12; refine (check_ok HOK.out _).mono ?_; rintro e w1 ⟨rfl, hb⟩; have hz : w.heap.size + 3 ≤ w1.heap.size := (by simpa using hb.size); obtain ⟨hc, hf⟩ := ext_cells_at (m := w.heap.size + 3) hb (by simp))
    | (go_at_call 19; refine (clip_any _ _ _ _).mono ?_; rintro e w1 ⟨rfl, rfl⟩))
  go_quiet (fail)
  go_wp2_with ((go_at_call 19; refine (clip_any _ _ _ _).mono ?_; rintro e w1 ⟨rfl, rfl⟩))
  all_goals
    refine wp_region_qtail 12 (w.heap.size + 3) hz (by kernel_rfl) (by kernel_rfl) ?_
    intro _
    simp only [List.take_succ_cons, List.take_zero, List.drop_succ_cons, List.drop_zero]
    repeat (go_big_quiet_step ((go_at_call 19; exact qext_same (clip_any _ _ _ _))))
    refine wpQuiet_nil ?_
    intro w2 hw'
    obtain ⟨⟨_, hb2, hz2⟩, rfl⟩ := hw'
    obtain ⟨hc2, hf2⟩ := ext_cells_at (m := w.heap.size + 3) hb2 (Nat.le_refl _)
    go_wp2
    refine bodyPost_ret (v := .tuple #[.agg #[.int .i64 (stepS a b c d s e)], .int .i64 (stepO a b c d s e), .nilIface]) ?_ rfl ⟨rfl, ?_⟩
    · have hS : stepU a b c d s e = clipI s (c * 4096) (d * 4096) + b * clipI e (-16777216) 16777216 + a * clipI e (-16777216) 16777216 := rfl
      simp [results, Try.results9, go_sem, hc, hc2]
      refine ⟨?_, rfl⟩
      unfold stepS eClip oldS
      rw [hS]
      first
        | rw [if_pos (by omega)]
        | rw [if_neg (by omega)]
    · exact ext_set ((ext_alloc (ext_alloc (ext_alloc (Below.refl _ _) _) _) _).trans ((hb.mono (by simp; omega)).trans ((below_drewN (Below.refl _ _) _).trans (hb2.mono (by omega))))) (by simp; omega) _
end Go.Proofs.Ythcnepmimoldhaa
