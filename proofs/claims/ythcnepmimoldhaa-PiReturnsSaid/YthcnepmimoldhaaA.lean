/- Contracts of the small functions of the controller: what each call returns, and that it leaves all that was there. No conditions. -/
import Derived.Test.YthcnepmimoldhaaRows
import Derived.Test.YthcnepmimoldhaaBase
import Derived.BigQuiet
import Derived.BigGuardPart
import Derived.Deep.RegionWith
namespace Go.Proofs.Ythcnepmimoldhaa
open Go.RowKit

def clipI (x lo hi : Int) : Int := max lo (min x hi)

set_option maxHeartbeats 400000 in
theorem clip_any (x lo hi : Int) (w : World) :
    Calls Try.prog 19 #[.int .i64 x, .int .i64 lo, .int .i64 hi] w fun e w' => e = .returned (.int .i64 (clipI x lo hi)) ∧ w = w' := by
  go_enter Try.func19, Try.ntmps19
  go_wp2
  all_goals
    go_ret
    exact ⟨ret_int (by unfold clipI; omega), rfl⟩

set_option maxHeartbeats 400000 in
theorem bclip_any (x lo hi : Int) (w : World) :
    Calls Try.prog 15 #[.int .i64 x, .int .i64 lo, .int .i64 hi] w fun e w' => e = .returned (.int .i64 (clipI x lo hi)) ∧ w = w' := by
  go_enter Try.func15, Try.ntmps15
  go_wp2
  all_goals
    go_ret
    exact ⟨ret_int (by unfold clipI; omega), rfl⟩

set_option maxHeartbeats 400000 in
theorem div_any (a : Int) (w : World) (h1 : -9223372036854775808 ≤ a) (h2 : a ≤ 9223372036854775807) :
    Calls Try.prog 14 #[.int .i64 a, .int .i64 4096] w fun e w' => e = .returned (.int .i64 (a / 4096)) ∧ w = w' := by
  go_enter Try.func14, Try.ntmps14
  go_wp2
  · have h : a.tmod 4096 < 0 := by assumption
    go_ret
    refine ⟨ret_int ?_, rfl⟩
    have := (tdiv4096 a).2 h
    rw [wrap64_in' (by omega) (by omega)]
    omega
  · have h : 0 ≤ a.tmod 4096 := by assumption
    go_ret
    refine ⟨ret_int ((tdiv4096 a).1 h), rfl⟩

def okC (a b c d : Int) : Prop := 0 ≤ a ∧ a ≤ 1048576 ∧ 0 ≤ b ∧ b ≤ 1048576 ∧ -16777216 ≤ c ∧ c ≤ 0 ∧ 0 ≤ d ∧ d ≤ 16777216

set_option maxHeartbeats 400000 in
theorem rcheck_any (a b c d : Int) (w : World) :
    Calls Try.prog 13 #[.agg #[.int .i64 a, .int .i64 b, .int .i64 c, .int .i64 d]] w fun e w' => ∃ r : Int, e = .returned (.int .i64 r) ∧ (okC a b c d → r = 0) ∧ (¬ okC a b c d → r = 3) ∧ Below w.heap.size w w' := by
  go_enter Try.func13, Try.ntmps13
  go_wp2
  all_goals
    go_ret
    refine ⟨_, rfl, ?_, ?_, (Below.refl _ _).alloc (Nat.le_refl _) _⟩
    all_goals (unfold okC; omega)

set_option maxHeartbeats 400000 in
theorem check_any (a b c d : Int) (w : World) :
    Calls Try.prog 12 #[.agg #[.int .i64 a, .int .i64 b, .int .i64 c, .int .i64 d]] w fun e w' => ∃ r : Value, e = .returned r ∧ (okC a b c d → r = .nilIface) ∧ (¬ okC a b c d → r = .iface 54 (.int .i64 3)) ∧ Below w.heap.size w w' := by
  have i0 : ∀ w, (Instr.index 57 (.agg #[.int .i64 a, .int .i64 0, .int .i64 1048576, .int .i64 b, .int .i64 0, .int .i64 1048576, .int .i64 c, .int .i64 (-16777216), .int .i64 0, .int .i64 d, .int .i64 0, .int .i64 16777216]) (.int .i64 0)).run Try.prog w = .ok (.agg #[.int .i64 a, .int .i64 0, .int .i64 1048576]) w := fun _ => by kernel_rfl
  have i1 : ∀ w, (Instr.index 57 (.agg #[.int .i64 a, .int .i64 0, .int .i64 1048576, .int .i64 b, .int .i64 0, .int .i64 1048576, .int .i64 c, .int .i64 (-16777216), .int .i64 0, .int .i64 d, .int .i64 0, .int .i64 16777216]) (.int .i64 1)).run Try.prog w = .ok (.agg #[.int .i64 b, .int .i64 0, .int .i64 1048576]) w := fun _ => by kernel_rfl
  have i2 : ∀ w, (Instr.index 57 (.agg #[.int .i64 a, .int .i64 0, .int .i64 1048576, .int .i64 b, .int .i64 0, .int .i64 1048576, .int .i64 c, .int .i64 (-16777216), .int .i64 0, .int .i64 d, .int .i64 0, .int .i64 16777216]) (.int .i64 2)).run Try.prog w = .ok (.agg #[.int .i64 c, .int .i64 (-16777216), .int .i64 0]) w := fun _ => by kernel_rfl
  have i3 : ∀ w, (Instr.index 57 (.agg #[.int .i64 a, .int .i64 0, .int .i64 1048576, .int .i64 b, .int .i64 0, .int .i64 1048576, .int .i64 c, .int .i64 (-16777216), .int .i64 0, .int .i64 d, .int .i64 0, .int .i64 16777216]) (.int .i64 3)).run Try.prog w = .ok (.agg #[.int .i64 d, .int .i64 0, .int .i64 16777216]) w := fun _ => by kernel_rfl
  go_enter Try.func12, Try.ntmps12
  go_wp2
  refine wp_loop_rounds 5 ?_
  iterate 5 (all_goals (try (rw [rounds_succ]; go_wp2)))
  all_goals
    go_ret
    refine ⟨_, rfl, ?_, ?_, ?_⟩
    · first | (intro _; rfl) | (unfold okC; omega)
    · first | (intro _; rfl) | (unfold okC; omega)
    · repeat (first | exact Below.refl _ _ | refine ext_alloc ?_ _)
end Go.Proofs.Ythcnepmimoldhaa
