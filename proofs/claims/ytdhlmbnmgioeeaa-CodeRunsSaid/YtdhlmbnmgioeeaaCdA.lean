/- Small functions of the machine: what each call returns. No conditions. -/
import Derived.Test.YtdhlmbnmgioeeaaCom
import Derived.BigGuardPart
namespace Go.Proofs.Ytdhlmbnmgioeeaa
set_option linter.unusedVariables false
set_option linter.unusedSimpArgs false
set_option linter.unusedSectionVars false
open Go.RowKit

def shortB (n : Int) : Bool := decide (-2147483648 ≤ n ∧ n < 2147483648)
def shiftB (n : Int) : Bool := decide (-62 ≤ n ∧ n ≤ 30)
theorem shortB_t {n : Int} (h : shortB n = true) : -2147483648 ≤ n ∧ n < 2147483648 := by simpa [shortB] using h
theorem shortB_f {n : Int} (h : shortB n = false) : ¬ (-2147483648 ≤ n ∧ n < 2147483648) := by simpa [shortB] using h

set_option maxHeartbeats 400000 in
theorem short_any (n : Int) (w : World) : Calls Try.prog 25 #[.int .i64 n] w fun e w' => e = .returned (.bool (shortB n)) ∧ w = w' := by
  go_enter Try.func25, Try.ntmps25
  go_wp2
  all_goals
    go_ret
    exact ⟨ret_bool (by simp [shortB]; omega), rfl⟩

set_option maxHeartbeats 400000 in
theorem shift_any (n : Int) (w : World) : Calls Try.prog 46 #[.int .i64 n] w fun e w' => e = .returned (.bool (shiftB n)) ∧ w = w' := by
  go_enter Try.func46, Try.ntmps46
  go_wp2
  all_goals
    go_ret
    exact ⟨ret_bool (by simp [shiftB]; omega), rfl⟩

def scl (x k : Int) : Int := if k < 0 then x / 2 ^ (-k).toNat else max (-4294967296) (min x 4294967296) * 2 ^ k.toNat

set_option maxHeartbeats 400000 in
theorem scaled_any (x k : Int) (w : World) (h1 : -62 ≤ k) (h2 : k ≤ 30) : Calls Try.prog 26 #[.int .i64 x, .int .i64 k] w fun e w' => e = .returned (.int .i64 (scl x k)) ∧ w = w' := by
  go_enter Try.func26, Try.ntmps26
  go_wp2
  · have hk : k < 0 := by assumption
    go_ret
    exact ⟨ret_int (by unfold scl; rw [if_pos hk]), rfl⟩
  · have hk : 0 ≤ k := by assumption
    go_ret
    refine ⟨ret_int ?_, rfl⟩
    obtain ⟨n, rfl⟩ := Int.eq_ofNat_of_zero_le hk
    have hp : (2 : Int) ^ n ≤ 2 ^ 30 := by exact_mod_cast Nat.pow_le_pow_right (by omega) (by omega)
    have hp0 : (0 : Int) ≤ 2 ^ n := Int.pow_nonneg (by omega)
    have m1 : -4294967296 ≤ max (-4294967296) (min x 4294967296) := by omega
    have m2 : max (-4294967296) (min x 4294967296) ≤ 4294967296 := by omega
    have a := Int.mul_le_mul_of_nonneg_right m2 hp0
    have b := Int.mul_le_mul_of_nonneg_right m1 hp0
    unfold scl
    rw [if_neg (by omega), Int.toNat_natCast, wrap64_in' (by omega) (by omega)]

def usesF (op : Int) : Int × Bool :=
  if op = 0 ∨ op = 2 ∨ op = 5 ∨ op = 10 then (5, true) else if op = 1 then (16, true) else if op = 3 ∨ op = 4 ∨ op = 8 ∨ op = 9 then (15, true) else if op = 6 then (21, true) else if op = 7 then (7, true) else (0, false)

theorem uses_eq {op u : Int} {b : Bool} (h : (u, b) = usesF op) : Ending.returned (.tuple #[.int .i64 u, .bool b]) = .returned (.tuple #[.int .i64 (usesF op).1, .bool (usesF op).2]) := by rw [← h]
set_option maxHeartbeats 1000000 in
theorem uses_any (op : Int) (w : World) : Calls Try.prog 45 #[.int .i64 op] w fun e w' => e = .returned (.tuple #[.int .i64 (usesF op).1, .bool (usesF op).2]) ∧ w = w' := by
  go_enter Try.func45, Try.ntmps45
  go_wp2
  all_goals
    go_ret2
    exact ⟨uses_eq (by simp only [beq_iff_eq, beq_eq_false_iff_ne, ne_eq] at *; simp [usesF, *]), rfl⟩

def usesR (op : Int) : Bool × Bool × Bool × Bool × Bool × Bool :=
  if op = 0 ∨ op = 2 ∨ op = 5 ∨ op = 10 then (true, false, true, false, false, true) else if op = 1 then (false, false, false, false, true, true) else if op = 3 ∨ op = 4 ∨ op = 8 ∨ op = 9 then (true, true, true, true, false, true)
  else if op = 6 then (true, false, true, false, true, true) else if op = 7 then (true, true, true, false, false, true) else (false, false, false, false, false, false)
theorem results_tmp6 {fn : Func} {t u v x y z : Tmp} (h : fn.results = #[.tmp t, .tmp u, .tmp v, .tmp x, .tmp y, .tmp z]) (tmps : Array Value) (P : Program) (w : World) :
    (results fn tmps).run P w = .ok (.tuple #[tmps.getD t undef, tmps.getD u undef, tmps.getD v undef, tmps.getD x undef, tmps.getD y undef, tmps.getD z undef]) w := by simp [results, h]
theorem usesR_eq {op : Int} {a b c d e f : Bool} (h : (a, b, c, d, e, f) = usesR op) : Ending.returned (.tuple #[.bool a, .bool b, .bool c, .bool d, .bool e, .bool f]) = .returned (.tuple #[.bool (usesR op).1, .bool (usesR op).2.1, .bool (usesR op).2.2.1, .bool (usesR op).2.2.2.1, .bool (usesR op).2.2.2.2.1, .bool (usesR op).2.2.2.2.2]) := by rw [← h]
set_option maxHeartbeats 1000000 in
theorem ruses_any (op : Int) (w : World) : Calls Try.prog 34 #[.int .i64 op] w fun e w' => e = .returned (.tuple #[.bool (usesR op).1, .bool (usesR op).2.1, .bool (usesR op).2.2.1, .bool (usesR op).2.2.2.1, .bool (usesR op).2.2.2.2.1, .bool (usesR op).2.2.2.2.2]) ∧ w = w' := by
  go_enter Try.func34, Try.ntmps34
  go_wp2
  all_goals
    refine bodyPost_ret (results_tmp6 rfl _ _ _) rfl ?_
    exact ⟨usesR_eq (by simp only [beq_iff_eq, beq_eq_false_iff_ne, ne_eq] at *; simp [usesR, *]), rfl⟩

def withinB (n lo hi : Int) : Bool := decide (lo ≤ n ∧ n ≤ hi)
set_option maxHeartbeats 400000 in
theorem within_any (n lo hi : Int) (w : World) : Calls Try.prog 27 #[.int .i64 n, .int .i64 lo, .int .i64 hi] w fun e w' => e = .returned (.bool (withinB n lo hi)) ∧ w = w' := by
  go_enter Try.func27, Try.ntmps27
  go_wp2
  all_goals
    go_ret
    exact ⟨ret_bool (by simp [withinB]; omega), rfl⟩
theorem withinB_word (n : Int) : withinB n (-2147483648) 2147483647 = shortB n := by simp only [withinB, shortB]; congr 1; simp; omega
set_option maxHeartbeats 400000 in
theorem word_any (n : Int) (w : World) : Calls Try.prog 28 #[.int .i64 n] w fun e w' => e = .returned (.bool (shortB n)) ∧ w = w' := by
  go_enter Try.func28, Try.ntmps28
  go_wp2_with (go_at_call 27; refine (within_any _ _ _ _).mono ?_; rintro e w1 ⟨rfl, rfl⟩)
  go_ret
  exact ⟨ret_bool (withinB_word n), rfl⟩
end Go.Proofs.Ytdhlmbnmgioeeaa
