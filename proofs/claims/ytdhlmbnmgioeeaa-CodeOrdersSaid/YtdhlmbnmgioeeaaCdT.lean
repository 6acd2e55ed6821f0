/- The plain laws behind CodeOrders. No conditions. -/
import Derived.Test.YtdhlmbnmgioeeaaCdS
namespace Go.Proofs.Ytdhlmbnmgioeeaa
set_option linter.unusedVariables false
set_option linter.unusedSimpArgs false
set_option linter.unusedSectionVars false
open Go.RowKit

def ordX (sa sb : Int) : List Ins := [⟨8, 2, 0, 1, sa, sb, 0⟩, ⟨9, 3, 0, 1, sa, sb, 0⟩, ⟨3, 4, 0, 1, sa, sb, 0⟩, ⟨4, 5, 0, 1, sa, sb, 0⟩, ⟨2, 6, 0, 0, sa, 0, 0⟩, ⟨2, 7, 1, 0, sb, 0, 0⟩, ⟨5, 8, 0, 0, sa, 0, 0⟩, ⟨10, 9, 0, 0, sa, 0, 0⟩]
theorem scl_bound {a k : Int} (h1 : -32768 ≤ a) (h2 : a ≤ 32767) (h3 : -15 ≤ k) (h4 : k ≤ 14) : -536870912 ≤ scl a k ∧ scl a k ≤ 536870912 := by
  have : k = -15 ∨ k = -14 ∨ k = -13 ∨ k = -12 ∨ k = -11 ∨ k = -10 ∨ k = -9 ∨ k = -8 ∨ k = -7 ∨ k = -6 ∨ k = -5 ∨ k = -4 ∨ k = -3 ∨ k = -2 ∨ k = -1 ∨ k = 0 ∨ k = 1 ∨ k = 2 ∨ k = 3 ∨ k = 4 ∨ k = 5 ∨ k = 6 ∨ k = 7 ∨ k = 8 ∨ k = 9 ∨ k = 10 ∨ k = 11 ∨ k = 12 ∨ k = 13 ∨ k = 14 := by omega
  rcases this with rfl | rfl | rfl | rfl | rfl | rfl | rfl | rfl | rfl | rfl | rfl | rfl | rfl | rfl | rfl | rfl | rfl | rfl | rfl | rfl | rfl | rfl | rfl | rfl | rfl | rfl | rfl | rfl | rfl | rfl <;> (simp [scl]; omega)
theorem short_of {n : Int} (h1 : -2147483648 ≤ n) (h2 : n ≤ 2147483647) : shortB n = true := by
  unfold shortB
  rw [decide_eq_true_eq]
  omega
theorem shift_of {n : Int} (h1 : -62 ≤ n) (h2 : n ≤ 30) : shiftB n = true := by
  unfold shiftB
  rw [decide_eq_true_eq]
  omega
theorem ord_err {a b sa sb : Int} (a1 : -32768 ≤ a) (a2 : a ≤ 32767) (b1 : -32768 ≤ b) (b2 : b ≤ 32767) (s1 : -15 ≤ sa) (s2 : sa ≤ 14) (s3 : -15 ≤ sb) (s4 : sb ≤ 14) : progErr [] [a, b, 0, 0, 0, 0, 0, 0, 0, 0] (ordX sa sb) [2, 3, 4, 5, 6, 7, 8, 9] = 0 := by
  have e1 := short_of (n := a) (by omega) (by omega)
  have e2 := short_of (n := b) (by omega) (by omega)
  have e3 := shift_of (n := sa) (by omega) (by omega)
  have e4 := shift_of (n := sb) (by omega) (by omega)
  have e5 : shortB 0 = true := by decide
  simp [progErr, ordX, firstErr, initErr, Ins.err, insErr, usesR, outErr, e1, e2, e3, e4, e5]
theorem wrap_id {n : Int} (h1 : -9223372036854775808 ≤ n) (h2 : n ≤ 9223372036854775807) : wrap64 n = n := by
  unfold wrap64
  omega
theorem ord_run {a b sa sb p q : Int} (a1 : -32768 ≤ a) (a2 : a ≤ 32767) (b1 : -32768 ≤ b) (b2 : b ≤ 32767) (s1 : -15 ≤ sa) (s2 : sa ≤ 14) (s3 : -15 ≤ sb) (s4 : sb ≤ 14) (hp : scl a sa = p) (hq : scl b sb = q) :
    runM [] [a, b, 0, 0, 0, 0, 0, 0, 0, 0] (ordX sa sb) [2, 3, 4, 5, 6, 7, 8, 9] [a, b, 0, 0, 0, 0, 0, 0, 0, 0] [] = ⟨[a, b, min p q, max p q, p + q, p - q, p, q, -p, max p (-p)], [min p q, max p q, p + q, p - q, p, q, -p, max p (-p)], false⟩ ∧
    runErr [] [a, b, 0, 0, 0, 0, 0, 0, 0, 0] (ordX sa sb) [2, 3, 4, 5, 6, 7, 8, 9] [a, b, 0, 0, 0, 0, 0, 0, 0, 0] [] = 0 := by
  have h0 : runErr [] [a, b, 0, 0, 0, 0, 0, 0, 0, 0] (ordX sa sb) [2, 3, 4, 5, 6, 7, 8, 9] [a, b, 0, 0, 0, 0, 0, 0, 0, 0] [] = 0 := run_noerr (ord_err a1 a2 b1 b2 s1 s2 s3 s4) rfl (fun n hn => by
    simp at hn
    rcases hn with rfl | rfl | rfl
    · exact short_of (by omega) (by omega)
    · exact short_of (by omega) (by omega)
    · decide) rfl (by simp)
  refine ⟨?_, h0⟩
  rw [runM_ok h0]
  have bp := scl_bound a1 a2 s1 s2
  have bq := scl_bound b1 b2 s3 s4
  rw [hp] at bp
  rw [hq] at bq
  have w1 : wrap64 (p + q) = p + q := wrap_id (by omega) (by omega)
  have w2 : wrap64 (p - q) = p - q := wrap_id (by omega) (by omega)
  have w3 : wrap64 (-p) = -p := wrap_id (by omega) (by omega)
  have t1 : shortB (min p q) = true := short_of (by omega) (by omega)
  have t2 : shortB (max p q) = true := short_of (by omega) (by omega)
  have t3 : shortB (p + q) = true := short_of (by omega) (by omega)
  have t4 : shortB (p - q) = true := short_of (by omega) (by omega)
  have t5 : shortB p = true := short_of (by omega) (by omega)
  have t6 : shortB q = true := short_of (by omega) (by omega)
  have t7 : shortB (-p) = true := short_of (by omega) (by omega)
  have t8 : shortB (max p (-p)) = true := short_of (by omega) (by omega)
  have u1 := cut_short t1
  have u2 := cut_short t2
  have u3 := cut_short t3
  have u4 := cut_short t4
  have u5 := cut_short t5
  have u6 := cut_short t6
  have u7 := cut_short t7
  have u8 := cut_short t8
  simp [runR, ordX, stepR, insVal, outsOf, hp, hq, w1, w2, w3, t1, t2, t3, t4, t5, t6, t7, t8, u1, u2, u3, u4, u5, u6, u7, u8]
end Go.Proofs.Ytdhlmbnmgioeeaa
