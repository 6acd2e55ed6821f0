/- The check of one instruction, of the document: by the kinds of operations. No conditions. -/
import Derived.Test.YtdhlmbnmgioeeaaCdB0
import Derived.Deep.Light
namespace Go.Proofs.Ytdhlmbnmgioeeaa
set_option linter.unusedVariables false
set_option linter.unusedSimpArgs false
set_option linter.unusedSectionVars false
open Go.RowKit

set_option maxRecDepth 100000 in
set_option maxHeartbeats 2000000 in
theorem rinstrIn (A1 A2 A3 A4 : Option Addr) (n1 n2 n3 n4 c1 c2 c3 c4 : Nat) (op dst a b sa sb imm : Int) (w : World) (hR : usesR op = (true, false, true, false, false, true)) (h0 : (op == 0) = true) (hn1 : n1 ≤ 1000000) (hn2 : n2 ≤ 1000000) :
    Calls Try.prog 29 #[.agg #[.slice A1 n1 c1, .slice A2 n2 c2, .slice A3 n3 c3, .slice A4 n4 c4], .agg #[.int .i64 op, .int .i64 dst, .int .i64 a, .int .i64 b, .int .i64 sa, .int .i64 sb, .int .i64 imm]] w
      fun e w' => e = .returned (.int .i64 (insErr n1 n2 op dst a b sa sb imm)) ∧ Below w.heap.size w w' := by
  have HR : Hid (usesR op = (true, false, true, false, false, true)) := hR
  clear hR
  go_enter Try.func29, Try.ntmps29
  go_wp2_with (first
    | (go_at_call 34; refine (ruses_at HR.out _).mono ?_; rintro e w1 ⟨rfl, rfl⟩)
    | (go_at_call 27; refine (within_any _ _ _ _).mono ?_; rintro e w1 ⟨rfl, rfl⟩)
    | (go_at_call 28; refine (word_any _ _).mono ?_; rintro e w1 ⟨rfl, rfl⟩))
  all_goals
    go_ret
    refine ⟨?_, ext_alloc (ext_alloc (Below.refl _ _) _) _⟩
    go_light
    have hR := HR.out
    simp only [beq_iff_eq, beq_eq_false_iff_ne, bne_iff_ne, bne_eq_false_iff_eq, ne_eq, withinB_shift, Bool.not_eq_true', Bool.not_eq_false'] at *
    simp only [withinB, decide_eq_true_eq, decide_eq_false_iff_not] at *
    refine ret_int ?_
    symm
    unfold insErr
    rw [hR]
    simp only [true_and, false_and, reduceCtorEq, if_false, or_false, false_or, Bool.true_eq_false, Bool.false_eq_true]
    (repeat' split) <;> first | rfl | omega | (exfalso; simp_all; done)

set_option maxRecDepth 100000 in
set_option maxHeartbeats 2000000 in
theorem rinstrMove (A1 A2 A3 A4 : Option Addr) (n1 n2 n3 n4 c1 c2 c3 c4 : Nat) (op dst a b sa sb imm : Int) (w : World) (hR : usesR op = (true, false, true, false, false, true)) (h0 : (op == 0) = false) (hn1 : n1 ≤ 1000000) (hn2 : n2 ≤ 1000000) :
    Calls Try.prog 29 #[.agg #[.slice A1 n1 c1, .slice A2 n2 c2, .slice A3 n3 c3, .slice A4 n4 c4], .agg #[.int .i64 op, .int .i64 dst, .int .i64 a, .int .i64 b, .int .i64 sa, .int .i64 sb, .int .i64 imm]] w
      fun e w' => e = .returned (.int .i64 (insErr n1 n2 op dst a b sa sb imm)) ∧ Below w.heap.size w w' := by
  have HR : Hid (usesR op = (true, false, true, false, false, true)) := hR
  clear hR
  go_enter Try.func29, Try.ntmps29
  go_wp2_with (first
    | (go_at_call 34; refine (ruses_at HR.out _).mono ?_; rintro e w1 ⟨rfl, rfl⟩)
    | (go_at_call 27; refine (within_any _ _ _ _).mono ?_; rintro e w1 ⟨rfl, rfl⟩)
    | (go_at_call 28; refine (word_any _ _).mono ?_; rintro e w1 ⟨rfl, rfl⟩))
  all_goals
    go_ret
    refine ⟨?_, ext_alloc (ext_alloc (Below.refl _ _) _) _⟩
    go_light
    have hR := HR.out
    simp only [beq_iff_eq, beq_eq_false_iff_ne, bne_iff_ne, bne_eq_false_iff_eq, ne_eq, withinB_shift, Bool.not_eq_true', Bool.not_eq_false'] at *
    simp only [withinB, decide_eq_true_eq, decide_eq_false_iff_not] at *
    refine ret_int ?_
    symm
    unfold insErr
    rw [hR]
    simp only [true_and, false_and, reduceCtorEq, if_false, or_false, false_or, Bool.true_eq_false, Bool.false_eq_true]
    (repeat' split) <;> first | rfl | omega | (exfalso; simp_all; done)

set_option maxRecDepth 100000 in
set_option maxHeartbeats 2000000 in
theorem rinstrConst (A1 A2 A3 A4 : Option Addr) (n1 n2 n3 n4 c1 c2 c3 c4 : Nat) (op dst a b sa sb imm : Int) (w : World) (hR : usesR op = (false, false, false, false, true, true)) (h0 : (op == 0) = false) (hn1 : n1 ≤ 1000000) (hn2 : n2 ≤ 1000000) :
    Calls Try.prog 29 #[.agg #[.slice A1 n1 c1, .slice A2 n2 c2, .slice A3 n3 c3, .slice A4 n4 c4], .agg #[.int .i64 op, .int .i64 dst, .int .i64 a, .int .i64 b, .int .i64 sa, .int .i64 sb, .int .i64 imm]] w
      fun e w' => e = .returned (.int .i64 (insErr n1 n2 op dst a b sa sb imm)) ∧ Below w.heap.size w w' := by
  have HR : Hid (usesR op = (false, false, false, false, true, true)) := hR
  clear hR
  go_enter Try.func29, Try.ntmps29
  go_wp2_with (first
    | (go_at_call 34; refine (ruses_at HR.out _).mono ?_; rintro e w1 ⟨rfl, rfl⟩)
    | (go_at_call 27; refine (within_any _ _ _ _).mono ?_; rintro e w1 ⟨rfl, rfl⟩)
    | (go_at_call 28; refine (word_any _ _).mono ?_; rintro e w1 ⟨rfl, rfl⟩))
  all_goals
    go_ret
    refine ⟨?_, ext_alloc (ext_alloc (Below.refl _ _) _) _⟩
    go_light
    have hR := HR.out
    simp only [beq_iff_eq, beq_eq_false_iff_ne, bne_iff_ne, bne_eq_false_iff_eq, ne_eq, withinB_shift, Bool.not_eq_true', Bool.not_eq_false'] at *
    simp only [withinB, decide_eq_true_eq, decide_eq_false_iff_not] at *
    refine ret_int ?_
    symm
    unfold insErr
    rw [hR]
    simp only [true_and, false_and, reduceCtorEq, if_false, or_false, false_or, Bool.true_eq_false, Bool.false_eq_true]
    (repeat' split) <;> first | rfl | omega | (exfalso; simp_all; done)

set_option maxRecDepth 100000 in
set_option maxHeartbeats 2000000 in
theorem rinstrAdd (A1 A2 A3 A4 : Option Addr) (n1 n2 n3 n4 c1 c2 c3 c4 : Nat) (op dst a b sa sb imm : Int) (w : World) (hR : usesR op = (true, true, true, true, false, true)) (h0 : (op == 0) = false) (hn1 : n1 ≤ 1000000) (hn2 : n2 ≤ 1000000) :
    Calls Try.prog 29 #[.agg #[.slice A1 n1 c1, .slice A2 n2 c2, .slice A3 n3 c3, .slice A4 n4 c4], .agg #[.int .i64 op, .int .i64 dst, .int .i64 a, .int .i64 b, .int .i64 sa, .int .i64 sb, .int .i64 imm]] w
      fun e w' => e = .returned (.int .i64 (insErr n1 n2 op dst a b sa sb imm)) ∧ Below w.heap.size w w' := by
  have HR : Hid (usesR op = (true, true, true, true, false, true)) := hR
  clear hR
  go_enter Try.func29, Try.ntmps29
  go_wp2_with (first
    | (go_at_call 34; refine (ruses_at HR.out _).mono ?_; rintro e w1 ⟨rfl, rfl⟩)
    | (go_at_call 27; refine (within_any _ _ _ _).mono ?_; rintro e w1 ⟨rfl, rfl⟩)
    | (go_at_call 28; refine (word_any _ _).mono ?_; rintro e w1 ⟨rfl, rfl⟩))
  all_goals
    go_ret
    refine ⟨?_, ext_alloc (ext_alloc (Below.refl _ _) _) _⟩
    go_light
    have hR := HR.out
    simp only [beq_iff_eq, beq_eq_false_iff_ne, bne_iff_ne, bne_eq_false_iff_eq, ne_eq, withinB_shift, Bool.not_eq_true', Bool.not_eq_false'] at *
    simp only [withinB, decide_eq_true_eq, decide_eq_false_iff_not] at *
    refine ret_int ?_
    symm
    unfold insErr
    rw [hR]
    simp only [true_and, false_and, reduceCtorEq, if_false, or_false, false_or, Bool.true_eq_false, Bool.false_eq_true]
    (repeat' split) <;> first | rfl | omega | (exfalso; simp_all; done)

set_option maxRecDepth 100000 in
set_option maxHeartbeats 2000000 in
theorem rinstrGain (A1 A2 A3 A4 : Option Addr) (n1 n2 n3 n4 c1 c2 c3 c4 : Nat) (op dst a b sa sb imm : Int) (w : World) (hR : usesR op = (true, false, true, false, true, true)) (h0 : (op == 0) = false) (hn1 : n1 ≤ 1000000) (hn2 : n2 ≤ 1000000) :
    Calls Try.prog 29 #[.agg #[.slice A1 n1 c1, .slice A2 n2 c2, .slice A3 n3 c3, .slice A4 n4 c4], .agg #[.int .i64 op, .int .i64 dst, .int .i64 a, .int .i64 b, .int .i64 sa, .int .i64 sb, .int .i64 imm]] w
      fun e w' => e = .returned (.int .i64 (insErr n1 n2 op dst a b sa sb imm)) ∧ Below w.heap.size w w' := by
  have HR : Hid (usesR op = (true, false, true, false, true, true)) := hR
  clear hR
  go_enter Try.func29, Try.ntmps29
  go_wp2_with (first
    | (go_at_call 34; refine (ruses_at HR.out _).mono ?_; rintro e w1 ⟨rfl, rfl⟩)
    | (go_at_call 27; refine (within_any _ _ _ _).mono ?_; rintro e w1 ⟨rfl, rfl⟩)
    | (go_at_call 28; refine (word_any _ _).mono ?_; rintro e w1 ⟨rfl, rfl⟩))
  all_goals
    go_ret
    refine ⟨?_, ext_alloc (ext_alloc (Below.refl _ _) _) _⟩
    go_light
    have hR := HR.out
    simp only [beq_iff_eq, beq_eq_false_iff_ne, bne_iff_ne, bne_eq_false_iff_eq, ne_eq, withinB_shift, Bool.not_eq_true', Bool.not_eq_false'] at *
    simp only [withinB, decide_eq_true_eq, decide_eq_false_iff_not] at *
    refine ret_int ?_
    symm
    unfold insErr
    rw [hR]
    simp only [true_and, false_and, reduceCtorEq, if_false, or_false, false_or, Bool.true_eq_false, Bool.false_eq_true]
    (repeat' split) <;> first | rfl | omega | (exfalso; simp_all; done)

set_option maxRecDepth 100000 in
set_option maxHeartbeats 2000000 in
theorem rinstrMul (A1 A2 A3 A4 : Option Addr) (n1 n2 n3 n4 c1 c2 c3 c4 : Nat) (op dst a b sa sb imm : Int) (w : World) (hR : usesR op = (true, true, true, false, false, true)) (h0 : (op == 0) = false) (hn1 : n1 ≤ 1000000) (hn2 : n2 ≤ 1000000) :
    Calls Try.prog 29 #[.agg #[.slice A1 n1 c1, .slice A2 n2 c2, .slice A3 n3 c3, .slice A4 n4 c4], .agg #[.int .i64 op, .int .i64 dst, .int .i64 a, .int .i64 b, .int .i64 sa, .int .i64 sb, .int .i64 imm]] w
      fun e w' => e = .returned (.int .i64 (insErr n1 n2 op dst a b sa sb imm)) ∧ Below w.heap.size w w' := by
  have HR : Hid (usesR op = (true, true, true, false, false, true)) := hR
  clear hR
  go_enter Try.func29, Try.ntmps29
  go_wp2_with (first
    | (go_at_call 34; refine (ruses_at HR.out _).mono ?_; rintro e w1 ⟨rfl, rfl⟩)
    | (go_at_call 27; refine (within_any _ _ _ _).mono ?_; rintro e w1 ⟨rfl, rfl⟩)
    | (go_at_call 28; refine (word_any _ _).mono ?_; rintro e w1 ⟨rfl, rfl⟩))
  all_goals
    go_ret
    refine ⟨?_, ext_alloc (ext_alloc (Below.refl _ _) _) _⟩
    go_light
    have hR := HR.out
    simp only [beq_iff_eq, beq_eq_false_iff_ne, bne_iff_ne, bne_eq_false_iff_eq, ne_eq, withinB_shift, Bool.not_eq_true', Bool.not_eq_false'] at *
    simp only [withinB, decide_eq_true_eq, decide_eq_false_iff_not] at *
    refine ret_int ?_
    symm
    unfold insErr
    rw [hR]
    simp only [true_and, false_and, reduceCtorEq, if_false, or_false, false_or, Bool.true_eq_false, Bool.false_eq_true]
    (repeat' split) <;> first | rfl | omega | (exfalso; simp_all; done)
end Go.Proofs.Ytdhlmbnmgioeeaa
