/- The check of one instruction, of the program: by the kinds of operations. No conditions. -/
import Derived.Test.YtdhlmbnmgioeeaaCdB0
import Derived.Deep.Light
namespace Go.Proofs.Ytdhlmbnmgioeeaa
set_option linter.unusedVariables false
set_option linter.unusedSimpArgs false
set_option linter.unusedSectionVars false
open Go.RowKit

set_option maxRecDepth 100000 in
set_option maxHeartbeats 2000000 in
theorem checkIn (A1 A2 A3 A4 : Option Addr) (n1 n2 n3 n4 c1 c2 c3 c4 : Nat) (op dst a b sa sb imm : Int) (w : World) (hF : usesF op = (5, true)) (hR : usesR op = (true, false, true, false, false, true)) (h0 : (op == 0) = true) (hn1 : n1 ≤ 1000000) (hn2 : n2 ≤ 1000000) :
    Calls Try.prog 33 #[.agg #[.slice A1 n1 c1, .slice A2 n2 c2, .slice A3 n3 c3, .slice A4 n4 c4], .agg #[.int .i64 op, .int .i64 dst, .int .i64 a, .int .i64 b, .int .i64 sa, .int .i64 sb, .int .i64 imm]] w
      fun e w' => e = .returned (errV (insErr n1 n2 op dst a b sa sb imm)) ∧ Below w.heap.size w w' := by
  have HF : Hid (usesF op = (5, true)) := hF
  have HR : Hid (usesR op = (true, false, true, false, false, true)) := hR
  clear hF hR
  have bt1 : bits BinOp.and IntKind.i64 5 1 = 1 := by decide
  have bt2 : bits BinOp.and IntKind.i64 5 2 = 0 := by decide
  have bt4 : bits BinOp.and IntKind.i64 5 4 = 4 := by decide
  have bt8 : bits BinOp.and IntKind.i64 5 8 = 0 := by decide
  have bt16 : bits BinOp.and IntKind.i64 5 16 = 0 := by decide
  go_enter Try.func33, Try.ntmps33
  go_wp2_with (first
    | (go_at_call 45; refine (uses_at HF.out _).mono ?_; rintro e w1 ⟨rfl, rfl⟩)
    | (go_at_call 46; refine (shift_any _ _).mono ?_; rintro e w1 ⟨rfl, rfl⟩)
    | (go_at_call 25; refine (short_any _ _).mono ?_; rintro e w1 ⟨rfl, rfl⟩))
  all_goals clear bt1 bt2 bt4 bt8 bt16
  all_goals
    go_ret
    refine ⟨?_, ext_alloc (ext_alloc (Below.refl _ _) _) _⟩
    go_light
    have hR := HR.out
    first
      | refine ret_err (k := 10) ?_ rfl
      | refine ret_err (k := 3) ?_ rfl
      | refine ret_err (k := 2) ?_ rfl
      | refine ret_err (k := 0) ?_ rfl
    simp only [beq_iff_eq, beq_eq_false_iff_ne, bne_iff_ne, bne_eq_false_iff_eq, ne_eq, Bool.not_eq_true', Bool.not_eq_false'] at *
    unfold insErr
    rw [hR]
    simp only [true_and, false_and, reduceCtorEq, if_false, or_false, false_or, Bool.true_eq_false, Bool.false_eq_true]
    (repeat' split) <;> first | rfl | omega | (exfalso; simp_all; done)

set_option maxRecDepth 100000 in
set_option maxHeartbeats 2000000 in
theorem checkMove (A1 A2 A3 A4 : Option Addr) (n1 n2 n3 n4 c1 c2 c3 c4 : Nat) (op dst a b sa sb imm : Int) (w : World) (hF : usesF op = (5, true)) (hR : usesR op = (true, false, true, false, false, true)) (h0 : (op == 0) = false) (hn1 : n1 ≤ 1000000) (hn2 : n2 ≤ 1000000) :
    Calls Try.prog 33 #[.agg #[.slice A1 n1 c1, .slice A2 n2 c2, .slice A3 n3 c3, .slice A4 n4 c4], .agg #[.int .i64 op, .int .i64 dst, .int .i64 a, .int .i64 b, .int .i64 sa, .int .i64 sb, .int .i64 imm]] w
      fun e w' => e = .returned (errV (insErr n1 n2 op dst a b sa sb imm)) ∧ Below w.heap.size w w' := by
  have HF : Hid (usesF op = (5, true)) := hF
  have HR : Hid (usesR op = (true, false, true, false, false, true)) := hR
  clear hF hR
  have bt1 : bits BinOp.and IntKind.i64 5 1 = 1 := by decide
  have bt2 : bits BinOp.and IntKind.i64 5 2 = 0 := by decide
  have bt4 : bits BinOp.and IntKind.i64 5 4 = 4 := by decide
  have bt8 : bits BinOp.and IntKind.i64 5 8 = 0 := by decide
  have bt16 : bits BinOp.and IntKind.i64 5 16 = 0 := by decide
  go_enter Try.func33, Try.ntmps33
  go_wp2_with (first
    | (go_at_call 45; refine (uses_at HF.out _).mono ?_; rintro e w1 ⟨rfl, rfl⟩)
    | (go_at_call 46; refine (shift_any _ _).mono ?_; rintro e w1 ⟨rfl, rfl⟩)
    | (go_at_call 25; refine (short_any _ _).mono ?_; rintro e w1 ⟨rfl, rfl⟩))
  all_goals clear bt1 bt2 bt4 bt8 bt16
  all_goals
    go_ret
    refine ⟨?_, ext_alloc (ext_alloc (Below.refl _ _) _) _⟩
    go_light
    have hR := HR.out
    first
      | refine ret_err (k := 10) ?_ rfl
      | refine ret_err (k := 3) ?_ rfl
      | refine ret_err (k := 2) ?_ rfl
      | refine ret_err (k := 0) ?_ rfl
    simp only [beq_iff_eq, beq_eq_false_iff_ne, bne_iff_ne, bne_eq_false_iff_eq, ne_eq, Bool.not_eq_true', Bool.not_eq_false'] at *
    unfold insErr
    rw [hR]
    simp only [true_and, false_and, reduceCtorEq, if_false, or_false, false_or, Bool.true_eq_false, Bool.false_eq_true]
    (repeat' split) <;> first | rfl | omega | (exfalso; simp_all; done)

set_option maxRecDepth 100000 in
set_option maxHeartbeats 2000000 in
theorem checkConst (A1 A2 A3 A4 : Option Addr) (n1 n2 n3 n4 c1 c2 c3 c4 : Nat) (op dst a b sa sb imm : Int) (w : World) (hF : usesF op = (16, true)) (hR : usesR op = (false, false, false, false, true, true)) (h0 : (op == 0) = false) (hn1 : n1 ≤ 1000000) (hn2 : n2 ≤ 1000000) :
    Calls Try.prog 33 #[.agg #[.slice A1 n1 c1, .slice A2 n2 c2, .slice A3 n3 c3, .slice A4 n4 c4], .agg #[.int .i64 op, .int .i64 dst, .int .i64 a, .int .i64 b, .int .i64 sa, .int .i64 sb, .int .i64 imm]] w
      fun e w' => e = .returned (errV (insErr n1 n2 op dst a b sa sb imm)) ∧ Below w.heap.size w w' := by
  have HF : Hid (usesF op = (16, true)) := hF
  have HR : Hid (usesR op = (false, false, false, false, true, true)) := hR
  clear hF hR
  have bt1 : bits BinOp.and IntKind.i64 16 1 = 0 := by decide
  have bt2 : bits BinOp.and IntKind.i64 16 2 = 0 := by decide
  have bt4 : bits BinOp.and IntKind.i64 16 4 = 0 := by decide
  have bt8 : bits BinOp.and IntKind.i64 16 8 = 0 := by decide
  have bt16 : bits BinOp.and IntKind.i64 16 16 = 16 := by decide
  go_enter Try.func33, Try.ntmps33
  go_wp2_with (first
    | (go_at_call 45; refine (uses_at HF.out _).mono ?_; rintro e w1 ⟨rfl, rfl⟩)
    | (go_at_call 46; refine (shift_any _ _).mono ?_; rintro e w1 ⟨rfl, rfl⟩)
    | (go_at_call 25; refine (short_any _ _).mono ?_; rintro e w1 ⟨rfl, rfl⟩))
  all_goals clear bt1 bt2 bt4 bt8 bt16
  all_goals
    go_ret
    refine ⟨?_, ext_alloc (ext_alloc (Below.refl _ _) _) _⟩
    go_light
    have hR := HR.out
    first
      | refine ret_err (k := 10) ?_ rfl
      | refine ret_err (k := 3) ?_ rfl
      | refine ret_err (k := 2) ?_ rfl
      | refine ret_err (k := 0) ?_ rfl
    simp only [beq_iff_eq, beq_eq_false_iff_ne, bne_iff_ne, bne_eq_false_iff_eq, ne_eq, Bool.not_eq_true', Bool.not_eq_false'] at *
    unfold insErr
    rw [hR]
    simp only [true_and, false_and, reduceCtorEq, if_false, or_false, false_or, Bool.true_eq_false, Bool.false_eq_true]
    (repeat' split) <;> first | rfl | omega | (exfalso; simp_all; done)

set_option maxRecDepth 100000 in
set_option maxHeartbeats 2000000 in
theorem checkAdd (A1 A2 A3 A4 : Option Addr) (n1 n2 n3 n4 c1 c2 c3 c4 : Nat) (op dst a b sa sb imm : Int) (w : World) (hF : usesF op = (15, true)) (hR : usesR op = (true, true, true, true, false, true)) (h0 : (op == 0) = false) (hn1 : n1 ≤ 1000000) (hn2 : n2 ≤ 1000000) :
    Calls Try.prog 33 #[.agg #[.slice A1 n1 c1, .slice A2 n2 c2, .slice A3 n3 c3, .slice A4 n4 c4], .agg #[.int .i64 op, .int .i64 dst, .int .i64 a, .int .i64 b, .int .i64 sa, .int .i64 sb, .int .i64 imm]] w
      fun e w' => e = .returned (errV (insErr n1 n2 op dst a b sa sb imm)) ∧ Below w.heap.size w w' := by
  have HF : Hid (usesF op = (15, true)) := hF
  have HR : Hid (usesR op = (true, true, true, true, false, true)) := hR
  clear hF hR
  have bt1 : bits BinOp.and IntKind.i64 15 1 = 1 := by decide
  have bt2 : bits BinOp.and IntKind.i64 15 2 = 2 := by decide
  have bt4 : bits BinOp.and IntKind.i64 15 4 = 4 := by decide
  have bt8 : bits BinOp.and IntKind.i64 15 8 = 8 := by decide
  have bt16 : bits BinOp.and IntKind.i64 15 16 = 0 := by decide
  go_enter Try.func33, Try.ntmps33
  go_wp2_with (first
    | (go_at_call 45; refine (uses_at HF.out _).mono ?_; rintro e w1 ⟨rfl, rfl⟩)
    | (go_at_call 46; refine (shift_any _ _).mono ?_; rintro e w1 ⟨rfl, rfl⟩)
    | (go_at_call 25; refine (short_any _ _).mono ?_; rintro e w1 ⟨rfl, rfl⟩))
  all_goals clear bt1 bt2 bt4 bt8 bt16
  all_goals
    go_ret
    refine ⟨?_, ext_alloc (ext_alloc (Below.refl _ _) _) _⟩
    go_light
    have hR := HR.out
    first
      | refine ret_err (k := 10) ?_ rfl
      | refine ret_err (k := 3) ?_ rfl
      | refine ret_err (k := 2) ?_ rfl
      | refine ret_err (k := 0) ?_ rfl
    simp only [beq_iff_eq, beq_eq_false_iff_ne, bne_iff_ne, bne_eq_false_iff_eq, ne_eq, Bool.not_eq_true', Bool.not_eq_false'] at *
    unfold insErr
    rw [hR]
    simp only [true_and, false_and, reduceCtorEq, if_false, or_false, false_or, Bool.true_eq_false, Bool.false_eq_true]
    (repeat' split) <;> first | rfl | omega | (exfalso; simp_all; done)

set_option maxRecDepth 100000 in
set_option maxHeartbeats 2000000 in
theorem checkGain (A1 A2 A3 A4 : Option Addr) (n1 n2 n3 n4 c1 c2 c3 c4 : Nat) (op dst a b sa sb imm : Int) (w : World) (hF : usesF op = (21, true)) (hR : usesR op = (true, false, true, false, true, true)) (h0 : (op == 0) = false) (hn1 : n1 ≤ 1000000) (hn2 : n2 ≤ 1000000) :
    Calls Try.prog 33 #[.agg #[.slice A1 n1 c1, .slice A2 n2 c2, .slice A3 n3 c3, .slice A4 n4 c4], .agg #[.int .i64 op, .int .i64 dst, .int .i64 a, .int .i64 b, .int .i64 sa, .int .i64 sb, .int .i64 imm]] w
      fun e w' => e = .returned (errV (insErr n1 n2 op dst a b sa sb imm)) ∧ Below w.heap.size w w' := by
  have HF : Hid (usesF op = (21, true)) := hF
  have HR : Hid (usesR op = (true, false, true, false, true, true)) := hR
  clear hF hR
  have bt1 : bits BinOp.and IntKind.i64 21 1 = 1 := by decide
  have bt2 : bits BinOp.and IntKind.i64 21 2 = 0 := by decide
  have bt4 : bits BinOp.and IntKind.i64 21 4 = 4 := by decide
  have bt8 : bits BinOp.and IntKind.i64 21 8 = 0 := by decide
  have bt16 : bits BinOp.and IntKind.i64 21 16 = 16 := by decide
  go_enter Try.func33, Try.ntmps33
  go_wp2_with (first
    | (go_at_call 45; refine (uses_at HF.out _).mono ?_; rintro e w1 ⟨rfl, rfl⟩)
    | (go_at_call 46; refine (shift_any _ _).mono ?_; rintro e w1 ⟨rfl, rfl⟩)
    | (go_at_call 25; refine (short_any _ _).mono ?_; rintro e w1 ⟨rfl, rfl⟩))
  all_goals clear bt1 bt2 bt4 bt8 bt16
  all_goals
    go_ret
    refine ⟨?_, ext_alloc (ext_alloc (Below.refl _ _) _) _⟩
    go_light
    have hR := HR.out
    first
      | refine ret_err (k := 10) ?_ rfl
      | refine ret_err (k := 3) ?_ rfl
      | refine ret_err (k := 2) ?_ rfl
      | refine ret_err (k := 0) ?_ rfl
    simp only [beq_iff_eq, beq_eq_false_iff_ne, bne_iff_ne, bne_eq_false_iff_eq, ne_eq, Bool.not_eq_true', Bool.not_eq_false'] at *
    unfold insErr
    rw [hR]
    simp only [true_and, false_and, reduceCtorEq, if_false, or_false, false_or, Bool.true_eq_false, Bool.false_eq_true]
    (repeat' split) <;> first | rfl | omega | (exfalso; simp_all; done)

set_option maxRecDepth 100000 in
set_option maxHeartbeats 2000000 in
theorem checkMul (A1 A2 A3 A4 : Option Addr) (n1 n2 n3 n4 c1 c2 c3 c4 : Nat) (op dst a b sa sb imm : Int) (w : World) (hF : usesF op = (7, true)) (hR : usesR op = (true, true, true, false, false, true)) (h0 : (op == 0) = false) (hn1 : n1 ≤ 1000000) (hn2 : n2 ≤ 1000000) :
    Calls Try.prog 33 #[.agg #[.slice A1 n1 c1, .slice A2 n2 c2, .slice A3 n3 c3, .slice A4 n4 c4], .agg #[.int .i64 op, .int .i64 dst, .int .i64 a, .int .i64 b, .int .i64 sa, .int .i64 sb, .int .i64 imm]] w
      fun e w' => e = .returned (errV (insErr n1 n2 op dst a b sa sb imm)) ∧ Below w.heap.size w w' := by
  have HF : Hid (usesF op = (7, true)) := hF
  have HR : Hid (usesR op = (true, true, true, false, false, true)) := hR
  clear hF hR
  have bt1 : bits BinOp.and IntKind.i64 7 1 = 1 := by decide
  have bt2 : bits BinOp.and IntKind.i64 7 2 = 2 := by decide
  have bt4 : bits BinOp.and IntKind.i64 7 4 = 4 := by decide
  have bt8 : bits BinOp.and IntKind.i64 7 8 = 0 := by decide
  have bt16 : bits BinOp.and IntKind.i64 7 16 = 0 := by decide
  go_enter Try.func33, Try.ntmps33
  go_wp2_with (first
    | (go_at_call 45; refine (uses_at HF.out _).mono ?_; rintro e w1 ⟨rfl, rfl⟩)
    | (go_at_call 46; refine (shift_any _ _).mono ?_; rintro e w1 ⟨rfl, rfl⟩)
    | (go_at_call 25; refine (short_any _ _).mono ?_; rintro e w1 ⟨rfl, rfl⟩))
  all_goals clear bt1 bt2 bt4 bt8 bt16
  all_goals
    go_ret
    refine ⟨?_, ext_alloc (ext_alloc (Below.refl _ _) _) _⟩
    go_light
    have hR := HR.out
    first
      | refine ret_err (k := 10) ?_ rfl
      | refine ret_err (k := 3) ?_ rfl
      | refine ret_err (k := 2) ?_ rfl
      | refine ret_err (k := 0) ?_ rfl
    simp only [beq_iff_eq, beq_eq_false_iff_ne, bne_iff_ne, bne_eq_false_iff_eq, ne_eq, Bool.not_eq_true', Bool.not_eq_false'] at *
    unfold insErr
    rw [hR]
    simp only [true_and, false_and, reduceCtorEq, if_false, or_false, false_or, Bool.true_eq_false, Bool.false_eq_true]
    (repeat' split) <;> first | rfl | omega | (exfalso; simp_all; done)
end Go.Proofs.Ytdhlmbnmgioeeaa
