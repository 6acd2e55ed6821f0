/- What the proofs of this claim share, part 13. No conditions. -/
import Derived.Test.YtmdfjbpggbhgnaaDoorKw5
import Derived.Test.YtmdfjbpggbhgnaaDoorKw3
import Derived.BigGuardPart
import Derived.Deep.Light
set_option maxHeartbeats 4000000
set_option maxRecDepth 100000
set_option linter.unusedVariables false
set_option linter.unusedSimpArgs false
set_option linter.unusedSectionVars false
namespace Go.Proofs.YtmdfjbpggbhgnaaDoor
namespace Cd
open Go.RowKit
def shortB (n : Int) : Bool := decide (-2147483648 ≤ n ∧ n < 2147483648)
def shiftB (n : Int) : Bool := decide (-62 ≤ n ∧ n ≤ 30)
theorem shortB_t {n : Int} (h : shortB n = true) : -2147483648 ≤ n ∧ n < 2147483648 := by simpa [shortB] using h
theorem short_any (n : Int) (w : World) : Calls Tryd.prog 26 #[.int .i64 n] w fun e w' => e = .returned (.bool (shortB n)) ∧ w = w' := by
  go_enter Tryd.func26, Tryd.ntmps26
  go_wp2
  all_goals
    go_ret
    exact ⟨ret_bool (by simp [shortB]; omega), rfl⟩
theorem shift_any (n : Int) (w : World) : Calls Tryd.prog 63 #[.int .i64 n] w fun e w' => e = .returned (.bool (shiftB n)) ∧ w = w' := by
  go_enter Tryd.func63, Tryd.ntmps63
  go_wp2
  all_goals
    go_ret
    exact ⟨ret_bool (by simp [shiftB]; omega), rfl⟩
def scl (x k : Int) : Int := if k < 0 then x / 2 ^ (-k).toNat else max (-4294967296) (min x 4294967296) * 2 ^ k.toNat
theorem scaled_any (x k : Int) (w : World) (h1 : -62 ≤ k) (h2 : k ≤ 30) : Calls Tryd.prog 27 #[.int .i64 x, .int .i64 k] w fun e w' => e = .returned (.int .i64 (scl x k)) ∧ w = w' := by
  go_enter Tryd.func27, Tryd.ntmps27
  go_wp2
  · have hk : k < 0 := by assumption
    go_ret
    exact ⟨ret_int (by unfold scl; rw [if_pos hk]), rfl⟩
  · have hk : 0 ≤ k := by assumption
    go_ret
    refine ⟨ret_int ?_, rfl⟩
    obtain ⟨n, rfl⟩ := Int.eq_ofNat_of_zero_le hk
    have hp : (2 : Int) ^ n ≤ 2 ^ 30 := by exact_mod_cast Nat.pow_le_pow_right (by omega) (by omega)
    have hp0 : (0 : Int) ≤ 2 ^ n := Int.pow_nonneg (by omega)
    have m1 : -4294967296 ≤ max (-4294967296) (min x 4294967296) := by omega
    have m2 : max (-4294967296) (min x 4294967296) ≤ 4294967296 := by omega
    have a := Int.mul_le_mul_of_nonneg_right m2 hp0
    have b := Int.mul_le_mul_of_nonneg_right m1 hp0
    unfold scl
    rw [if_neg (by omega), Int.toNat_natCast, wrap64_in' (by omega) (by omega)]
def usesF (op : Int) : Int × Bool :=
  if op = 0 ∨ op = 2 ∨ op = 5 ∨ op = 10 then (5, true) else if op = 1 then (16, true) else if op = 3 ∨ op = 4 ∨ op = 8 ∨ op = 9 then (15, true) else if op = 6 then (21, true) else if op = 7 then (7, true) else (0, false)
theorem uses_eq {op u : Int} {b : Bool} (h : (u, b) = usesF op) : Ending.returned (.tuple #[.int .i64 u, .bool b]) = .returned (.tuple #[.int .i64 (usesF op).1, .bool (usesF op).2]) := by rw [← h]
theorem uses_any (op : Int) (w : World) : Calls Tryd.prog 62 #[.int .i64 op] w fun e w' => e = .returned (.tuple #[.int .i64 (usesF op).1, .bool (usesF op).2]) ∧ w = w' := by
  go_enter Tryd.func62, Tryd.ntmps62
  go_wp2
  all_goals
    go_ret2
    exact ⟨uses_eq (by simp only [beq_iff_eq, beq_eq_false_iff_ne, ne_eq] at *; simp [usesF, *]), rfl⟩
def usesR (op : Int) : Bool × Bool × Bool × Bool × Bool × Bool :=
  if op = 0 ∨ op = 2 ∨ op = 5 ∨ op = 10 then (true, false, true, false, false, true) else if op = 1 then (false, false, false, false, true, true) else if op = 3 ∨ op = 4 ∨ op = 8 ∨ op = 9 then (true, true, true, true, false, true)
  else if op = 6 then (true, false, true, false, true, true) else if op = 7 then (true, true, true, false, false, true) else (false, false, false, false, false, false)
def withinB (n lo hi : Int) : Bool := decide (lo ≤ n ∧ n ≤ hi)
end Cd
end Go.Proofs.YtmdfjbpggbhgnaaDoor
namespace Go.Proofs.YtmdfjbpggbhgnaaDoor
namespace Cd
open Go.RowKit
def insErr (np n : Nat) (op dst a b sa sb imm : Int) : Int :=
  if (usesR op).2.2.2.2.2 = false then 7
  else if ¬ (0 ≤ dst ∧ dst < n) then 10
  else if (usesR op).1 = true ∧ ¬ (0 ≤ a ∧ a < (if op = 0 then (np : Int) else n)) then 10
  else if (usesR op).2.1 = true ∧ ¬ (0 ≤ b ∧ b < n) then 10
  else if (usesR op).2.2.1 = true ∧ shiftB sa = false then 3
  else if (usesR op).2.2.2.1 = true ∧ shiftB sb = false then 3
  else if (usesR op).2.2.2.2.1 = true ∧ shortB imm = false then 3
  else if ((usesR op).1 = false ∧ a ≠ 0) ∨ ((usesR op).2.1 = false ∧ b ≠ 0) ∨ ((usesR op).2.2.1 = false ∧ sa ≠ 0) ∨ ((usesR op).2.2.2.1 = false ∧ sb ≠ 0) ∨ ((usesR op).2.2.2.2.1 = false ∧ imm ≠ 0) then 2
  else 0
theorem ret_err {v : Value} {k n : Int} (h : n = k) (hv : v = errV k) : Ending.returned v = .returned (errV n) := by rw [hv, h]
theorem uses_at {op u : Int} (h : usesF op = (u, true)) (w : World) : Calls Tryd.prog 62 #[.int .i64 op] w fun e w' => e = .returned (.tuple #[.int .i64 u, .bool true]) ∧ w = w' :=
  (uses_any op w).mono fun _ _ ⟨he, hw⟩ => ⟨by rw [he, h], hw⟩
end Cd
end Go.Proofs.YtmdfjbpggbhgnaaDoor
namespace Go.Proofs.YtmdfjbpggbhgnaaDoor
namespace Cd
open Go.RowKit
theorem checkIn (A1 A2 A3 A4 : Option Addr) (n1 n2 n3 n4 c1 c2 c3 c4 : Nat) (op dst a b sa sb imm : Int) (w : World) (hF : usesF op = (5, true)) (hR : usesR op = (true, false, true, false, false, true)) (h0 : (op == 0) = true) (hn1 : n1 ≤ 1000000) (hn2 : n2 ≤ 1000000) :
    Calls Tryd.prog 45 #[.agg #[.slice A1 n1 c1, .slice A2 n2 c2, .slice A3 n3 c3, .slice A4 n4 c4], .agg #[.int .i64 op, .int .i64 dst, .int .i64 a, .int .i64 b, .int .i64 sa, .int .i64 sb, .int .i64 imm]] w
      fun e w' => e = .returned (errV (insErr n1 n2 op dst a b sa sb imm)) ∧ Below w.heap.size w w' := by
  have HF : Hid (usesF op = (5, true)) := hF
  have HR : Hid (usesR op = (true, false, true, false, false, true)) := hR
  clear hF hR
  have bt1 : bits BinOp.and IntKind.i64 5 1 = 1 := by decide
  have bt2 : bits BinOp.and IntKind.i64 5 2 = 0 := by decide
  have bt4 : bits BinOp.and IntKind.i64 5 4 = 4 := by decide
  have bt8 : bits BinOp.and IntKind.i64 5 8 = 0 := by decide
  have bt16 : bits BinOp.and IntKind.i64 5 16 = 0 := by decide
  go_enter Tryd.func45, Tryd.ntmps45
  go_wp2_with (first
    | (go_at_call 62; refine (uses_at HF.out _).mono ?_; rintro e w1 ⟨rfl, rfl⟩)
    | (go_at_call 63; refine (shift_any _ _).mono ?_; rintro e w1 ⟨rfl, rfl⟩)
    | (go_at_call 26; refine (short_any _ _).mono ?_; rintro e w1 ⟨rfl, rfl⟩))
  all_goals clear bt1 bt2 bt4 bt8 bt16
  all_goals
    go_ret
    refine ⟨?_, ext_alloc (ext_alloc (Below.refl _ _) _) _⟩
    go_light
    have hR := HR.out
    first
      | refine ret_err (k := 10) ?_ rfl
      | refine ret_err (k := 3) ?_ rfl
      | refine ret_err (k := 2) ?_ rfl
      | refine ret_err (k := 0) ?_ rfl
    simp only [beq_iff_eq, beq_eq_false_iff_ne, bne_iff_ne, bne_eq_false_iff_eq, ne_eq, Bool.not_eq_true', Bool.not_eq_false'] at *
    unfold insErr
    rw [hR]
    simp only [true_and, false_and, reduceCtorEq, if_false, or_false, false_or, Bool.true_eq_false, Bool.false_eq_true]
    (repeat' split) <;> first | rfl | omega | (exfalso; simp_all; done)
theorem checkMove (A1 A2 A3 A4 : Option Addr) (n1 n2 n3 n4 c1 c2 c3 c4 : Nat) (op dst a b sa sb imm : Int) (w : World) (hF : usesF op = (5, true)) (hR : usesR op = (true, false, true, false, false, true)) (h0 : (op == 0) = false) (hn1 : n1 ≤ 1000000) (hn2 : n2 ≤ 1000000) :
    Calls Tryd.prog 45 #[.agg #[.slice A1 n1 c1, .slice A2 n2 c2, .slice A3 n3 c3, .slice A4 n4 c4], .agg #[.int .i64 op, .int .i64 dst, .int .i64 a, .int .i64 b, .int .i64 sa, .int .i64 sb, .int .i64 imm]] w
      fun e w' => e = .returned (errV (insErr n1 n2 op dst a b sa sb imm)) ∧ Below w.heap.size w w' := by
  have HF : Hid (usesF op = (5, true)) := hF
  have HR : Hid (usesR op = (true, false, true, false, false, true)) := hR
  clear hF hR
  have bt1 : bits BinOp.and IntKind.i64 5 1 = 1 := by decide
  have bt2 : bits BinOp.and IntKind.i64 5 2 = 0 := by decide
  have bt4 : bits BinOp.and IntKind.i64 5 4 = 4 := by decide
  have bt8 : bits BinOp.and IntKind.i64 5 8 = 0 := by decide
  have bt16 : bits BinOp.and IntKind.i64 5 16 = 0 := by decide
  go_enter Tryd.func45, Tryd.ntmps45
  go_wp2_with (first
    | (go_at_call 62; refine (uses_at HF.out _).mono ?_; rintro e w1 ⟨rfl, rfl⟩)
    | (go_at_call 63; refine (shift_any _ _).mono ?_; rintro e w1 ⟨rfl, rfl⟩)
    | (go_at_call 26; refine (short_any _ _).mono ?_; rintro e w1 ⟨rfl, rfl⟩))
  all_goals clear bt1 bt2 bt4 bt8 bt16
  all_goals
    go_ret
    refine ⟨?_, ext_alloc (ext_alloc (Below.refl _ _) _) _⟩
    go_light
    have hR := HR.out
    first
      | refine ret_err (k := 10) ?_ rfl
      | refine ret_err (k := 3) ?_ rfl
      | refine ret_err (k := 2) ?_ rfl
      | refine ret_err (k := 0) ?_ rfl
    simp only [beq_iff_eq, beq_eq_false_iff_ne, bne_iff_ne, bne_eq_false_iff_eq, ne_eq, Bool.not_eq_true', Bool.not_eq_false'] at *
    unfold insErr
    rw [hR]
    simp only [true_and, false_and, reduceCtorEq, if_false, or_false, false_or, Bool.true_eq_false, Bool.false_eq_true]
    (repeat' split) <;> first | rfl | omega | (exfalso; simp_all; done)
theorem checkConst (A1 A2 A3 A4 : Option Addr) (n1 n2 n3 n4 c1 c2 c3 c4 : Nat) (op dst a b sa sb imm : Int) (w : World) (hF : usesF op = (16, true)) (hR : usesR op = (false, false, false, false, true, true)) (h0 : (op == 0) = false) (hn1 : n1 ≤ 1000000) (hn2 : n2 ≤ 1000000) :
    Calls Tryd.prog 45 #[.agg #[.slice A1 n1 c1, .slice A2 n2 c2, .slice A3 n3 c3, .slice A4 n4 c4], .agg #[.int .i64 op, .int .i64 dst, .int .i64 a, .int .i64 b, .int .i64 sa, .int .i64 sb, .int .i64 imm]] w
      fun e w' => e = .returned (errV (insErr n1 n2 op dst a b sa sb imm)) ∧ Below w.heap.size w w' := by
  have HF : Hid (usesF op = (16, true)) := hF
  have HR : Hid (usesR op = (false, false, false, false, true, true)) := hR
  clear hF hR
  have bt1 : bits BinOp.and IntKind.i64 16 1 = 0 := by decide
  have bt2 : bits BinOp.and IntKind.i64 16 2 = 0 := by decide
  have bt4 : bits BinOp.and IntKind.i64 16 4 = 0 := by decide
  have bt8 : bits BinOp.and IntKind.i64 16 8 = 0 := by decide
  have bt16 : bits BinOp.and IntKind.i64 16 16 = 16 := by decide
  go_enter Tryd.func45, Tryd.ntmps45
  go_wp2_with (first
    | (go_at_call 62; refine (uses_at HF.out _).mono ?_; rintro e w1 ⟨rfl, rfl⟩)
    | (go_at_call 63; refine (shift_any _ _).mono ?_; rintro e w1 ⟨rfl, rfl⟩)
    | (go_at_call 26; refine (short_any _ _).mono ?_; rintro e w1 ⟨rfl, rfl⟩))
  all_goals clear bt1 bt2 bt4 bt8 bt16
  all_goals
    go_ret
    refine ⟨?_, ext_alloc (ext_alloc (Below.refl _ _) _) _⟩
    go_light
    have hR := HR.out
    first
      | refine ret_err (k := 10) ?_ rfl
      | refine ret_err (k := 3) ?_ rfl
      | refine ret_err (k := 2) ?_ rfl
      | refine ret_err (k := 0) ?_ rfl
    simp only [beq_iff_eq, beq_eq_false_iff_ne, bne_iff_ne, bne_eq_false_iff_eq, ne_eq, Bool.not_eq_true', Bool.not_eq_false'] at *
    unfold insErr
    rw [hR]
    simp only [true_and, false_and, reduceCtorEq, if_false, or_false, false_or, Bool.true_eq_false, Bool.false_eq_true]
    (repeat' split) <;> first | rfl | omega | (exfalso; simp_all; done)
theorem checkAdd (A1 A2 A3 A4 : Option Addr) (n1 n2 n3 n4 c1 c2 c3 c4 : Nat) (op dst a b sa sb imm : Int) (w : World) (hF : usesF op = (15, true)) (hR : usesR op = (true, true, true, true, false, true)) (h0 : (op == 0) = false) (hn1 : n1 ≤ 1000000) (hn2 : n2 ≤ 1000000) :
    Calls Tryd.prog 45 #[.agg #[.slice A1 n1 c1, .slice A2 n2 c2, .slice A3 n3 c3, .slice A4 n4 c4], .agg #[.int .i64 op, .int .i64 dst, .int .i64 a, .int .i64 b, .int .i64 sa, .int .i64 sb, .int .i64 imm]] w
      fun e w' => e = .returned (errV (insErr n1 n2 op dst a b sa sb imm)) ∧ Below w.heap.size w w' := by
  have HF : Hid (usesF op = (15, true)) := hF
  have HR : Hid (usesR op = (true, true, true, true, false, true)) := hR
  clear hF hR
  have bt1 : bits BinOp.and IntKind.i64 15 1 = 1 := by decide
  have bt2 : bits BinOp.and IntKind.i64 15 2 = 2 := by decide
  have bt4 : bits BinOp.and IntKind.i64 15 4 = 4 := by decide
  have bt8 : bits BinOp.and IntKind.i64 15 8 = 8 := by decide
  have bt16 : bits BinOp.and IntKind.i64 15 16 = 0 := by decide
  go_enter Tryd.func45, Tryd.ntmps45
  go_wp2_with (first
    | (go_at_call 62; refine (uses_at HF.out _).mono ?_; rintro e w1 ⟨rfl, rfl⟩)
    | (go_at_call 63; refine (shift_any _ _).mono ?_; rintro e w1 ⟨rfl, rfl⟩)
    | (go_at_call 26; refine (short_any _ _).mono ?_; rintro e w1 ⟨rfl, rfl⟩))
  all_goals clear bt1 bt2 bt4 bt8 bt16
  all_goals
    go_ret
    refine ⟨?_, ext_alloc (ext_alloc (Below.refl _ _) _) _⟩
    go_light
    have hR := HR.out
    first
      | refine ret_err (k := 10) ?_ rfl
      | refine ret_err (k := 3) ?_ rfl
      | refine ret_err (k := 2) ?_ rfl
      | refine ret_err (k := 0) ?_ rfl
    simp only [beq_iff_eq, beq_eq_false_iff_ne, bne_iff_ne, bne_eq_false_iff_eq, ne_eq, Bool.not_eq_true', Bool.not_eq_false'] at *
    unfold insErr
    rw [hR]
    simp only [true_and, false_and, reduceCtorEq, if_false, or_false, false_or, Bool.true_eq_false, Bool.false_eq_true]
    (repeat' split) <;> first | rfl | omega | (exfalso; simp_all; done)
theorem checkGain (A1 A2 A3 A4 : Option Addr) (n1 n2 n3 n4 c1 c2 c3 c4 : Nat) (op dst a b sa sb imm : Int) (w : World) (hF : usesF op = (21, true)) (hR : usesR op = (true, false, true, false, true, true)) (h0 : (op == 0) = false) (hn1 : n1 ≤ 1000000) (hn2 : n2 ≤ 1000000) :
    Calls Tryd.prog 45 #[.agg #[.slice A1 n1 c1, .slice A2 n2 c2, .slice A3 n3 c3, .slice A4 n4 c4], .agg #[.int .i64 op, .int .i64 dst, .int .i64 a, .int .i64 b, .int .i64 sa, .int .i64 sb, .int .i64 imm]] w
      fun e w' => e = .returned (errV (insErr n1 n2 op dst a b sa sb imm)) ∧ Below w.heap.size w w' := by
  have HF : Hid (usesF op = (21, true)) := hF
  have HR : Hid (usesR op = (true, false, true, false, true, true)) := hR
  clear hF hR
  have bt1 : bits BinOp.and IntKind.i64 21 1 = 1 := by decide
  have bt2 : bits BinOp.and IntKind.i64 21 2 = 0 := by decide
  have bt4 : bits BinOp.and IntKind.i64 21 4 = 4 := by decide
  have bt8 : bits BinOp.and IntKind.i64 21 8 = 0 := by decide
  have bt16 : bits BinOp.and IntKind.i64 21 16 = 16 := by decide
  go_enter Tryd.func45, Tryd.ntmps45
  go_wp2_with (first
    | (go_at_call 62; refine (uses_at HF.out _).mono ?_; rintro e w1 ⟨rfl, rfl⟩)
    | (go_at_call 63; refine (shift_any _ _).mono ?_; rintro e w1 ⟨rfl, rfl⟩)
    | (go_at_call 26; refine (short_any _ _).mono ?_; rintro e w1 ⟨rfl, rfl⟩))
  all_goals clear bt1 bt2 bt4 bt8 bt16
  all_goals
    go_ret
    refine ⟨?_, ext_alloc (ext_alloc (Below.refl _ _) _) _⟩
    go_light
    have hR := HR.out
    first
      | refine ret_err (k := 10) ?_ rfl
      | refine ret_err (k := 3) ?_ rfl
      | refine ret_err (k := 2) ?_ rfl
      | refine ret_err (k := 0) ?_ rfl
    simp only [beq_iff_eq, beq_eq_false_iff_ne, bne_iff_ne, bne_eq_false_iff_eq, ne_eq, Bool.not_eq_true', Bool.not_eq_false'] at *
    unfold insErr
    rw [hR]
    simp only [true_and, false_and, reduceCtorEq, if_false, or_false, false_or, Bool.true_eq_false, Bool.false_eq_true]
    (repeat' split) <;> first | rfl | omega | (exfalso; simp_all; done)
theorem checkMul (A1 A2 A3 A4 : Option Addr) (n1 n2 n3 n4 c1 c2 c3 c4 : Nat) (op dst a b sa sb imm : Int) (w : World) (hF : usesF op = (7, true)) (hR : usesR op = (true, true, true, false, false, true)) (h0 : (op == 0) = false) (hn1 : n1 ≤ 1000000) (hn2 : n2 ≤ 1000000) :
    Calls Tryd.prog 45 #[.agg #[.slice A1 n1 c1, .slice A2 n2 c2, .slice A3 n3 c3, .slice A4 n4 c4], .agg #[.int .i64 op, .int .i64 dst, .int .i64 a, .int .i64 b, .int .i64 sa, .int .i64 sb, .int .i64 imm]] w
      fun e w' => e = .returned (errV (insErr n1 n2 op dst a b sa sb imm)) ∧ Below w.heap.size w w' := by
  have HF : Hid (usesF op = (7, true)) := hF
  have HR : Hid (usesR op = (true, true, true, false, false, true)) := hR
  clear hF hR
  have bt1 : bits BinOp.and IntKind.i64 7 1 = 1 := by decide
  have bt2 : bits BinOp.and IntKind.i64 7 2 = 2 := by decide
  have bt4 : bits BinOp.and IntKind.i64 7 4 = 4 := by decide
  have bt8 : bits BinOp.and IntKind.i64 7 8 = 0 := by decide
  have bt16 : bits BinOp.and IntKind.i64 7 16 = 0 := by decide
  go_enter Tryd.func45, Tryd.ntmps45
  go_wp2_with (first
    | (go_at_call 62; refine (uses_at HF.out _).mono ?_; rintro e w1 ⟨rfl, rfl⟩)
    | (go_at_call 63; refine (shift_any _ _).mono ?_; rintro e w1 ⟨rfl, rfl⟩)
    | (go_at_call 26; refine (short_any _ _).mono ?_; rintro e w1 ⟨rfl, rfl⟩))
  all_goals clear bt1 bt2 bt4 bt8 bt16
  all_goals
    go_ret
    refine ⟨?_, ext_alloc (ext_alloc (Below.refl _ _) _) _⟩
    go_light
    have hR := HR.out
    first
      | refine ret_err (k := 10) ?_ rfl
      | refine ret_err (k := 3) ?_ rfl
      | refine ret_err (k := 2) ?_ rfl
      | refine ret_err (k := 0) ?_ rfl
    simp only [beq_iff_eq, beq_eq_false_iff_ne, bne_iff_ne, bne_eq_false_iff_eq, ne_eq, Bool.not_eq_true', Bool.not_eq_false'] at *
    unfold insErr
    rw [hR]
    simp only [true_and, false_and, reduceCtorEq, if_false, or_false, false_or, Bool.true_eq_false, Bool.false_eq_true]
    (repeat' split) <;> first | rfl | omega | (exfalso; simp_all; done)
end Cd
end Go.Proofs.YtmdfjbpggbhgnaaDoor
namespace Go.Proofs.YtmdfjbpggbhgnaaDoor
namespace Cd
open Go.RowKit
end Cd
end Go.Proofs.YtmdfjbpggbhgnaaDoor
namespace Go.Proofs.YtmdfjbpggbhgnaaDoor
namespace Cd
open Go.RowKit
theorem usesF_bad {op : Int} (h : (usesR op).2.2.2.2.2 = false) : usesF op = (0, false) := by
  unfold usesR at h
  unfold usesF
  repeat' split at h
  all_goals simp_all
theorem uses_bad {op : Int} (h : usesF op = (0, false)) (w : World) : Calls Tryd.prog 62 #[.int .i64 op] w fun e w' => e = .returned (.tuple #[.int .i64 0, .bool false]) ∧ w = w' :=
  (uses_any op w).mono fun _ _ ⟨he, hw⟩ => ⟨by rw [he, h], hw⟩
section
variable (A1 A2 A3 A4 : Option Addr) (n1 n2 n3 n4 c1 c2 c3 c4 : Nat) (op dst a b sa sb imm : Int) (w : World)
theorem checkBad (h : (usesR op).2.2.2.2.2 = false) :
    Calls Tryd.prog 45 #[.agg #[.slice A1 n1 c1, .slice A2 n2 c2, .slice A3 n3 c3, .slice A4 n4 c4], .agg #[.int .i64 op, .int .i64 dst, .int .i64 a, .int .i64 b, .int .i64 sa, .int .i64 sb, .int .i64 imm]] w
      fun e w' => e = .returned (errV (insErr n1 n2 op dst a b sa sb imm)) ∧ Below w.heap.size w w' := by
  have HF : Hid (usesF op = (0, false)) := usesF_bad h
  have HE : Hid (insErr n1 n2 op dst a b sa sb imm = 7) := if_pos h
  clear h
  go_enter Tryd.func45, Tryd.ntmps45
  go_wp2_with (go_at_call 62; refine (uses_bad HF.out _).mono ?_; rintro e w1 ⟨rfl, rfl⟩)
  go_ret
  exact ⟨ret_err HE.out rfl, ext_alloc (ext_alloc (Below.refl _ _) _) _⟩
theorem ops_cases (op : Int) : (usesR op).2.2.2.2.2 = false ∨ (op = 0) ∨ (op = 2 ∨ op = 5 ∨ op = 10) ∨ op = 1 ∨ (op = 3 ∨ op = 4 ∨ op = 8 ∨ op = 9) ∨ op = 6 ∨ op = 7 := by
  by_cases h : (usesR op).2.2.2.2.2 = false
  · exact .inl h
  · right
    unfold usesR at h
    repeat' split at h
    all_goals first | omega | (exfalso; exact h rfl)
theorem check_any (hn1 : n1 ≤ 1000000) (hn2 : n2 ≤ 1000000) :
    Calls Tryd.prog 45 #[.agg #[.slice A1 n1 c1, .slice A2 n2 c2, .slice A3 n3 c3, .slice A4 n4 c4], .agg #[.int .i64 op, .int .i64 dst, .int .i64 a, .int .i64 b, .int .i64 sa, .int .i64 sb, .int .i64 imm]] w
      fun e w' => e = .returned (errV (insErr n1 n2 op dst a b sa sb imm)) ∧ Below w.heap.size w w' := by
  rcases ops_cases op with h | h | h | h | h | h | h
  · exact checkBad _ _ _ _ _ _ _ _ _ _ _ _ _ _ _ _ _ _ _ _ h
  · subst h; exact checkIn _ _ _ _ _ _ _ _ _ _ _ _ _ _ _ _ _ _ _ _ rfl rfl rfl hn1 hn2
  · rcases h with rfl | rfl | rfl <;> exact checkMove _ _ _ _ _ _ _ _ _ _ _ _ _ _ _ _ _ _ _ _ rfl rfl rfl hn1 hn2
  · subst h; exact checkConst _ _ _ _ _ _ _ _ _ _ _ _ _ _ _ _ _ _ _ _ rfl rfl rfl hn1 hn2
  · rcases h with rfl | rfl | rfl | rfl <;> exact checkAdd _ _ _ _ _ _ _ _ _ _ _ _ _ _ _ _ _ _ _ _ rfl rfl rfl hn1 hn2
  · subst h; exact checkGain _ _ _ _ _ _ _ _ _ _ _ _ _ _ _ _ _ _ _ _ rfl rfl rfl hn1 hn2
  · subst h; exact checkMul _ _ _ _ _ _ _ _ _ _ _ _ _ _ _ _ _ _ _ _ rfl rfl rfl hn1 hn2
end
end Cd
end Go.Proofs.YtmdfjbpggbhgnaaDoor
namespace Go.Proofs.YtmdfjbpggbhgnaaDoor
namespace Cd
open Go.RowKit
def portErr (p : Prt) : Int := if shortB p.lo = true ∧ shortB p.hi = true ∧ p.lo ≤ p.hi ∧ 0 ≤ p.fr ∧ p.fr ≤ 30 then 0 else 3
def initErr (n : Int) : Int := if shortB n = true then 0 else 3
def outErr (n : Nat) (o : Int) : Int := if 0 ≤ o ∧ o < n then 0 else 10
def Ins.err (np n : Nat) (x : Ins) : Int := insErr np n x.op x.dst x.a x.b x.sa x.sb x.imm
def progErr (ps : List Prt) (is : List Int) (xs : List Ins) (os : List Int) : Int :=
  if ¬ (ps.length ≤ 16 ∧ is.length ≤ 192 ∧ xs.length ≤ 256 ∧ os.length ≤ 16) then 4
  else firstErr (ps.map portErr ++ (is.map initErr ++ (xs.map (Ins.err ps.length is.length) ++ os.map (outErr is.length))))
def ckRel (w : World) (vs : List Value) (es : List Int) (i : Value) (wr : World) : Prop := ∃ k : Nat, k ≤ es.length ∧ i = .int .i64 k ∧ firstErr (es.take k) = 0 ∧ BoxAt wr w.heap.size vs ∧ Below w.heap.size w wr
theorem ck_start {w wr : World} {vs : List Value} {es : List Int} (hb : BoxAt wr w.heap.size vs) (hw : Below w.heap.size w wr) : ckRel w vs es (.int .i64 0) wr := ⟨0, Nat.zero_le _, rfl, rfl, hb, hw⟩
theorem fe2 {a b : List Int} (ha : firstErr a = 0) (hb : firstErr b = 0) : firstErr (a ++ b) = 0 := by rw [firstErr_append, if_pos ha, hb]
theorem fe_mid3 {a b l post : List Int} {k : Nat} {e : Int} (ha : firstErr a = 0) (hb : firstErr b = 0) (h : l[k]? = some e) (he : e ≠ 0) (ht : firstErr (l.take k) = 0) : firstErr (a ++ (b ++ (l ++ post))) = e := by
  rw [← List.append_assoc]; exact fe_mid (fe2 ha hb) h he ht
theorem fe_mid4 {a b c l : List Int} {k : Nat} {e : Int} (ha : firstErr a = 0) (hb : firstErr b = 0) (hc : firstErr c = 0) (h : l[k]? = some e) (he : e ≠ 0) (ht : firstErr (l.take k) = 0) : firstErr (a ++ (b ++ (c ++ l))) = e := by
  rw [firstErr_append, if_pos ha, firstErr_append, if_pos hb, firstErr_append, if_pos hc, fe_hit h he ht]
theorem Check_ok (A1 A2 A3 A4 : Option Addr) (ps : List Prt) (is : List Int) (xs : List Ins) (os : List Int) (c1 c2 c3 c4 m : Nat) (w : World) (hm : m ≤ w.heap.size) (h1 : CellsAt w m A1 (flat Prt.cells ps)) (h2 : CellsAt w m A2 (ints is)) (h3 : CellsAt w m A3 (flat Ins.cells xs)) (h4 : CellsAt w m A4 (ints os))
    (l1 : ps.length ≤ 16) (l2 : is.length ≤ 192) (l3 : xs.length ≤ 256) (l4 : os.length ≤ 16) :
    Calls Tryd.prog 24 #[.agg #[.slice A1 ps.length c1, .slice A2 is.length c2, .slice A3 xs.length c3, .slice A4 os.length c4]] w fun e w' => e = .returned (errV (progErr ps is xs os)) ∧ Below w.heap.size w w' := by
  have H1 := Lib.hid h1
  have H2 := Lib.hid h2
  have H3 := Lib.hid h3
  have H4 := Lib.hid h4
  have HE : Hid (progErr ps is xs os = firstErr (ps.map portErr ++ (is.map initErr ++ (xs.map (Ins.err ps.length is.length) ++ os.map (outErr is.length))))) := if_neg (by simp; omega)
  clear h1 h2 h3 h4
  have l1' : (ps.length : Int) ≤ 16 := by omega
  have l2' : (is.length : Int) ≤ 192 := by omega
  have l3' : (xs.length : Int) ≤ 256 := by omega
  have l4' : (os.length : Int) ≤ 16 := by omega
  go_enter Tryd.func24, Tryd.ntmps24
  go_wp2_with fail
  all_goals try (exfalso; omega)
  go_loopw [38] (fun i wr => ckRel w [.slice A1 ps.length c1, .slice A2 is.length c2, .slice A3 xs.length c3, .slice A4 os.length c4] (ps.map portErr) i wr) (fun i _ => ps.length - (intOf i).toNat)
  case atStart => exact ck_start (BoxAt.new_ _ _ _) (ext_alloc (Below.refl _ _) _)
  case round =>
    obtain ⟨k, hk, rfl, hf, hbox, hb⟩ := hrel
    have HF := Lib.hid hf
    have HB := Lib.hid hbox
    clear hf hbox
    rw [List.length_map] at hk
    have z0 : w.heap.size < wr.heap.size := HB.out.1
    by_cases hlt : k < ps.length
    · obtain ⟨b, off, x, rfl, hbm, hbs, hx, hc⟩ := H1.out.row (s := 3) (fun _ => rfl) (by omega) hlt
      have hc' := fun j u (hu : (Prt.cells x)[j]? = some u) => (hb.cell (p := ⟨b, off + k * 3 + j, none⟩) (Nat.lt_of_lt_of_le hbm hm)).trans (hc j u hu)
      have g0 : wr.cell? ⟨b, off + k * 3, none⟩ = some (.int .i64 x.lo) := hc' 0 _ rfl
      have g1 := hc' 1 _ rfl
      have g2 := hc' 2 _ rfl
      clear hc hc'
      have HX := Lib.hid hx
      clear hx
      go_wp2_with (go_at_call 26; refine (short_any _ _).mono ?_; rintro e w1 ⟨rfl, rfl⟩)
      all_goals first
        | (go_ret
           refine ⟨ret_err (k := 3) ?_ rfl, ext_alloc hb _⟩
           go_light
           rw [HE.out]
           refine fe_mid (pre := []) (k := k) rfl ?_ (by decide) HF.out
           rw [List.getElem?_map, HX.out]
           exact congrArg some (if_neg (fun ⟨a1, a2, a3, a4, a5⟩ => by first | omega | simp_all)))
        | exact ⟨⟨k + 1, by rw [List.length_map]; omega, by go_num, fe_step (by rw [List.getElem?_map, HX.out]; exact congrArg some (if_pos ⟨by assumption, by assumption, by omega, by omega, by omega⟩)) HF.out, HB.out.below (ext_alloc (Below.refl _ _) _) HB.out.1, ext_alloc hb _⟩, by simp [intOf]; omega⟩
    · have b0 := HB.out.c0
      have b1 := HB.out.c1
      have b2 := HB.out.c2
      have b3 := HB.out.c3
      have P1 := Lib.hid (fe_all (k := k) (by rw [List.length_map]; omega) HF.out)
      clear HF
      go_wp2_with fail
      clear b0 b1 b2 b3 hk hlt
      obtain ⟨w1, hw1⟩ : ∃ w1, w1 = wr := ⟨_, rfl⟩
      rw [← hw1] at HB hb
      rw [← hw1]
      clear hw1 z0
      go_loopw [74] (fun i wr => ckRel w [.slice A1 ps.length c1, .slice A2 is.length c2, .slice A3 xs.length c3, .slice A4 os.length c4] (is.map initErr) i wr) (fun i _ => is.length - (intOf i).toNat)
      case atStart => exact ck_start HB.out hb
      case round =>
        clear HB hb
        obtain ⟨k, hk, rfl, hf, hbox, hb⟩ := hrel
        have HF := Lib.hid hf
        have HB := Lib.hid hbox
        clear hf hbox
        rw [List.length_map] at hk
        have z0 : w.heap.size < wr.heap.size := HB.out.1
        by_cases hlt : k < is.length
        · obtain ⟨b, off, z, rfl, hbm, hbs, hx, hc⟩ := H2.out.int_ hlt
          have hc' := (hb.cell (p := ⟨b, off + k, none⟩) (Nat.lt_of_lt_of_le hbm hm)).trans hc
          clear hc
          have HX := Lib.hid hx
          clear hx
          by_cases hs : shortB z = true
          · go_wp2_with (go_at_call 26; refine (short_any _ _).mono ?_; rintro e w1 ⟨rfl, rfl⟩)
            exact ⟨⟨k + 1, by rw [List.length_map]; omega, by go_num, fe_step (by rw [List.getElem?_map, HX.out]; exact congrArg some (if_pos hs)) HF.out, HB.out, hb⟩, by simp [intOf]; omega⟩
          · have HS := Lib.hid hs
            have hs : shortB z = false := by simpa using hs
            go_wp2_with (go_at_call 26; refine (short_any _ _).mono ?_; rintro e w1 ⟨rfl, rfl⟩)
            go_ret
            refine ⟨ret_err (k := 3) ?_ rfl, hb⟩
            rw [HE.out]
            refine fe_mid P1.out (k := k) ?_ (by decide) HF.out
            rw [List.getElem?_map, HX.out]
            exact congrArg some (if_neg HS.out)
        · have b0 := HB.out.c0
          have b1 := HB.out.c1
          have b2 := HB.out.c2
          have b3 := HB.out.c3
          have P2 := Lib.hid (fe_all (k := k) (by rw [List.length_map]; omega) HF.out)
          clear HF
          go_wp2_with fail
          clear b0 b1 b2 b3 hk hlt
          obtain ⟨w2, hw2⟩ : ∃ w2, w2 = wr := ⟨_, rfl⟩
          rw [← hw2] at HB hb
          rw [← hw2]
          clear hw2 z0
          go_loopw [86] (fun i wr => ckRel w [.slice A1 ps.length c1, .slice A2 is.length c2, .slice A3 xs.length c3, .slice A4 os.length c4] (xs.map (Ins.err ps.length is.length)) i wr) (fun i _ => xs.length - (intOf i).toNat)
          case atStart => exact ck_start HB.out hb
          case round =>
            clear HB hb
            obtain ⟨k, hk, rfl, hf, hbox, hb⟩ := hrel
            have HF := Lib.hid hf
            have HB := Lib.hid hbox
            clear hf hbox
            rw [List.length_map] at hk
            have z0 : w.heap.size < wr.heap.size := HB.out.1
            have b0 := HB.out.c0
            have b1 := HB.out.c1
            have b2 := HB.out.c2
            have b3 := HB.out.c3
            by_cases hlt : k < xs.length
            · obtain ⟨b, off, x, rfl, hbm, hbs, hx, hc⟩ := H3.out.row (s := 7) (fun _ => rfl) (by omega) hlt
              have hc' := fun j u (hu : (Ins.cells x)[j]? = some u) => (hb.cell (p := ⟨b, off + k * 7 + j, none⟩) (Nat.lt_of_lt_of_le hbm hm)).trans (hc j u hu)
              have g0 : wr.cell? ⟨b, off + k * 7, none⟩ = some (.int .i64 x.op) := hc' 0 _ rfl
              have g1 := hc' 1 _ rfl
              have g2 := hc' 2 _ rfl
              have g3 := hc' 3 _ rfl
              have g4 := hc' 4 _ rfl
              have g5 := hc' 5 _ rfl
              have g6 := hc' 6 _ rfl
              clear hc hc'
              have HX := Lib.hid hx
              clear hx
              by_cases hxe : Ins.err ps.length is.length x = 0
              · have HXE := Lib.hid hxe
                clear hxe
                go_wp2_with (go_at_call 45; refine (check_any _ _ _ _ _ _ _ _ _ _ _ _ _ _ _ _ _ _ _ _ (by omega) (by omega)).mono ?_; rintro e w3 ⟨rfl, hb3⟩; rw [show insErr ps.length is.length x.op x.dst x.a x.b x.sa x.sb x.imm = 0 from HXE.out, errV_0])
                exact ⟨⟨k + 1, by rw [List.length_map]; omega, by go_num, fe_step (by rw [List.getElem?_map, HX.out]; exact congrArg some HXE.out) HF.out, (HB.out.below (ext_alloc (Below.refl _ _) _) HB.out.1).below hb3 (by simp; omega), (ext_alloc hb _).trans (hb3.mono (by simp; omega))⟩, by simp [intOf]; omega⟩
              · have HXE := Lib.hid hxe
                clear hxe
                have hne : Hid (errV (insErr ps.length is.length x.op x.dst x.a x.b x.sa x.sb x.imm) = .iface 68 (.int .i64 (insErr ps.length is.length x.op x.dst x.a x.b x.sa x.sb x.imm))) := errV_n HXE.out
                go_wp2_with (go_at_call 45; refine (check_any _ _ _ _ _ _ _ _ _ _ _ _ _ _ _ _ _ _ _ _ (by omega) (by omega)).mono ?_; rintro e w3 ⟨rfl, hb3⟩; rw [hne.out])
                go_ret
                refine ⟨ret_err (k := insErr ps.length is.length x.op x.dst x.a x.b x.sa x.sb x.imm) ?_ hne.out.symm, (ext_alloc hb _).trans (hb3.mono (by simp; omega))⟩
                rw [HE.out]
                exact fe_mid3 P1.out P2.out (k := k) (by rw [List.getElem?_map, HX.out]; rfl) HXE.out HF.out
            · have P3 := Lib.hid (fe_all (k := k) (by rw [List.length_map]; omega) HF.out)
              clear HF
              go_wp2_with fail
              clear b0 b1 b2 b3 hk hlt
              obtain ⟨w4, hw4⟩ : ∃ w4, w4 = wr := ⟨_, rfl⟩
              rw [← hw4] at HB hb
              rw [← hw4]
              clear hw4 z0
              go_loopw [100] (fun i wr => ckRel w [.slice A1 ps.length c1, .slice A2 is.length c2, .slice A3 xs.length c3, .slice A4 os.length c4] (os.map (outErr is.length)) i wr) (fun i _ => os.length - (intOf i).toNat)
              case atStart => exact ck_start HB.out hb
              case round =>
                clear HB hb
                obtain ⟨k, hk, rfl, hf, hbox, hb⟩ := hrel
                have HF := Lib.hid hf
                have HB := Lib.hid hbox
                clear hf hbox
                rw [List.length_map] at hk
                have z0 : w.heap.size < wr.heap.size := HB.out.1
                have b1 := HB.out.c1
                by_cases hlt : k < os.length
                · obtain ⟨b, off, z, rfl, hbm, hbs, hx, hc⟩ := H4.out.int_ hlt
                  have hc' := (hb.cell (p := ⟨b, off + k, none⟩) (Nat.lt_of_lt_of_le hbm hm)).trans hc
                  clear hc
                  have HX := Lib.hid hx
                  clear hx
                  go_wp2_with fail
                  all_goals first
                    | (go_ret
                       refine ⟨ret_err (k := 10) ?_ rfl, hb⟩
                       go_light
                       rw [HE.out]
                       refine fe_mid4 P1.out P2.out P3.out (k := k) ?_ (by decide) HF.out
                       rw [List.getElem?_map, HX.out]
                       exact congrArg some (if_neg (fun ⟨a1, a2⟩ => by omega)))
                    | exact ⟨⟨k + 1, by rw [List.length_map]; omega, by go_num, fe_step (by rw [List.getElem?_map, HX.out]; exact congrArg some (if_pos (⟨by omega, by omega⟩))) HF.out, HB.out, hb⟩, by simp [intOf]; omega⟩
                · have P4 := Lib.hid (fe_all (k := k) (by rw [List.length_map]; omega) HF.out)
                  go_wp2_with fail
                  go_ret
                  refine ⟨ret_err (k := 0) ?_ rfl, hb⟩
                  rw [HE.out]
                  exact fe2 P1.out (fe2 P2.out (fe2 P3.out P4.out))
theorem Check_bad0 (A1 A2 A3 A4 : Option Addr) (ps : List Prt) (is : List Int) (xs : List Ins) (os : List Int) (c1 c2 c3 c4 : Nat) (w : World) (hn : 16 < ps.length) :
    Calls Tryd.prog 24 #[.agg #[.slice A1 ps.length c1, .slice A2 is.length c2, .slice A3 xs.length c3, .slice A4 os.length c4]] w fun e w' => e = .returned (errV (progErr ps is xs os)) ∧ Below w.heap.size w w' := by
  have HE : Hid (progErr ps is xs os = 4) := if_pos (by omega)
  have hp0 : (16 : Int) < (ps.length : Int) := by omega
  go_enter Tryd.func24, Tryd.ntmps24
  go_wp2_with fail
  all_goals
    go_ret
    exact ⟨ret_err HE.out rfl, ext_alloc (Below.refl _ _) _⟩
theorem Check_bad1 (A1 A2 A3 A4 : Option Addr) (ps : List Prt) (is : List Int) (xs : List Ins) (os : List Int) (c1 c2 c3 c4 : Nat) (w : World) (hn : ps.length ≤ 16) (hn2 : 192 < is.length) :
    Calls Tryd.prog 24 #[.agg #[.slice A1 ps.length c1, .slice A2 is.length c2, .slice A3 xs.length c3, .slice A4 os.length c4]] w fun e w' => e = .returned (errV (progErr ps is xs os)) ∧ Below w.heap.size w w' := by
  have HE : Hid (progErr ps is xs os = 4) := if_pos (by omega)
  have hp0 : (ps.length : Int) ≤ 16 := by omega
  have hp1 : (192 : Int) < (is.length : Int) := by omega
  go_enter Tryd.func24, Tryd.ntmps24
  go_wp2_with fail
  all_goals
    go_ret
    exact ⟨ret_err HE.out rfl, ext_alloc (Below.refl _ _) _⟩
theorem Check_bad2 (A1 A2 A3 A4 : Option Addr) (ps : List Prt) (is : List Int) (xs : List Ins) (os : List Int) (c1 c2 c3 c4 : Nat) (w : World) (hn : ps.length ≤ 16) (hn2 : is.length ≤ 192) (hn3 : 256 < xs.length) :
    Calls Tryd.prog 24 #[.agg #[.slice A1 ps.length c1, .slice A2 is.length c2, .slice A3 xs.length c3, .slice A4 os.length c4]] w fun e w' => e = .returned (errV (progErr ps is xs os)) ∧ Below w.heap.size w w' := by
  have HE : Hid (progErr ps is xs os = 4) := if_pos (by omega)
  have hp0 : (ps.length : Int) ≤ 16 := by omega
  have hp1 : (is.length : Int) ≤ 192 := by omega
  have hp2 : (256 : Int) < (xs.length : Int) := by omega
  go_enter Tryd.func24, Tryd.ntmps24
  go_wp2_with fail
  all_goals
    go_ret
    exact ⟨ret_err HE.out rfl, ext_alloc (Below.refl _ _) _⟩
theorem Check_bad3 (A1 A2 A3 A4 : Option Addr) (ps : List Prt) (is : List Int) (xs : List Ins) (os : List Int) (c1 c2 c3 c4 : Nat) (w : World) (hn : ps.length ≤ 16) (hn2 : is.length ≤ 192) (hn3 : xs.length ≤ 256) (hn4 : 16 < os.length) :
    Calls Tryd.prog 24 #[.agg #[.slice A1 ps.length c1, .slice A2 is.length c2, .slice A3 xs.length c3, .slice A4 os.length c4]] w fun e w' => e = .returned (errV (progErr ps is xs os)) ∧ Below w.heap.size w w' := by
  have HE : Hid (progErr ps is xs os = 4) := if_pos (by omega)
  have hp0 : (ps.length : Int) ≤ 16 := by omega
  have hp1 : (is.length : Int) ≤ 192 := by omega
  have hp2 : (xs.length : Int) ≤ 256 := by omega
  have hp3 : (16 : Int) < (os.length : Int) := by omega
  go_enter Tryd.func24, Tryd.ntmps24
  go_wp2_with fail
  all_goals
    go_ret
    exact ⟨ret_err HE.out rfl, ext_alloc (Below.refl _ _) _⟩
theorem Check_any (A1 A2 A3 A4 : Option Addr) (ps : List Prt) (is : List Int) (xs : List Ins) (os : List Int) (c1 c2 c3 c4 m : Nat) (w : World) (hm : m ≤ w.heap.size) (h1 : CellsAt w m A1 (flat Prt.cells ps)) (h2 : CellsAt w m A2 (ints is)) (h3 : CellsAt w m A3 (flat Ins.cells xs)) (h4 : CellsAt w m A4 (ints os)) :
    Calls Tryd.prog 24 #[.agg #[.slice A1 ps.length c1, .slice A2 is.length c2, .slice A3 xs.length c3, .slice A4 os.length c4]] w fun e w' => e = .returned (errV (progErr ps is xs os)) ∧ Below w.heap.size w w' := by
  by_cases g1 : ps.length ≤ 16
  · by_cases g2 : is.length ≤ 192
    · by_cases g3 : xs.length ≤ 256
      · by_cases g4 : os.length ≤ 16
        · exact Check_ok A1 A2 A3 A4 ps is xs os c1 c2 c3 c4 m w hm h1 h2 h3 h4 g1 g2 g3 g4
        · exact Check_bad3 A1 A2 A3 A4 ps is xs os c1 c2 c3 c4 w g1 g2 g3 (by omega)
      · exact Check_bad2 A1 A2 A3 A4 ps is xs os c1 c2 c3 c4 w g1 g2 (by omega)
    · exact Check_bad1 A1 A2 A3 A4 ps is xs os c1 c2 c3 c4 w g1 (by omega)
  · exact Check_bad0 A1 A2 A3 A4 ps is xs os c1 c2 c3 c4 w (by omega)
end Cd
end Go.Proofs.YtmdfjbpggbhgnaaDoor
