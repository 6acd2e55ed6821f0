/- The check of one instruction, of the program and of the document: the number of the first error. No conditions. -/
import Derived.Test.YtdhlmbnmgioeeaaCdA
import Derived.Deep.Light
namespace Go.Proofs.Ytdhlmbnmgioeeaa
set_option linter.unusedVariables false
set_option linter.unusedSimpArgs false
set_option linter.unusedSectionVars false
open Go.RowKit

/-- The number of an instruction's error, 0 if there is none. -/
def insErr (np n : Nat) (op dst a b sa sb imm : Int) : Int :=
  if (usesR op).2.2.2.2.2 = false then 7
  else if ¬ (0 ≤ dst ∧ dst < n) then 10
  else if (usesR op).1 = true ∧ ¬ (0 ≤ a ∧ a < (if op = 0 then (np : Int) else n)) then 10
  else if (usesR op).2.1 = true ∧ ¬ (0 ≤ b ∧ b < n) then 10
  else if (usesR op).2.2.1 = true ∧ shiftB sa = false then 3
  else if (usesR op).2.2.2.1 = true ∧ shiftB sb = false then 3
  else if (usesR op).2.2.2.2.1 = true ∧ shortB imm = false then 3
  else if ((usesR op).1 = false ∧ a ≠ 0) ∨ ((usesR op).2.1 = false ∧ b ≠ 0) ∨ ((usesR op).2.2.1 = false ∧ sa ≠ 0) ∨ ((usesR op).2.2.2.1 = false ∧ sb ≠ 0) ∨ ((usesR op).2.2.2.2.1 = false ∧ imm ≠ 0) then 2
  else 0

theorem ret_err {v : Value} {k n : Int} (h : n = k) (hv : v = errV k) : Ending.returned v = .returned (errV n) := by rw [hv, h]
theorem uses_at {op u : Int} (h : usesF op = (u, true)) (w : World) : Calls Try.prog 45 #[.int .i64 op] w fun e w' => e = .returned (.tuple #[.int .i64 u, .bool true]) ∧ w = w' :=
  (uses_any op w).mono fun _ _ ⟨he, hw⟩ => ⟨by rw [he, h], hw⟩
theorem ruses_at {op : Int} {a b c d f g : Bool} (h : usesR op = (a, b, c, d, f, g)) (w : World) : Calls Try.prog 34 #[.int .i64 op] w fun e w' => e = .returned (.tuple #[.bool a, .bool b, .bool c, .bool d, .bool f, .bool g]) ∧ w = w' :=
  (ruses_any op w).mono fun _ _ ⟨he, hw⟩ => ⟨by rw [he, h], hw⟩
theorem withinB_shift (n : Int) : withinB n (-62) 30 = shiftB n := rfl

end Go.Proofs.Ytdhlmbnmgioeeaa
