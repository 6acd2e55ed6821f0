/- The check of one instruction, of the program and of the document: the number of the first error. No conditions. -/
import Derived.Test.YtdhlmbnmgioeeaaCdB1
import Derived.Test.YtdhlmbnmgioeeaaCdB2
import Derived.Deep.Light
namespace Go.Proofs.Ytdhlmbnmgioeeaa
set_option linter.unusedVariables false
set_option linter.unusedSimpArgs false
set_option linter.unusedSectionVars false
open Go.RowKit

theorem usesF_bad {op : Int} (h : (usesR op).2.2.2.2.2 = false) : usesF op = (0, false) := by
  unfold usesR at h
  unfold usesF
  repeat' split at h
  all_goals simp_all
theorem uses_bad {op : Int} (h : usesF op = (0, false)) (w : World) : Calls Try.prog 45 #[.int .i64 op] w fun e w' => e = .returned (.tuple #[.int .i64 0, .bool false]) ∧ w = w' :=
  (uses_any op w).mono fun _ _ ⟨he, hw⟩ => ⟨by rw [he, h], hw⟩

section
variable (A1 A2 A3 A4 : Option Addr) (n1 n2 n3 n4 c1 c2 c3 c4 : Nat) (op dst a b sa sb imm : Int) (w : World)
set_option maxHeartbeats 1000000 in
theorem checkBad (h : (usesR op).2.2.2.2.2 = false) :
    Calls Try.prog 33 #[.agg #[.slice A1 n1 c1, .slice A2 n2 c2, .slice A3 n3 c3, .slice A4 n4 c4], .agg #[.int .i64 op, .int .i64 dst, .int .i64 a, .int .i64 b, .int .i64 sa, .int .i64 sb, .int .i64 imm]] w
      fun e w' => e = .returned (errV (insErr n1 n2 op dst a b sa sb imm)) ∧ Below w.heap.size w w' := by
  have HF : Hid (usesF op = (0, false)) := usesF_bad h
  have HE : Hid (insErr n1 n2 op dst a b sa sb imm = 7) := if_pos h
  clear h
  go_enter Try.func33, Try.ntmps33
  go_wp2_with (go_at_call 45; refine (uses_bad HF.out _).mono ?_; rintro e w1 ⟨rfl, rfl⟩)
  go_ret
  exact ⟨ret_err HE.out rfl, ext_alloc (ext_alloc (Below.refl _ _) _) _⟩

set_option maxHeartbeats 1000000 in
theorem rinstrBad (h : (usesR op).2.2.2.2.2 = false) (hn1 : n1 ≤ 1000000) (hn2 : n2 ≤ 1000000) :
    Calls Try.prog 29 #[.agg #[.slice A1 n1 c1, .slice A2 n2 c2, .slice A3 n3 c3, .slice A4 n4 c4], .agg #[.int .i64 op, .int .i64 dst, .int .i64 a, .int .i64 b, .int .i64 sa, .int .i64 sb, .int .i64 imm]] w
      fun e w' => e = .returned (.int .i64 (insErr n1 n2 op dst a b sa sb imm)) ∧ Below w.heap.size w w' := by
  have HE : Hid (insErr n1 n2 op dst a b sa sb imm = 7) := if_pos h
  go_enter Try.func29, Try.ntmps29
  go_wp2_with (go_at_call 34; refine (ruses_any op _).mono ?_; rintro e w1 ⟨rfl, rfl⟩)
  all_goals
    go_ret
    exact ⟨ret_int HE.out.symm, ext_alloc (ext_alloc (Below.refl _ _) _) _⟩

theorem ops_cases (op : Int) : (usesR op).2.2.2.2.2 = false ∨ (op = 0) ∨ (op = 2 ∨ op = 5 ∨ op = 10) ∨ op = 1 ∨ (op = 3 ∨ op = 4 ∨ op = 8 ∨ op = 9) ∨ op = 6 ∨ op = 7 := by
  by_cases h : (usesR op).2.2.2.2.2 = false
  · exact .inl h
  · right
    unfold usesR at h
    repeat' split at h
    all_goals first | omega | (exfalso; exact h rfl)

theorem check_any (hn1 : n1 ≤ 1000000) (hn2 : n2 ≤ 1000000) :
    Calls Try.prog 33 #[.agg #[.slice A1 n1 c1, .slice A2 n2 c2, .slice A3 n3 c3, .slice A4 n4 c4], .agg #[.int .i64 op, .int .i64 dst, .int .i64 a, .int .i64 b, .int .i64 sa, .int .i64 sb, .int .i64 imm]] w
      fun e w' => e = .returned (errV (insErr n1 n2 op dst a b sa sb imm)) ∧ Below w.heap.size w w' := by
  rcases ops_cases op with h | h | h | h | h | h | h
  · exact checkBad _ _ _ _ _ _ _ _ _ _ _ _ _ _ _ _ _ _ _ _ h
  · subst h; exact checkIn _ _ _ _ _ _ _ _ _ _ _ _ _ _ _ _ _ _ _ _ rfl rfl rfl hn1 hn2
  · rcases h with rfl | rfl | rfl <;> exact checkMove _ _ _ _ _ _ _ _ _ _ _ _ _ _ _ _ _ _ _ _ rfl rfl rfl hn1 hn2
  · subst h; exact checkConst _ _ _ _ _ _ _ _ _ _ _ _ _ _ _ _ _ _ _ _ rfl rfl rfl hn1 hn2
  · rcases h with rfl | rfl | rfl | rfl <;> exact checkAdd _ _ _ _ _ _ _ _ _ _ _ _ _ _ _ _ _ _ _ _ rfl rfl rfl hn1 hn2
  · subst h; exact checkGain _ _ _ _ _ _ _ _ _ _ _ _ _ _ _ _ _ _ _ _ rfl rfl rfl hn1 hn2
  · subst h; exact checkMul _ _ _ _ _ _ _ _ _ _ _ _ _ _ _ _ _ _ _ _ rfl rfl rfl hn1 hn2

theorem rinstr_any (hn1 : n1 ≤ 1000000) (hn2 : n2 ≤ 1000000) :
    Calls Try.prog 29 #[.agg #[.slice A1 n1 c1, .slice A2 n2 c2, .slice A3 n3 c3, .slice A4 n4 c4], .agg #[.int .i64 op, .int .i64 dst, .int .i64 a, .int .i64 b, .int .i64 sa, .int .i64 sb, .int .i64 imm]] w
      fun e w' => e = .returned (.int .i64 (insErr n1 n2 op dst a b sa sb imm)) ∧ Below w.heap.size w w' := by
  rcases ops_cases op with h | h | h | h | h | h | h
  · exact rinstrBad _ _ _ _ _ _ _ _ _ _ _ _ _ _ _ _ _ _ _ _ h hn1 hn2
  · subst h; exact rinstrIn _ _ _ _ _ _ _ _ _ _ _ _ _ _ _ _ _ _ _ _ rfl rfl hn1 hn2
  · rcases h with rfl | rfl | rfl <;> exact rinstrMove _ _ _ _ _ _ _ _ _ _ _ _ _ _ _ _ _ _ _ _ rfl rfl hn1 hn2
  · subst h; exact rinstrConst _ _ _ _ _ _ _ _ _ _ _ _ _ _ _ _ _ _ _ _ rfl rfl hn1 hn2
  · rcases h with rfl | rfl | rfl | rfl <;> exact rinstrAdd _ _ _ _ _ _ _ _ _ _ _ _ _ _ _ _ _ _ _ _ rfl rfl hn1 hn2
  · subst h; exact rinstrGain _ _ _ _ _ _ _ _ _ _ _ _ _ _ _ _ _ _ _ _ rfl rfl hn1 hn2
  · subst h; exact rinstrMul _ _ _ _ _ _ _ _ _ _ _ _ _ _ _ _ _ _ _ _ rfl rfl hn1 hn2
end
end Go.Proofs.Ytdhlmbnmgioeeaa
