/- The law CompileRaw on values. No conditions. -/
import Derived.Test.YtjlocofimlgaoaaDoorCwE
import Derived.Test.YtjlocofimlgaoaaDoorRaD
import Derived.Test.YtjlocofimlgaoaaDoorCom
namespace Go.Proofs.YtjlocofimlgaoaaDoor
set_option linter.unusedVariables false
set_option linter.unusedSimpArgs false
set_option linter.unusedSectionVars false
open Go.RowKit
theorem num_cv (E : Int) : CVF Tryd.prog TabAt 12 [aE E] [aI E] := fun w S vs hg hlt ha => by
  obtain ⟨u, hu, h2⟩ := one_arg ha
  subst hu
  cases h2
  refine (num_any E w).mono fun r w' ⟨he, hw⟩ => ?_
  subst hw
  exact ⟨_, he, DRel.val rfl, Below.refl _ _⟩
theorem rraw_cv (n e f : Int) : CVF Tryd.prog TabAt 11 [.agg [dI n, dI e], aI f] [aI (rawV n e f), aI (rawErr n e f)] := fun w S vs hg hlt ha => by
  obtain ⟨v, vs', rfl, h1, ha⟩ := ha.uncons
  obtain ⟨u, hu, h2⟩ := one_arg ha
  subst hu
  obtain ⟨xs, rfl, h3⟩ := h1
  have h4 := vals_rel (vs := [.int .i64 n, .int .i64 e]) h3
  subst h4
  cases h2
  refine (rraw_any n e f w).mono fun r w' ⟨he, hb⟩ => ?_
  exact ⟨_, he, two_rel (DRel.val rfl) (DRel.val rfl), hb⟩
set_option maxRecDepth 100000 in
set_option maxHeartbeats 4000000 in
theorem compileRaw_cv (n e f : Int) : CV Tryd.prog TabAt 3 [.agg [dI n, dI e], aI f] [aB true] := by
  refine cv_of tab_G Tryd.func3 rfl Tryd.ntmps3 (Nat.le_of_ble_eq_true rfl) ?_
  have RP := raw_cv n e f
  have RR := rraw_cv n e f
  have NM := num_cv (rawErr n e f)
  repeat' (with_reducible first | refine cw_seq ?_ | refine thenC_n ?_ | refine cw_skip ?_ | refine cw_ret ?_ | refine cw_exit ?_ | refine cw_block ?_ | refine thenC_r ?_ | refine thenC_x ?_ | refine blockC_n ?_ | refine blockC_r ?_ | refine blockC_x ?_ | refine blockC_y rfl ?_ | refine cw_true rfl ?_ | refine cw_false rfl ?_ | (refine cw_text (id := 0) (by kernel_rfl) ?_; refine ti_n rfl rfl (by exact ok_box rfl rfl) ?_; refine ti_o rfl rfl (by first | exact ok_as1 rfl rfl | exact ok_asA rfl rfl) ?_; refine ti_nil ?_) | (refine cw_text (id := 1) (by kernel_rfl) ?_; refine ti_o rfl rfl (by exact ok_cl ⟨_, _, Tryd.func9, by kernel_rfl, rfl⟩ (awake15_cv) rfl (by first | ((repeat' first | exact lrel_n rfl rfl | refine lrel_c rfl rfl ?_ ?_ | refine xexp_1 rfl rfl ?_ | refine xexp_a rfl rfl ?_ | exact cexp_d rfl (fun h => by cases h) | exact cexp_n rfl rfl | exact cexp_e rfl rfl | refine cexp_o rfl rfl rfl ?_) <;> fail) | fail) rfl) ?_; refine ti_o rfl rfl (by first | exact ok_not rfl rfl | exact ok_neg64 rfl rfl (by omega)) ?_; refine ti_nil ?_) | (refine cw_text (id := 2) (by kernel_rfl) ?_; refine ti_o rfl rfl (by first | exact ok_as1 rfl rfl | exact ok_asA rfl rfl) ?_; refine ti_nil ?_) | (refine cw_text (id := 3) (by kernel_rfl) ?_; refine ti_o rfl rfl (by first | exact ok_loadA rfl rfl (At.box rfl) tk_Scalar rfl rfl | exact ok_loadA rfl rfl (At.ptr) tk_Scalar rfl rfl | exact ok_loadA rfl rfl (At.row rfl) tk_Scalar rfl rfl) ?_; refine ti_o rfl rfl (by first | exact ok_mv1 rfl rfl | exact ok_mvA rfl rfl | exact ok_mvT rfl rfl) ?_; refine ti_o rfl rfl (by exact ok_cl ⟨_, _, Tryd.func10, by kernel_rfl, rfl⟩ (RP.cv) rfl (by first | ((repeat' first | exact lrel_n rfl rfl | refine lrel_c rfl rfl ?_ ?_ | refine xexp_1 rfl rfl ?_ | refine xexp_a rfl rfl ?_ | exact cexp_d rfl (fun h => by cases h) | exact cexp_n rfl rfl | exact cexp_e rfl rfl | refine cexp_o rfl rfl rfl ?_) <;> fail) | fail) rfl) ?_; refine ti_o rfl rfl (by first | exact ok_mv1 rfl rfl | exact ok_mvA rfl rfl | exact ok_mvT rfl rfl) ?_; refine ti_o rfl rfl (by first | exact ok_ex1 rfl rfl rfl | exact ok_exA rfl rfl rfl) ?_; refine ti_o rfl rfl (by first | exact ok_ex1 rfl rfl rfl | exact ok_exA rfl rfl rfl) ?_; refine ti_o rfl rfl (by first | exact ok_as1 rfl rfl | exact ok_asA rfl rfl) ?_; refine ti_o rfl rfl (by first | exact ok_as1 rfl rfl | exact ok_asA rfl rfl) ?_; refine ti_nil ?_) | (refine cw_text (id := 4) (by kernel_rfl) ?_; refine ti_o rfl rfl (by first | exact ok_loadA rfl rfl (At.box rfl) tk_Scalar rfl rfl | exact ok_loadA rfl rfl (At.ptr) tk_Scalar rfl rfl | exact ok_loadA rfl rfl (At.row rfl) tk_Scalar rfl rfl) ?_; refine ti_o rfl rfl (by first | exact ok_mv1 rfl rfl | exact ok_mvA rfl rfl | exact ok_mvT rfl rfl) ?_; refine ti_o rfl rfl (by exact ok_cl ⟨_, _, Tryd.func11, by kernel_rfl, rfl⟩ (RR.cv) rfl (by first | ((repeat' first | exact lrel_n rfl rfl | refine lrel_c rfl rfl ?_ ?_ | refine xexp_1 rfl rfl ?_ | refine xexp_a rfl rfl ?_ | exact cexp_d rfl (fun h => by cases h) | exact cexp_n rfl rfl | exact cexp_e rfl rfl | refine cexp_o rfl rfl rfl ?_) <;> fail) | fail) rfl) ?_; refine ti_o rfl rfl (by first | exact ok_mv1 rfl rfl | exact ok_mvA rfl rfl | exact ok_mvT rfl rfl) ?_; refine ti_o rfl rfl (by first | exact ok_ex1 rfl rfl rfl | exact ok_exA rfl rfl rfl) ?_; refine ti_o rfl rfl (by first | exact ok_ex1 rfl rfl rfl | exact ok_exA rfl rfl rfl) ?_; refine ti_o rfl rfl (by first | exact ok_as1 rfl rfl | exact ok_asA rfl rfl) ?_; refine ti_o rfl rfl (by first | exact ok_as1 rfl rfl | exact ok_asA rfl rfl) ?_; refine ti_nil ?_) | (refine cw_text (id := 5) (by kernel_rfl) ?_; refine ti_o rfl rfl (by first | exact ok_mv1 rfl rfl | exact ok_mvA rfl rfl | exact ok_mvT rfl rfl) ?_; refine ti_o rfl rfl (by first | exact ok_mv1 rfl rfl | exact ok_mvA rfl rfl | exact ok_mvT rfl rfl) ?_; refine ti_o rfl rfl (by first | exact ok_eqlD rfl rfl rfl (beq_t rfl) | exact ok_eqlD rfl rfl rfl (beq_t (by first | rfl | omega)) | exact ok_eqlD rfl rfl rfl (beq_f (by omega)) | exact ok_eql rfl rfl rfl) ?_; refine ti_o rfl rfl (by first | exact ok_mv1 rfl rfl | exact ok_mvA rfl rfl | exact ok_mvT rfl rfl) ?_; (first | refine ti_nd rfl rfl rfl rfl rfl rfl ?_ | refine ti_yo rfl rfl rfl rfl rfl rfl (by first | exact ok_mv1 rfl rfl | exact ok_mvA rfl rfl | exact ok_mvT rfl rfl) ?_); (first | refine ti_nd rfl rfl rfl rfl rfl rfl ?_ | refine ti_yo rfl rfl rfl rfl rfl rfl (by exact ok_cl ⟨_, _, Tryd.func12, by kernel_rfl, rfl⟩ (NM.cv) rfl (by first | ((repeat' first | exact lrel_n rfl rfl | refine lrel_c rfl rfl ?_ ?_ | refine xexp_1 rfl rfl ?_ | refine xexp_a rfl rfl ?_ | exact cexp_d rfl (fun h => by cases h) | exact cexp_n rfl rfl | exact cexp_e rfl rfl | refine cexp_o rfl rfl rfl ?_) <;> fail) | fail) rfl) ?_); (first | refine ti_nd rfl rfl rfl rfl rfl rfl ?_ | refine ti_yo rfl rfl rfl rfl rfl rfl (by first | exact ok_mv1 rfl rfl | exact ok_mvA rfl rfl | exact ok_mvT rfl rfl) ?_); (first | refine ti_nd rfl rfl rfl rfl rfl rfl ?_ | refine ti_yo rfl rfl rfl rfl rfl rfl (by first | exact ok_eqlD rfl rfl rfl (beq_t rfl) | exact ok_eqlD rfl rfl rfl (beq_t (by first | rfl | omega)) | exact ok_eqlD rfl rfl rfl (beq_f (by omega)) | exact ok_eql rfl rfl rfl) ?_); refine ti_o rfl rfl (by first | exact ok_pickT rfl rfl rfl | exact ok_pickF rfl rfl rfl) ?_; refine ti_o rfl rfl (by first | exact ok_as1 rfl rfl | exact ok_asA rfl rfl) ?_; refine ti_nil ?_))
  exact ret_q rfl (.cons_ (rv_b rfl rfl) .nil_)
end Go.Proofs.YtjlocofimlgaoaaDoor
