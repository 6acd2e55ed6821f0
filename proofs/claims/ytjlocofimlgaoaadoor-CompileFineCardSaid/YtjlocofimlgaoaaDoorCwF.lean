/- The law CompileRaw on values. No conditions. -/
import Derived.Test.YtjlocofimlgaoaaDoorCwE
import Derived.Test.YtjlocofimlgaoaaDoorRaD
import Derived.Test.YtjlocofimlgaoaaDoorCom
namespace Go.Proofs.YtjlocofimlgaoaaDoor
set_option linter.unusedVariables false
set_option linter.unusedSimpArgs false
set_option linter.unusedSectionVars false
open Go.RowKit
theorem num_cv (E : Int) : CVF Tryd.prog TabAt 12 [aE E] [aI E] := fun w S vs hg hlt ha => by
  obtain ⟨u, hu, h2⟩ := one_arg ha
  subst hu
  cases h2
  refine (num_any E w).mono fun r w' ⟨he, hw⟩ => ?_
  subst hw
  exact ⟨_, he, DRel.val rfl, Below.refl _ _⟩
theorem rraw_cv (n e f : Int) : CVF Tryd.prog TabAt 11 [.agg [dI n, dI e], aI f] [aI (rawV n e f), aI (rawErr n e f)] := fun w S vs hg hlt ha => by
  obtain ⟨v, vs', rfl, h1, ha⟩ := ha.uncons
  obtain ⟨u, hu, h2⟩ := one_arg ha
  subst hu
  obtain ⟨xs, rfl, h3⟩ := h1
  have h4 := vals_rel (vs := [.int .i64 n, .int .i64 e]) h3
  subst h4
  cases h2
  refine (rraw_any n e f w).mono fun r w' ⟨he, hb⟩ => ?_
  exact ⟨_, he, two_rel (DRel.val rfl) (DRel.val rfl), hb⟩
set_option maxRecDepth 100000 in
set_option maxHeartbeats 4000000 in
theorem compileRaw_cv (n e f : Int) : CV Tryd.prog TabAt 3 [.agg [dI n, dI e], aI f] [aB true] := by
  refine cv_of tab_G Tryd.func3 rfl Tryd.ntmps3 (Nat.le_of_ble_eq_true rfl) ?_
  have RP := raw_cv n e f
  have RR := rraw_cv n e f
  have NM := num_cv (rawErr n e f)
  repeat' (with_reducible first | apply qa | apply qb | apply qc | apply qd | apply qe | apply qf | apply qg | apply qh | apply qi | apply qj | apply qk | apply ql rfl | apply qm rfl | apply qn rfl | (refine Tx 0 ?_; refine Jn xBo ?_; refine Ja ?_; refine Je ?_) | (refine Tx 1 ?_; refine Jo (xCl Tryd.func9 (awake15_cv)) ?_; refine Jo (by first | exact ok_not rfl rfl | exact ok_neg64 rfl rfl (by omega)) ?_; refine Je ?_) | (refine Tx 2 ?_; refine Ja ?_; refine Je ?_) | (refine Tx 3 ?_; refine Jo (xLa tk_Scalar) ?_; refine Jm ?_; refine Jo (xCl Tryd.func10 (RP.cv)) ?_; refine Jo (by exact ok_mvT rfl rfl) ?_; refine Jo xEx ?_; refine Jo xEx ?_; refine Ja ?_; refine Ja ?_; refine Je ?_) | (refine Tx 4 ?_; refine Jo (xLa tk_Scalar) ?_; refine Jm ?_; refine Jo (xCl Tryd.func11 (RR.cv)) ?_; refine Jo (by exact ok_mvT rfl rfl) ?_; refine Jo xEx ?_; refine Jo xEx ?_; refine Ja ?_; refine Ja ?_; refine Je ?_) | (refine Tx 5 ?_; refine Jm ?_; refine Jm ?_; refine Jo (by first | exact ok_eqlD rfl rfl rfl (beq_t rfl) | exact xEq) ?_; refine Jm ?_; (first | refine Jd ?_ | refine Jy (by exact ok_mv1 rfl rfl) ?_); (first | refine Jd ?_ | refine Jy (xCl Tryd.func12 (NM.cv)) ?_); (first | refine Jd ?_ | refine Jy (by exact ok_mv1 rfl rfl) ?_); (first | refine Jd ?_ | refine Jy (by first | exact ok_eqlD rfl rfl rfl (beq_t rfl) | exact xEq) ?_); refine Jo xPk ?_; refine Ja ?_; refine Je ?_))
  exact ret_q rfl (.cons_ (rv_b rfl rfl) .nil_)
end Go.Proofs.YtjlocofimlgaoaaDoor
