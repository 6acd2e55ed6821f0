/- What the proofs of this claim share, part 18. No conditions. -/
import Derived.Test.YtilbehepmkpdbaaGreatDoorKh17
import Derived.Test.YtilbehepmkpdbaaGreatDoorKh16
import Derived.Test.YtilbehepmkpdbaaGreatDoorKh10
import Derived.Test.YtilbehepmkpdbaaGreatDoorKh14
set_option linter.unusedVariables false
set_option linter.unusedSimpArgs false
set_option linter.unusedSectionVars false
namespace Go.Proofs.YtilbehepmkpdbaaGreatDoor
open Go.RowKit
def flP : List Prt := [⟨-1, 1, 0⟩]
def flB : List Bk := [⟨0, none, [0], 0, 0, 0, 0, 0⟩, ⟨6, none, [3], 0, 1, -1, 0, 0⟩, ⟨3, none, [0, 1], 0, 0, 0, 0, 0⟩, ⟨2, none, [2], 0, 0, 0, 0, 0⟩]
def flO : List Int := [2]
def flL : List Iq := [((-2, 0), (2, 0))]
theorem flq_len : DgLen flP flB flO := ⟨by decide, by decide, by decide, by decide⟩
theorem flq_err : dgErr flP flB flO = 0 := by decide +kernel
theorem flq_inf : inferA flP flB 2 40 = some (0, flL) := by decide +kernel
theorem flq_sm : Sm (-2, 0) 64 64 ∧ Sm (2, 0) 64 64 := ⟨⟨⟨by decide, fun h => absurd rfl h⟩, by decide, by decide⟩, ⟨⟨by decide, fun h => absurd rfl h⟩, by decide, by decide⟩⟩
theorem flq_iw : ∀ a ∈ flL, IwS a 64 64 := fun a ha => by
  rcases List.mem_singleton.1 ha with rfl
  refine ⟨flq_sm.1, flq_sm.2, ?_⟩
  show (-2 : Int) * 2 ^ (GQ - 0) ≤ 2 * 2 ^ (GQ - 0)
  have := two_pos (GQ - 0)
  omega
theorem flq_rg : rgE flP flB flO (flL.map rvI2) = 0 := by rw [rgE_of flq_err flq_iw rfl]; decide +kernel
theorem flq_cl : clE flP flB flO (flL.map rvI2) = true := by
  unfold clE
  rw [if_pos flq_rg, rvI2_map]
  decide +kernel
theorem cl_of {ps : List Prt} {bs : List Bk} {os : List Int} {l : List Iq} {n d : Nat} (h0 : dgErr ps bs os = 0) (h : ∀ a ∈ l, IwS a n d) (hl : l.length = (delL bs).length) (hb : rgBad ps bs l = false) : rgE ps bs os (l.map rvI2) = 0 ∧ clE ps bs os (l.map rvI2) = closB ps bs l := by
  have e : rgE ps bs os (l.map rvI2) = 0 := by rw [rgE_of h0 h hl, hb]; rfl
  exact ⟨e, by unfold clE; rw [if_pos e, rvI2_map]⟩
theorem infer_get {ps : List Prt} {bs : List Bk} {os : List Int} (h0 : dgErr ps bs os = 0) (hl : DgLen ps bs os) (rd : Int) (r1 : rd ≤ 16) : ∃ (f : Nat) (e : Int) (l : List Iq), f ≤ 1000000000 ∧ inferA ps bs rd f = some (e, l) ∧ ((e = 0 ∧ InvL bs l ∧ rgBad ps bs l = false ∧ closB ps bs l = true) ∨ ((e = 4 ∨ e = 22) ∧ l = [])) := by
  have hdb := delL_le bs
  have hl2 := hl.l2
  refine ⟨300000000, ?_⟩
  unfold inferA
  by_cases hf : (startI bs).any farB = true
  · exact ⟨22, [], by decide, by rw [if_pos hf], .inr ⟨.inr rfl, rfl⟩⟩
  · rw [if_neg hf]
    rw [Bool.not_eq_true] at hf
    have hI := startI_inv h0 hf
    obtain ⟨⟨e, l⟩, hr⟩ := infer_ends (rd := rd) h0 20 300000000 1 (startI bs) hI (by omega) (by omega)
    exact ⟨e, l, by decide, hr, infer_ok h0 _ _ _ _ _ hI hr⟩
set_option maxRecDepth 100000 in
set_option maxHeartbeats 4000000 in
theorem filter_cv  : CV Tryz.prog TabAt 39 [] [aDg false flP flB flO] := by
  refine cv_of tab_G Tryz.func39 rfl Tryz.ntmps39 (Nat.le_of_ble_eq_true rfl) ?_
  repeat' (with_reducible first | apply qa | apply qb | apply qc | apply qd | apply qe | apply qf | apply qg | apply qh | apply qi | apply qj | apply qk | apply ql rfl | apply qm rfl | apply qn rfl | (refine Tx 0 ?_; refine Jn (by exact ok_alloc rfl tz_Diagram) ?_; refine Je ?_) | (refine Tx 1 ?_; refine Jo (by exact ok_build rfl tb_Port rfl rfl) ?_; refine Jn (by exact ok_build1 rfl ts_s_Port tz_Port rfl rfl (by decide) (by decide)) ?_; refine Jn (by exact ok_build1 rfl ts_s_int tz_int rfl rfl (by decide) (by decide)) ?_; refine Jn (by exact ok_build1 rfl ts_s_int tz_int rfl rfl (by decide) (by decide)) ?_; refine Jo (by exact ok_build rfl tb_Block rfl rfl) ?_; refine Jn (by exact ok_build1 rfl ts_s_int tz_int rfl rfl (by decide) (by decide)) ?_; refine Jo (by exact ok_build rfl tb_Scalar rfl rfl) ?_; refine Jo (by exact ok_build rfl tb_Block rfl rfl) ?_; refine Jn (by exact ok_build2 rfl ts_s_int tz_int rfl rfl rfl rfl (by decide) (by decide)) ?_; refine Jo (by exact ok_build rfl tb_Block rfl rfl) ?_; refine Jn (by exact ok_build1 rfl ts_s_int tz_int rfl rfl (by decide) (by decide)) ?_; refine Jo (by exact ok_build rfl tb_Block rfl rfl) ?_; refine Jn (by exact ok_buildN rfl rfl ts_s_Block tz_Block (by decide) (by decide) (by decide) rfl rfl rfl) ?_; refine Jo (by exact ok_build rfl tb_Diagram rfl rfl) ?_; refine Js (xSk tk_Diagram) ?_; refine Je ?_))
  exact ret_q rfl (.cons_ (rv_box rfl rfl tk_Diagram rfl rfl (by first | ((repeat' first | exact lrel_n rfl rfl | refine lrel_c rfl rfl ?_ ?_ | refine xexp_1 rfl rfl ?_ | refine xexp_a rfl rfl ?_ | exact cexp_d rfl (fun _ => DFree.val _) | exact cexp_n rfl rfl | exact cexp_e rfl rfl | refine cexp_o rfl rfl rfl ?_) <;> fail) | fail)) .nil_)
set_option maxRecDepth 100000 in
set_option maxHeartbeats 4000000 in
theorem awake12_cv  : CV Tryz.prog TabAt 9 [] [aB true] := by
  refine cv_of tab_G Tryz.func9 rfl Tryz.ntmps9 (Nat.le_of_ble_eq_true rfl) ?_
  have IN := rginfer_cv false flq_len flq_err 2 (by decide) (by decide) (0, flL) 40 (by decide) flq_inf
  rw [show aIws ((0 : Int), flL).2 = .one (.row false 6 1 (flatD (dIw false) flL)) from rfl] at IN
  have CL := rgclosed_cv false flq_len (flL.map rvI2) (rvI2_L flq_iw (by decide)) (by decide)
  rw [flq_cl, flq_rg, rowV_of, show flL.length = 1 from rfl] at CL
  have IT := riints_cv (-2) 2 (by decide) (by decide)
  rw [show spanL [((-2 : Int), 0), (2, 0)] = ((-2, 0), (2, 0)) by decide +kernel] at IT
  have iw := flq_iw _ (List.mem_singleton.2 rfl)
  have SM := risame_cv ((-2, 0), (2, 0)) ((-2, 0), (2, 0)) (iw.L (by decide)) (iw.L (by decide))
  rw [decide_eq_true rfl] at SM
  repeat' (with_reducible first | apply qa | apply qb | apply qc | apply qd | apply qe | apply qf | apply qg | apply qh | apply qi | apply qj | apply qk | apply ql rfl | apply qm rfl | apply qn rfl | (refine Tx 0 ?_; refine Ja ?_; refine Je ?_) | (refine Tx 1 ?_; refine Jo (xCl Tryz.func39 (filter_cv)) ?_; refine Jo (xCl Tryz.func20 (IN)) ?_; refine Jo (by exact ok_mvT rfl rfl) ?_; refine Jo xEx ?_; refine Jo xEx ?_; refine Ja ?_; refine Ja ?_; refine Je ?_) | (refine Tx 2 ?_; refine Jo (xCl Tryz.func39 (filter_cv)) ?_; refine Jm ?_; refine Jo (xCl Tryz.func13 (CL)) ?_; refine Jo (by exact ok_mvT rfl rfl) ?_; refine Jo xEx ?_; refine Jo xEx ?_; refine Ja ?_; refine Ja ?_; refine Je ?_) | (refine cw_any (id := 3) mixed (by kernel_rfl) ?_; refine Km ?_; refine Ko (by first | exact ok_eqlE rfl ti_error rfl (beq_t rfl) | exact ok_eqlE rfl ti_error rfl (beq_t (by first | rfl | omega)) | exact ok_eqlE rfl ti_error rfl (beq_f (by first | assumption | omega)) | exact ok_eqlE rfl ti_error rfl rfl) ?_; refine Km ?_; (first | refine Kd ?_ | refine Ky (by exact ok_mv1 rfl rfl) ?_); (first | refine Kd ?_ | refine Ky (by first | exact ok_eqlE rfl ti_error rfl (beq_t rfl) | exact ok_eqlE rfl ti_error rfl (beq_t (by first | rfl | omega)) | exact ok_eqlE rfl ti_error rfl (beq_f (by first | assumption | omega)) | exact ok_eqlE rfl ti_error rfl rfl) ?_); refine Ko xPk ?_; refine Km ?_; (first | refine Kd ?_ | refine Ky (by exact ok_mv1 rfl rfl) ?_); refine Ko xPk ?_; refine Km ?_; (first | refine Kd ?_ | refine Ky (by exact ok_mv1 rfl rfl) ?_); (first | refine Kd ?_ | refine Ky (xLn ts_s_Interval) ?_); (first | refine Kd ?_ | refine Ky xEq ?_); refine Ko xPk ?_; refine Km ?_; (first | refine Kd ?_ | refine Ky (by exact ok_mv1 rfl rfl) ?_); (first | refine Kd ?_ | refine Ky (by exact ok_ixR (i := 0) rfl rfl rfl rfl ts_s_Interval (by decide) (by decide) rfl) ?_); (first | refine Kd ?_ | refine Ky (xLa tk_Interval) ?_); (first | refine Kd ?_ | refine Ky (xCl Tryz.func40 (IT)) ?_); (first | refine Kd ?_ | refine Ky (xCl Tryz.func31 (SM)) ?_); refine Ko xPk ?_; refine Ka ?_; refine Ke ?_))
  exact ret_q rfl (.cons_ (rv_b rfl (rfl)) .nil_)
set_option maxRecDepth 100000 in
set_option maxHeartbeats 4000000 in
theorem rangesHold_cv (ps : List Prt) (bs : List Bk) (os : List Int) (k : Int) (hk0 : 0 ≤ k) (hk1 : k < 256) : CV Tryz.prog TabAt 4 [aDg true ps bs os, .one (.val (.int .u8 k))] [aB true] := by
  refine cv_of tab_G Tryz.func4 rfl Tryz.ntmps4 (Nat.le_of_ble_eq_true rfl) ?_
  have LT := light_cvT true ps bs os
  by_cases h1 : lightB ps bs os = true
  case neg =>
    rw [Bool.not_eq_true] at h1
    rw [h1] at LT
    repeat' (with_reducible first | apply qa | apply qb | apply qc | apply qd | apply qe | apply qf | apply qg | apply qh | apply qi | apply qj | apply qk | apply ql rfl | apply qm rfl | apply qn rfl | (refine Tx 0 ?_; refine Jn xBo ?_; refine Ja ?_; refine Je ?_) | (refine Tx 1 ?_; refine Jo (xCl Tryz.func9 (awake12_cv)) ?_; refine Jo (by first | exact ok_not rfl rfl | exact ok_neg64 rfl rfl (by omega)) ?_; refine Jm ?_; (first | refine Jd ?_ | refine Jy (xLa tk_Diagram) ?_); (first | refine Jd ?_ | refine Jy (xCl Tryz.func10 (LT)) ?_); (first | refine Jd ?_ | refine Jy (by first | exact ok_not rfl rfl | exact ok_neg64 rfl rfl (by omega)) ?_); refine Jo xPk ?_; refine Jm ?_; (first | refine Jd ?_ | refine Jy (xLa tk_Diagram) ?_); (first | refine Jd ?_ | refine Jy (xCl Tryz.func19 (PC)) ?_); (first | refine Jd ?_ | refine Jy (by first | exact ok_neqE rfl ti_error rfl (bne_f (by first | rfl | omega)) | exact ok_neqE rfl ti_error rfl (bne_t (by first | assumption | omega)) | exact ok_neqE rfl ti_error rfl rfl) ?_); refine Jo xPk ?_; refine Je ?_) | (refine Tx 2 ?_; refine Jo (xCl Tryz.func9 (awake12_cv)) ?_; refine Ja ?_; refine Je ?_))
    exact ret_q rfl (.cons_ (rv_b rfl (rfl)) .nil_)
  rw [h1] at LT
  have hl := (light_len h1).1
  have PC := (pcheck_cv true hl).cv
  by_cases h0 : dgErr ps bs os = 0
  case neg =>
    repeat' (with_reducible first | apply qa | apply qb | apply qc | apply qd | apply qe | apply qf | apply qg | apply qh | apply qi | apply qj | apply qk | apply ql rfl | apply qm rfl | apply qn rfl | (refine Tx 0 ?_; refine Jn xBo ?_; refine Ja ?_; refine Je ?_) | (refine Tx 1 ?_; refine Jo (xCl Tryz.func9 (awake12_cv)) ?_; refine Jo (by first | exact ok_not rfl rfl | exact ok_neg64 rfl rfl (by omega)) ?_; refine Jm ?_; (first | refine Jd ?_ | refine Jy (xLa tk_Diagram) ?_); (first | refine Jd ?_ | refine Jy (xCl Tryz.func10 (LT)) ?_); (first | refine Jd ?_ | refine Jy (by first | exact ok_not rfl rfl | exact ok_neg64 rfl rfl (by omega)) ?_); refine Jo xPk ?_; refine Jm ?_; (first | refine Jd ?_ | refine Jy (xLa tk_Diagram) ?_); (first | refine Jd ?_ | refine Jy (xCl Tryz.func19 (PC)) ?_); (first | refine Jd ?_ | refine Jy (by first | exact ok_neqE rfl ti_error rfl (bne_t h0) | exact ok_neqE rfl ti_error rfl (bne_f (by first | rfl | omega)) | exact ok_neqE rfl ti_error rfl (bne_t (by first | assumption | omega)) | exact ok_neqE rfl ti_error rfl rfl) ?_); refine Jo xPk ?_; refine Je ?_) | (refine Tx 2 ?_; refine Jo (xCl Tryz.func9 (awake12_cv)) ?_; refine Ja ?_; refine Je ?_))
    exact ret_q rfl (.cons_ (rv_b rfl (rfl)) .nil_)
  obtain ⟨m, hm⟩ : ∃ m, k.tmod 16 = m := ⟨_, rfl⟩
  have hm2 : 0 ≤ m ∧ m < 16 := by rw [← hm, Int.tmod_eq_emod_of_nonneg hk0]; omega
  have hwr : IntKind.i64.wrap m = m := IntWalk.i64_in m (by omega)
  rw [h0] at PC
  obtain ⟨f, e, l, hf, hr, hres⟩ := infer_get h0 hl (1 + m) (by omega)
  have IN := rginfer_cv true hl h0 (1 + m) (by omega) (by omega) (e, l) f hf hr
  rcases hres with ⟨rfl, hI, hb, hc⟩ | ⟨he, rfl⟩
  ·
    obtain ⟨q1, q2⟩ := cl_of h0 hI.iw hI.len hb
    have hdb := delL_le bs
    have hl2 := hl.l2
    have hll := hI.len
    have CL := rgclosed_cv true hl (l.map rvI2) (rvI2_L hI.iw (by decide)) (by rw [List.length_map]; omega)
    rw [q1, q2, hc, rowV_of] at CL
    unfold aIws at IN
    repeat' (with_reducible first | apply qa | apply qb | apply qc | apply qd | apply qe | apply qf | apply qg | apply qh | apply qi | apply qj | apply qk | apply ql rfl | apply qm rfl | apply qn rfl | (refine Tx 0 ?_; refine Jn xBo ?_; refine Ja ?_; refine Je ?_) | (refine Tx 1 ?_; refine Jo (xCl Tryz.func9 (awake12_cv)) ?_; refine Jo (by first | exact ok_not rfl rfl | exact ok_neg64 rfl rfl (by omega)) ?_; refine Jm ?_; (first | refine Jd ?_ | refine Jy (xLa tk_Diagram) ?_); (first | refine Jd ?_ | refine Jy (xCl Tryz.func10 (LT)) ?_); (first | refine Jd ?_ | refine Jy (by first | exact ok_not rfl rfl | exact ok_neg64 rfl rfl (by omega)) ?_); refine Jo xPk ?_; refine Jm ?_; (first | refine Jd ?_ | refine Jy (xLa tk_Diagram) ?_); (first | refine Jd ?_ | refine Jy (xCl Tryz.func19 (PC)) ?_); (first | refine Jd ?_ | refine Jy (by first | exact ok_neqE rfl ti_error rfl (bne_f rfl) | exact ok_neqE rfl ti_error rfl (bne_f (by first | rfl | omega)) | exact ok_neqE rfl ti_error rfl (bne_t (by first | assumption | omega)) | exact ok_neqE rfl ti_error rfl rfl) ?_); refine Jo xPk ?_; refine Je ?_) | (refine Tx 3 ?_; refine Jo (xLa tk_Diagram) ?_; refine Jm ?_; refine Jo (by first | exact ok_remR rfl rfl rfl (by decide) hm | exact ok_rem rfl rfl rfl (by omega)) ?_; refine Jo (by first | exact ok_convR rfl Tryz.underlying5 Tryz.underlying3 rfl hwr | exact ok_conv rfl Tryz.underlying5 Tryz.underlying3 rfl) ?_; refine Jo xAd ?_; refine Jo (xCl Tryz.func20 (IN)) ?_; refine Jo (by exact ok_mvT rfl rfl) ?_; refine Jo xEx ?_; refine Jo xEx ?_; refine Ja ?_; refine Ja ?_; refine Je ?_) | (refine Tx 4 ?_; refine Jm ?_; refine Jo (by first | exact ok_neqE rfl ti_error rfl (bne_f rfl) | exact ok_neqE rfl ti_error rfl (bne_f (by first | rfl | omega)) | exact ok_neqE rfl ti_error rfl (bne_t (by first | assumption | omega)) | exact ok_neqE rfl ti_error rfl rfl) ?_; refine Je ?_) | (refine Tx 6 ?_; refine Jo (xLa tk_Diagram) ?_; refine Jm ?_; refine Jo (xCl Tryz.func13 (CL)) ?_; refine Jo (by exact ok_mvT rfl rfl) ?_; refine Jo xEx ?_; refine Jo xEx ?_; refine Ja ?_; refine Ja ?_; refine Je ?_) | (refine Tx 7 ?_; refine Jm ?_; refine Jo (by first | exact ok_eqlE rfl ti_error rfl (beq_t rfl) | exact ok_eqlE rfl ti_error rfl (beq_t (by first | rfl | omega)) | exact ok_eqlE rfl ti_error rfl (beq_f (by first | assumption | omega)) | exact ok_eqlE rfl ti_error rfl rfl) ?_; refine Jm ?_; (first | refine Jd ?_ | refine Jy (by exact ok_mv1 rfl rfl) ?_); refine Jo xPk ?_; refine Ja ?_; refine Je ?_))
    exact ret_q rfl (.cons_ (rv_b rfl (rfl)) .nil_)
  have B1 := (bis_cv e 22).cv
  have B2 := (bis_cv e 4).cv
  rcases he with rfl | rfl
  ·
    rw [show isB 4 22 = false from rfl] at B1
    rw [show isB 4 4 = true from rfl] at B2
    repeat' (with_reducible first | apply qa | apply qb | apply qc | apply qd | apply qe | apply qf | apply qg | apply qh | apply qi | apply qj | apply qk | apply ql rfl | apply qm rfl | apply qn rfl | (refine Tx 0 ?_; refine Jn xBo ?_; refine Ja ?_; refine Je ?_) | (refine Tx 1 ?_; refine Jo (xCl Tryz.func9 (awake12_cv)) ?_; refine Jo (by first | exact ok_not rfl rfl | exact ok_neg64 rfl rfl (by omega)) ?_; refine Jm ?_; (first | refine Jd ?_ | refine Jy (xLa tk_Diagram) ?_); (first | refine Jd ?_ | refine Jy (xCl Tryz.func10 (LT)) ?_); (first | refine Jd ?_ | refine Jy (by first | exact ok_not rfl rfl | exact ok_neg64 rfl rfl (by omega)) ?_); refine Jo xPk ?_; refine Jm ?_; (first | refine Jd ?_ | refine Jy (xLa tk_Diagram) ?_); (first | refine Jd ?_ | refine Jy (xCl Tryz.func19 (PC)) ?_); (first | refine Jd ?_ | refine Jy (by first | exact ok_neqE rfl ti_error rfl (bne_f rfl) | exact ok_neqE rfl ti_error rfl (bne_f (by first | rfl | omega)) | exact ok_neqE rfl ti_error rfl (bne_t (by first | assumption | omega)) | exact ok_neqE rfl ti_error rfl rfl) ?_); refine Jo xPk ?_; refine Je ?_) | (refine Tx 3 ?_; refine Jo (xLa tk_Diagram) ?_; refine Jm ?_; refine Jo (by first | exact ok_remR rfl rfl rfl (by decide) hm | exact ok_rem rfl rfl rfl (by omega)) ?_; refine Jo (by first | exact ok_convR rfl Tryz.underlying5 Tryz.underlying3 rfl hwr | exact ok_conv rfl Tryz.underlying5 Tryz.underlying3 rfl) ?_; refine Jo xAd ?_; refine Jo (xCl Tryz.func20 (IN)) ?_; refine Jo (by exact ok_mvT rfl rfl) ?_; refine Jo xEx ?_; refine Jo xEx ?_; refine Ja ?_; refine Ja ?_; refine Je ?_) | (refine Tx 4 ?_; refine Jm ?_; refine Jo (by first | exact ok_neqE rfl ti_error rfl (bne_t (by decide)) | exact ok_neqE rfl ti_error rfl (bne_f (by first | rfl | omega)) | exact ok_neqE rfl ti_error rfl (bne_t (by first | assumption | omega)) | exact ok_neqE rfl ti_error rfl rfl) ?_; refine Je ?_) | (refine Tx 5 ?_; refine Jm ?_; refine Jo (by first | exact xCl Tryz.func21 (B1) | exact xCl Tryz.func21 (B2)) ?_; refine Jm ?_; (first | refine Jd ?_ | refine Jy (by exact ok_mv1 rfl rfl) ?_); (first | refine Jd ?_ | refine Jy (by first | exact xCl Tryz.func21 (B2) | exact xCl Tryz.func21 (B1)) ?_); refine Jo xPk ?_; refine Ja ?_; refine Je ?_))
    exact ret_q rfl (.cons_ (rv_b rfl (rfl)) .nil_)
  ·
    rw [show isB 22 22 = true from rfl] at B1
    rw [show isB 22 4 = false from rfl] at B2
    repeat' (with_reducible first | apply qa | apply qb | apply qc | apply qd | apply qe | apply qf | apply qg | apply qh | apply qi | apply qj | apply qk | apply ql rfl | apply qm rfl | apply qn rfl | (refine Tx 0 ?_; refine Jn xBo ?_; refine Ja ?_; refine Je ?_) | (refine Tx 1 ?_; refine Jo (xCl Tryz.func9 (awake12_cv)) ?_; refine Jo (by first | exact ok_not rfl rfl | exact ok_neg64 rfl rfl (by omega)) ?_; refine Jm ?_; (first | refine Jd ?_ | refine Jy (xLa tk_Diagram) ?_); (first | refine Jd ?_ | refine Jy (xCl Tryz.func10 (LT)) ?_); (first | refine Jd ?_ | refine Jy (by first | exact ok_not rfl rfl | exact ok_neg64 rfl rfl (by omega)) ?_); refine Jo xPk ?_; refine Jm ?_; (first | refine Jd ?_ | refine Jy (xLa tk_Diagram) ?_); (first | refine Jd ?_ | refine Jy (xCl Tryz.func19 (PC)) ?_); (first | refine Jd ?_ | refine Jy (by first | exact ok_neqE rfl ti_error rfl (bne_f rfl) | exact ok_neqE rfl ti_error rfl (bne_f (by first | rfl | omega)) | exact ok_neqE rfl ti_error rfl (bne_t (by first | assumption | omega)) | exact ok_neqE rfl ti_error rfl rfl) ?_); refine Jo xPk ?_; refine Je ?_) | (refine Tx 3 ?_; refine Jo (xLa tk_Diagram) ?_; refine Jm ?_; refine Jo (by first | exact ok_remR rfl rfl rfl (by decide) hm | exact ok_rem rfl rfl rfl (by omega)) ?_; refine Jo (by first | exact ok_convR rfl Tryz.underlying5 Tryz.underlying3 rfl hwr | exact ok_conv rfl Tryz.underlying5 Tryz.underlying3 rfl) ?_; refine Jo xAd ?_; refine Jo (xCl Tryz.func20 (IN)) ?_; refine Jo (by exact ok_mvT rfl rfl) ?_; refine Jo xEx ?_; refine Jo xEx ?_; refine Ja ?_; refine Ja ?_; refine Je ?_) | (refine Tx 4 ?_; refine Jm ?_; refine Jo (by first | exact ok_neqE rfl ti_error rfl (bne_t (by decide)) | exact ok_neqE rfl ti_error rfl (bne_f (by first | rfl | omega)) | exact ok_neqE rfl ti_error rfl (bne_t (by first | assumption | omega)) | exact ok_neqE rfl ti_error rfl rfl) ?_; refine Je ?_) | (refine Tx 5 ?_; refine Jm ?_; refine Jo (by first | exact xCl Tryz.func21 (B1) | exact xCl Tryz.func21 (B2)) ?_; refine Jm ?_; (first | refine Jd ?_ | refine Jy (by exact ok_mv1 rfl rfl) ?_); (first | refine Jd ?_ | refine Jy (by first | exact xCl Tryz.func21 (B2) | exact xCl Tryz.func21 (B1)) ?_); refine Jo xPk ?_; refine Ja ?_; refine Je ?_))
    exact ret_q rfl (.cons_ (rv_b rfl (rfl)) .nil_)
end Go.Proofs.YtilbehepmkpdbaaGreatDoor
namespace Go.Proofs.YtilbehepmkpdbaaGreatDoor
open Go.ChangeShapes Go.WideShapes Go.ChangeAt Go.RowKit Go.Joins Go.Deep
def AllS (w : World) : Sets := fun t b => t = true ∧ b < w.heap.size
theorem row_in {w : World} {A : Option Addr} {s n c : Nat} {cs : List D} {xs : List Value} (h : CellsAt w w.heap.size A xs) (hc : n ≤ c) (hA : A = none → c = 0) (hl : cs.length = n * s) (hr : LRel (DRel w (AllS w)) cs xs) : DRel w (AllS w) (.row true s n cs) (.slice A n c) := by
  refine .row xs hc hA hl hr.1 (fun hne => ?_) hr.2
  obtain ⟨b, off, h1, _, h2, h3⟩ := h (fun h0 => hne (by have := hr.1; rw [h0] at this; exact List.eq_nil_of_length_eq_zero (by simpa using this)))
  exact ⟨b, off, h1, ⟨rfl, h2⟩, h3⟩
theorem ints_one {zs : List Int} : ∀ v ∈ ints zs, v.oneCell' = true := fun v hv => by
  obtain ⟨z, _, rfl⟩ := List.mem_map.1 hv
  rfl
theorem rowI_in {w : World} {A : Option Addr} {zs : List Int} {c : Nat} (h : CellsAt w w.heap.size A (ints zs)) (hc : zs.length ≤ c) (hA : A = none → c = 0) : DRel w (AllS w) (rowI true zs) (.slice A zs.length c) := by
  unfold rowI
  rw [dI_map]
  exact row_in h hc hA (by simp [ints]) (rel_vals ints_one)
theorem prt_one {ps : List Prt} : ∀ v ∈ flat Prt.cells ps, v.oneCell' = true := fun v hv => by
  obtain ⟨l, hl, hv⟩ := List.mem_flatten.1 hv
  obtain ⟨p, _, rfl⟩ := List.mem_map.1 hl
  simp only [Prt.cells, List.mem_cons, List.not_mem_nil, or_false] at hv
  rcases hv with rfl | rfl | rfl <;> rfl
theorem flat_lenV {α : Type} {f : α → List Value} {s : Nat} (hf : ∀ x, (f x).length = s) : ∀ l : List α, (flat f l).length = l.length * s
  | [] => by simp [flat]
  | x :: l => by
    have ih := flat_lenV hf l
    unfold flat at ih ⊢
    rw [List.map_cons, List.flatten_cons, List.length_append, ih, hf, List.length_cons, Nat.add_mul]
    omega
theorem rowP_in {w : World} {A : Option Addr} {ps : List Prt} {c : Nat} (h : CellsAt w w.heap.size A (flat Prt.cells ps)) (hc : ps.length ≤ c) (hA : A = none → c = 0) : DRel w (AllS w) (rowP true ps) (.slice A ps.length c) := by
  unfold rowP
  rw [flatD_vals dPrt_vals]
  exact row_in h hc hA (by rw [List.length_map]; exact flat_lenV (f := Prt.cells) (s := 3) (fun _ => rfl) ps) (rel_vals prt_one)
theorem bks_in {w : World} : ∀ {bs : List Bk}, (∀ b ∈ bs, CellsAt w w.heap.size b.A (ints b.args) ∧ b.args.length ≤ b.cap ∧ (b.A = none → b.cap = 0)) → LRel (DRel w (AllS w)) (flatD (dBk true) bs) (flat Bk.cells bs)
  | [], _ => .nil_
  | b :: bs, h => by
    have ih := bks_in (w := w) (bs := bs) fun x hx => h x (by simp [hx])
    obtain ⟨h1, h2, h3⟩ := h b (by simp)
    exact .cons_ (.val rfl) (.cons_ (rowI_in h1 h2 h3) (.cons_ (.val rfl) (.cons_ (.val rfl) (.cons_ (.val rfl) (.cons_ (.val rfl) ih)))))
theorem bks_len (t : Bool) : ∀ bs : List Bk, (flatD (dBk t) bs).length = bs.length * 6
  | [] => rfl
  | b :: bs => by
    have ih := bks_len t bs
    show (flatD (dBk t) ([b] ++ bs)).length = _
    rw [flatD_app, List.length_append, ih, List.length_cons, Nat.add_mul]
    show 6 + bs.length * 6 = _
    omega
section
variable {H : Type} {enc : TypeId × Value → H} {w : World} {spare : Nat → Bool} {held : Bool}
set_option maxRecDepth 100000 in
theorem open_dgA {r : Go.Reach} {b0 : Nat} {v : Value} {d : DataW H} {p : List MemPlace} (hv : Value.okWide Tryz.prog w r b0 26 v) (h : DataW.Trod enc Tryz.prog w 0 spare held 26 v d p) :
    ∃ (ps : List Prt) (bs : List Bk) (os : List Int), ARel w (AllS w) (aDg true ps bs os) v := by
  obtain ⟨v0, v1, v2, y0, y1, y2, m, rfl, rfl, rfl, g0, g1, g2⟩ := open_agg3 Tryz.underlying26 (by kernel_rfl) (by kernel_rfl) hv h
  obtain ⟨A1, c1, ps, rfl, n1, k1, l1, h1, b1⟩ := rows_of_cell prtOf prtOf_cells (fun _ => rfl) (by decide) Tryz.underlying22 Tryz.underlying68 (by kernel_rfl) (fields_int (by kernel_rfl)) (by kernel_rfl) rfl g0
  obtain ⟨A2, c2, bs, e2, l2, h2, b2⟩ := blks_of_cell g1
  obtain ⟨A3, c3, os, rfl, n3, k3, l3, h3, b3⟩ := ints_of_cell' Tryz.underlying24 Tryz.underlying3 (by kernel_rfl) g2
  have hs : (A2 = none → c2 = 0) ∧ bs.length ≤ c2 := by
    rcases open_slice Tryz.underlying23 g1 with ⟨hcs, _⟩ | ⟨a, len, cap, m, n, D, Pl, hcs, _, hl, hm, hmm, _, hx⟩
    · have e3 : v1 = .slice none 0 0 := by simpa using hcs
      rw [e2] at e3
      simp only [Value.slice.injEq] at e3
      exact ⟨fun _ => e3.2.2, by omega⟩
    · have e3 : v1 = .slice (some a) len cap := by simpa using hcs
      rw [e2] at e3
      simp only [Value.slice.injEq] at e3
      exact ⟨fun h0 => (by rw [e3.1] at h0; cases h0), by omega⟩
  refine ⟨ps, bs, os, [.slice A1 ps.length c1, v1, .slice A3 os.length c3], rfl, ?_⟩
  rw [e2]
  exact .cons_ (rowP_in h1 k1 n1) (.cons_ (row_in h2 hs.2 hs.1 (bks_len true bs) (bks_in fun b hb => ⟨(b2 b hb).2.2.2.1, (b2 b hb).2.1, (b2 b hb).1⟩)) (.cons_ (rowI_in h3 k3 n3) .nil_))
end
def AllF (w : World) : Sets := fun _ b => b < w.heap.size
theorem AllF.of {w : World} {x : A} {v : Value} (h : ARel w (AllS w) x v) : ARel w (AllF w) x v := h.mono (fun _ _ hb => hb.2) fun _ _ _ => rfl
theorem cv_lawA {f : FuncId} {args : List A} (h : CV Tryz.prog TabAt f args [aB true]) {w : World} (ht : TabAt w) {vs : List Value} (ha : LRel (ARel w (AllF w)) args vs) :
    Calls Tryz.prog f vs.toArray w fun e w' => e = .returned (.bool true) ∧ Below w.heap.size w w' :=
  (h w _ vs ht (fun t b hb => hb) ha).mono fun e w' ⟨v, h1, h2, h3⟩ => by
    have h4 : DRel w' _ (dB true) v := h2
    cases h4
    exact ⟨h1, h3⟩
structure RowA (α : Type) (s : Nat) where
  cs : List Value
  len : cs.length = s
  a : α
instance {α : Type} {s : Nat} [Inhabited α] : Inhabited (RowA α s) := ⟨⟨List.replicate s undef, List.length_replicate, default⟩⟩
section
variable {H : Type} {enc : TypeId × Value → H} {w : World} {spare : Nat → Bool} {held : Bool}
instance : Inhabited Rv := ⟨⟨false, [], 0⟩⟩
def RvIn (r : Rv) : Prop := wordsOk r.ws ∧ r.ws.length ≤ maxLen ∧ -9223372036854775808 ≤ r.den ∧ r.den ≤ 9223372036854775807
end
end Go.Proofs.YtilbehepmkpdbaaGreatDoor
